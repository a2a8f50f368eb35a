/- Parts of the proof: walks and plain facts. Conditions: as each theorem states. -/
import Derived.Test.YtojbkljfioegkaaGreatG3
import Derived.Test.YtojbkljfioegkaaGreatG2
namespace Go.Proofs.YtojbkljfioegkaaGreat
set_option linter.unusedSimpArgs false
set_option linter.unusedVariables false
open Go.RowKit
set_option maxHeartbeats 4000000
set_option maxRecDepth 100000
theorem grid_bd2 {p : Int → Int → Bool} {x0 y0 y : Int} {w n m : Nat} (hn : n ≤ 33000) (hw : w ≤ 33000) (hm : m ≤ w) : (cN p x0 w y0 n).length + (rowR p x0 y m).length ≤ 1089033000 := by
 have h1 := j8 (p := p) (x0 := x0) (y0 := y0) (w := w) n
 have h2 := lw (p := p) (x0 := x0) (y := y) m
 have h3 := Nat.mul_le_mul hn hw
 omega
def rngB (lo hi : Int) : Bool := decide (0 ≤ lo) && (decide (lo ≤ hi) && decide (hi ≤ 2048))
def trE (px py vx vy vd lo hi : Int) : Int := if (ptB px py && cZ vx vy vd) = true then (if rngB lo hi = true then 0 else 2) else 1
def trL (px py vx vy vd lo hi : Int) : List (Int × Int) := mkL (trE px py vx vy vd lo hi) (dE px py px py vx vy vd lo hi)
def fv (x0 y0 x1 y1 vx vy vd lo hi : Int) : Int := if (fY x0 y0 x1 y1 && cZ vx vy vd) = true then (if rngB lo hi = true then (if 1024 < x1 - x0 ∨ 1024 < y1 - y0 then 6 else 0) else 2) else 1
def cM (x0 y0 x1 y1 vx vy vd lo hi : Int) : List (Int × Int) := mkL (fv x0 y0 x1 y1 vx vy vd lo hi) (dE x0 y0 x1 y1 vx vy vd lo hi)
theorem e8 {lo hi : Int} : rngB lo hi = true ↔ 0 ≤ lo ∧ lo ≤ hi ∧ hi ≤ 2048 := by unfold rngB; simp only [Bool.and_eq_true, decide_eq_true_eq]
theorem ge {x y : Int} : ptB x y = true ↔ (-1048576 ≤ x ∧ x ≤ 1048576) ∧ -1048576 ≤ y ∧ y ≤ 1048576 := by unfold ptB; rw [Bool.and_eq_true, br, br]
theorem trE_1 {px py vx vy vd lo hi : Int} (h : ¬ (ptB px py = true ∧ cZ vx vy vd = true)) : trE px py vx vy vd lo hi = 1 ∧ trL px py vx vy vd lo hi = [] := by
 have e : trE px py vx vy vd lo hi = 1 := if_neg (by rw [Bool.and_eq_true]; exact h)
 exact ⟨e, if_neg (by rw [e]; decide)⟩
theorem trE_2 {px py vx vy vd lo hi : Int} (h1 : ptB px py = true) (h2 : cZ vx vy vd = true) (h : ¬ (0 ≤ lo ∧ lo ≤ hi ∧ hi ≤ 2048)) : trE px py vx vy vd lo hi = 2 ∧ trL px py vx vy vd lo hi = [] := by
 have e : trE px py vx vy vd lo hi = 2 := by unfold trE; rw [h1, h2, if_pos (show (true && true) = true from rfl), if_neg (by rw [e8]; exact h)]
 exact ⟨e, if_neg (by rw [e]; decide)⟩
theorem trE_0 {px py vx vy vd lo hi : Int} (h1 : ptB px py = true) (h2 : cZ vx vy vd = true) (h : 0 ≤ lo ∧ lo ≤ hi ∧ hi ≤ 2048) : trE px py vx vy vd lo hi = 0 ∧ trL px py vx vy vd lo hi = dE px py px py vx vy vd lo hi := by
 have e : trE px py vx vy vd lo hi = 0 := by unfold trE; rw [h1, h2, if_pos (show (true && true) = true from rfl), if_pos (e8.2 h)]
 exact ⟨e, if_pos e⟩
theorem sptE_1 {x0 y0 x1 y1 vx vy vd lo hi : Int} (h : ¬ (fY x0 y0 x1 y1 = true ∧ cZ vx vy vd = true)) : fv x0 y0 x1 y1 vx vy vd lo hi = 1 ∧ cM x0 y0 x1 y1 vx vy vd lo hi = [] := by
 have e : fv x0 y0 x1 y1 vx vy vd lo hi = 1 := if_neg (by rw [Bool.and_eq_true]; exact h)
 exact ⟨e, if_neg (by rw [e]; decide)⟩
theorem sptE_2 {x0 y0 x1 y1 vx vy vd lo hi : Int} (h1 : fY x0 y0 x1 y1 = true) (h2 : cZ vx vy vd = true) (h : ¬ (0 ≤ lo ∧ lo ≤ hi ∧ hi ≤ 2048)) : fv x0 y0 x1 y1 vx vy vd lo hi = 2 ∧ cM x0 y0 x1 y1 vx vy vd lo hi = [] := by
 have e : fv x0 y0 x1 y1 vx vy vd lo hi = 2 := by unfold fv; rw [h1, h2, if_pos (show (true && true) = true from rfl), if_neg (by rw [e8]; exact h)]
 exact ⟨e, if_neg (by rw [e]; decide)⟩
theorem sptE_6 {x0 y0 x1 y1 vx vy vd lo hi : Int} (h1 : fY x0 y0 x1 y1 = true) (h2 : cZ vx vy vd = true) (h : 0 ≤ lo ∧ lo ≤ hi ∧ hi ≤ 2048) (k : 1024 < x1 - x0 ∨ 1024 < y1 - y0) : fv x0 y0 x1 y1 vx vy vd lo hi = 6 ∧ cM x0 y0 x1 y1 vx vy vd lo hi = [] := by
 have e : fv x0 y0 x1 y1 vx vy vd lo hi = 6 := by unfold fv; rw [h1, h2, if_pos (show (true && true) = true from rfl), if_pos (e8.2 h), if_pos k]
 exact ⟨e, if_neg (by rw [e]; decide)⟩
theorem sptE_0 {x0 y0 x1 y1 vx vy vd lo hi : Int} (h1 : fY x0 y0 x1 y1 = true) (h2 : cZ vx vy vd = true) (h : 0 ≤ lo ∧ lo ≤ hi ∧ hi ≤ 2048) (k : ¬ (1024 < x1 - x0 ∨ 1024 < y1 - y0)) : fv x0 y0 x1 y1 vx vy vd lo hi = 0 ∧ cM x0 y0 x1 y1 vx vy vd lo hi = dE x0 y0 x1 y1 vx vy vd lo hi := by
 have e : fv x0 y0 x1 y1 vx vy vd lo hi = 0 := by unfold fv; rw [h1, h2, if_pos (show (true && true) = true from rfl), if_pos (e8.2 h), if_neg k]
 exact ⟨e, if_pos e⟩
theorem vQ {x0 y0 x1 y1 vx vy vd lo hi : Int} (hx : -1048576 ≤ x0 ∧ x0 ≤ x1 ∧ x1 ≤ 1048576) (hy : -1048576 ≤ y0 ∧ y0 ≤ y1 ∧ y1 ≤ 1048576) (hv : cZ vx vy vd = true) (h : 0 ≤ lo ∧ lo ≤ hi ∧ hi ≤ 2048) : (dE x0 y0 x1 y1 vx vy vd lo hi).length ≤ cC (aJ x0 vx vd lo hi) (bQ x1 vx vd lo hi) * cC (aJ y0 vy vd lo hi) (bQ y1 vy vd lo hi) := by
 have := j8 (p := cz x0 y0 x1 y1 vx vy vd lo hi) (x0 := spl (aJ x0 vx vd lo hi)) (y0 := spl (aJ y0 vy vd lo hi)) (w := cC (aJ x0 vx vd lo hi) (bQ x1 vx vd lo hi)) (cC (aJ y0 vy vd lo hi) (bQ y1 vy vd lo hi))
 unfold dE; rw [Nat.mul_comm]; exact this
theorem kO {a b n d lo hi : Int} (hd : 0 < d) (hn : -d ≤ n ∧ n ≤ d) (h0 : 0 ≤ lo) (hh : lo ≤ hi) (h1 : hi ≤ 2048) (hab : a ≤ b ∧ b ≤ a + 1024) : cC (aJ a n d lo hi) (bQ b n d lo hi) ≤ 85 := by
 have r := ja (a := a) (b := b) hd hn h0 hh h1
 unfold cC spl sph; omega
theorem trE_z {px py vx vy vd lo hi : Int} (h : trE px py vx vy vd lo hi = 0) : ptB px py = true ∧ cZ vx vy vd = true ∧ 0 ≤ lo ∧ lo ≤ hi ∧ hi ≤ 2048 := by
 unfold trE at h
 split at h
 ·rename_i hv
  rw [Bool.and_eq_true] at hv
  split at h
  ·rename_i hr; exact ⟨hv.1, hv.2, e8.1 hr⟩
  ·omega
 ·omega
theorem sptE_z {x0 y0 x1 y1 vx vy vd lo hi : Int} (h : fv x0 y0 x1 y1 vx vy vd lo hi = 0) : fY x0 y0 x1 y1 = true ∧ cZ vx vy vd = true ∧ (0 ≤ lo ∧ lo ≤ hi ∧ hi ≤ 2048) ∧ ¬ (1024 < x1 - x0 ∨ 1024 < y1 - y0) := by
 unfold fv at h
 split at h
 ·rename_i hv
  rw [Bool.and_eq_true] at hv
  split at h
  ·rename_i hr
   split at h
   ·omega
   ·rename_i hk; exact ⟨hv.1, hv.2, e8.1 hr, hk⟩
  ·omega
 ·omega
theorem lF (x0 y0 x1 y1 vx vy vd lo hi : Int) : (cM x0 y0 x1 y1 vx vy vd lo hi).length ≤ 7225 := by
 unfold cM mkL
 split
 ·rename_i h
  obtain ⟨h1, h2, hr, hk⟩ := sptE_z h
  have hq := js.1 h1
  have hvv := bh.1 h2
  have l := vQ hq.1 hq.2 h2 hr
  have c1 := kO (a := x0) (b := x1) (n := vx) (d := vd) (lo := lo) (hi := hi) (by omega) (by omega) hr.1 hr.2.1 hr.2.2 (by omega)
  have c2 := kO (a := y0) (b := y1) (n := vy) (d := vd) (lo := lo) (hi := hi) (by omega) (by omega) hr.1 hr.2.1 hr.2.2 (by omega)
  exact Nat.le_trans l (Nat.mul_le_mul c1 c2)
 ·simp
theorem jc (px py vx vy vd lo hi : Int) : (trL px py vx vy vd lo hi).length ≤ 7225 := by
 unfold trL mkL
 split
 ·rename_i h
  obtain ⟨h1, h2, hr⟩ := trE_z h
  have hq := ge.1 h1
  have hvv := bh.1 h2
  have l := vQ (x0 := px) (x1 := px) (y0 := py) (y1 := py) (by omega) (by omega) h2 hr
  have c1 := kO (a := px) (b := px) (n := vx) (d := vd) (lo := lo) (hi := hi) (by omega) (by omega) hr.1 hr.2.1 hr.2.2 (by omega)
  have c2 := kO (a := py) (b := py) (n := vy) (d := vd) (lo := lo) (hi := hi) (by omega) (by omega) hr.1 hr.2.1 hr.2.2 (by omega)
  exact Nat.le_trans l (Nat.mul_le_mul c1 c2)
 ·simp
theorem iC {x0 y0 x1 y1 vx vy vd lo hi : Int} {c : Int × Int} (hx : -1048576 ≤ x0 ∧ x0 ≤ x1 ∧ x1 ≤ 1048576) (hy : -1048576 ≤ y0 ∧ y0 ≤ y1 ∧ y1 ≤ 1048576) (hv : cZ vx vy vd = true) (h : 0 ≤ lo ∧ lo ≤ hi ∧ hi ≤ 2048) : c ∈ dE x0 y0 x1 y1 vx vy vd lo hi ↔ cz x0 y0 x1 y1 vx vy vd lo hi c.1 c.2 = true := by
 have hvv := bh.1 hv
 have r1 := ja (a := x0) (b := x1) (n := vx) (d := vd) (lo := lo) (hi := hi) (by omega) (by omega) h.1 h.2.1 h.2.2
 have r2 := ja (a := y0) (b := y1) (n := vy) (d := vd) (lo := lo) (hi := hi) (by omega) (by omega) h.1 h.2.1 h.2.2
 have c1 := kL (a := aJ x0 vx vd lo hi) (b := bQ x1 vx vd lo hi) (by omega)
 have c2 := kL (a := aJ y0 vy vd lo hi) (b := bQ y1 vy vd lo hi) (by omega)
 unfold dE
 rw [qY]
 constructor
 ·rintro ⟨-, -, k⟩; exact k
 ·intro k
  obtain ⟨⟨k1, k2⟩, k3, k4⟩ := swp_range hx hy k
  have k1 := spl_le.2 k1
  have k2 := le_sph.2 k2
  have k3 := spl_le.2 k3
  have k4 := le_sph.2 k4
  exact ⟨by omega, by omega, k⟩
theorem swp_bd {x0 y0 x1 y1 vx vy vd lo hi a b : Int} (h : cz x0 y0 x1 y1 vx vy vd lo hi a b = true) : (-32768 ≤ a ∧ a ≤ 32768) ∧ -32768 ≤ b ∧ b ≤ 32768 := by
 unfold cz dS at h
 simp only [Bool.and_eq_true, bN] at h
 omega
theorem pvv_c (H : ac) (vx : Int) (vy : Int) (vd : Int) : ACalls Tryz.prog 177 [.agg [.int .i64 vx, .int .i64 vy, .int .i64 vd]] H (fun v H' => v = .bool (cZ vx vy vd) ∧ H' = H) := by
 refine AcT true Tryz.func177 ?_; intro hbel Q hQ
 refine aY ?_
 refine aj (fun h1 => ?_) (fun h1 => ?_)
 ·have h1d := bsT h1
  have g'1 := (jn @h1 @h1d)
  refine aa g'1 ?_
  refine aj (fun h2 => ?_) (fun h2 => ?_)
  ·have h2d := bsT h2
   have g'2 := (jn @h2 (jn @h2d g'1))
   refine aa g'2 ?_
   refine af (by kernel_rfl) (fC _ vx vd (by omega)) ?_
   refine aa g'2 ?_
   refine aj (fun h3 => ?_) (fun h3 => ?_)
   ·have h3d := bsT h3
    have hwx := br.1 h3d
    have g'3 := (jn @h3 (jn @h3d g'2))
    refine aa g'3 ?_
    refine af (by kernel_rfl) (fC _ vy vd (by omega)) ?_
    refine aa g'3 ?_
    refine aj (fun h4 => ?_) (fun h4 => ?_)
    ·have h4d := bsT h4
     have hwy := br.1 h4d
     have hm1 := bS (a := vx) (b := vx) (A := 67108864) (B := 67108864) (by omega) (by omega)
     have hm2 := bS (a := vy) (b := vy) (A := 67108864) (B := 67108864) (by omega) (by omega)
     have hm3 := bS (a := vd) (b := vd) (A := 67108864) (B := 67108864) (by omega) (by omega)
     have g'4 := (jn @h4 (jn @h4d g'3))
     refine aa g'4 ?_
     exact hQ _ _ (ae (.inl rfl) hbel (x := .bool (((vx * vx) + (vy * vy)) == (vd * vd))) (ag Tryz.results177) rfl ⟨by first | (refine congrArg AV.bool ?_; rw [Bool.eq_iff_iff, bh, beq_iff_eq]; exact ⟨fun e => ⟨⟨by omega, by omega⟩, ⟨by omega, by omega⟩, ⟨by omega, by omega⟩, e⟩, fun e => e.2.2.2⟩) | (refine congrArg AV.bool ?_; rw [Bool.eq_iff_iff, bh]; exact ⟨fun e => (by cases e), fun k => (by omega)⟩), rfl⟩)
    ·have h4d := bsT h4
     have hwy : ¬ (-vd ≤ vy ∧ vy ≤ vd) := mt br.2 (by rw [h4d]; decide)
     have g'5 := (jn @h4 (jn @h4d g'3))
     refine aa g'5 ?_
     exact hQ _ _ (ae (.inl rfl) hbel (x := .bool false) (ag Tryz.results177) rfl ⟨by first | (refine congrArg AV.bool ?_; rw [Bool.eq_iff_iff, bh, beq_iff_eq]; exact ⟨fun e => ⟨⟨by omega, by omega⟩, ⟨by omega, by omega⟩, ⟨by omega, by omega⟩, e⟩, fun e => e.2.2.2⟩) | (refine congrArg AV.bool ?_; rw [Bool.eq_iff_iff, bh]; exact ⟨fun e => (by cases e), fun k => (by omega)⟩), rfl⟩)
   ·have h3d := bsT h3
    have hwx : ¬ (-vd ≤ vx ∧ vx ≤ vd) := mt br.2 (by rw [h3d]; decide)
    have g'6 := (jn @h3 (jn @h3d g'2))
    refine aa g'6 ?_
    exact hQ _ _ (ae (.inl rfl) hbel (x := .bool false) (ag Tryz.results177) rfl ⟨by first | (refine congrArg AV.bool ?_; rw [Bool.eq_iff_iff, bh, beq_iff_eq]; exact ⟨fun e => ⟨⟨by omega, by omega⟩, ⟨by omega, by omega⟩, ⟨by omega, by omega⟩, e⟩, fun e => e.2.2.2⟩) | (refine congrArg AV.bool ?_; rw [Bool.eq_iff_iff, bh]; exact ⟨fun e => (by cases e), fun k => (by omega)⟩), rfl⟩)
  ·have h2d := bsT h2
   have g'7 := (jn @h2 (jn @h2d g'1))
   refine aa g'7 ?_
   exact hQ _ _ (ae (.inl rfl) hbel (x := .bool false) (ag Tryz.results177) rfl ⟨by first | (refine congrArg AV.bool ?_; rw [Bool.eq_iff_iff, bh, beq_iff_eq]; exact ⟨fun e => ⟨⟨by omega, by omega⟩, ⟨by omega, by omega⟩, ⟨by omega, by omega⟩, e⟩, fun e => e.2.2.2⟩) | (refine congrArg AV.bool ?_; rw [Bool.eq_iff_iff, bh]; exact ⟨fun e => (by cases e), fun k => (by omega)⟩), rfl⟩)
 ·have h1d := bsT h1
  have g'8 := (jn @h1 @h1d)
  refine aa g'8 ?_
  exact hQ _ _ (ae (.inl rfl) hbel (x := .bool false) (ag Tryz.results177) rfl ⟨by first | (refine congrArg AV.bool ?_; rw [Bool.eq_iff_iff, bh, beq_iff_eq]; exact ⟨fun e => ⟨⟨by omega, by omega⟩, ⟨by omega, by omega⟩, ⟨by omega, by omega⟩, e⟩, fun e => e.2.2.2⟩) | (refine congrArg AV.bool ?_; rw [Bool.eq_iff_iff, bh]; exact ⟨fun e => (by cases e), fun k => (by omega)⟩), rfl⟩)
theorem iS (H : ac) (x : Int) (y : Int) (kbx : -2097152 ≤ x ∧ x ≤ 2097152) (kby : -2097152 ≤ y ∧ y ≤ 2097152) : ACalls Tryz.prog 183 [.agg [.int .i64 x, .int .i64 y]] H (fun v H' => v = .agg [.int .i64 (x * 64), .int .i64 (y * 64), .int .i64 (x * 64 + 64), .int .i64 (y * 64 + 64)] ∧ H' = H) := by
 refine AcT true Tryz.func183 ?_; intro hbel Q hQ
 refine aY ?_
 exact hQ _ _ (ae (.inl rfl) hbel (x := .agg [.int .i64 (x * 64), .int .i64 (y * 64), .int .i64 ((x * 64) + 64), .int .i64 ((y * 64) + 64)]) (ag Tryz.results183) rfl ⟨rfl, rfl⟩)
theorem reach_c (H : ac) (a : Int) (b : Int) (n : Int) (d : Int) (lo : Int) (hi : Int) (ha : -1048576 ≤ a ∧ a ≤ 1048576) (hb : -1048576 ≤ b ∧ b ≤ 1048576) (hd : 1 ≤ d ∧ d ≤ 67108864) (hn : -d ≤ n ∧ n ≤ d) (h0 : 0 ≤ lo) (hh : lo ≤ hi) (h1 : hi ≤ 2048) : ACalls Tryz.prog 210 [.int .i64 a, .int .i64 b, .int .i64 n, .int .i64 d, .int .i64 lo, .int .i64 hi] H (fun v H' => v = .tup [.int .i64 (aJ a n d lo hi), .int .i64 (bQ b n d lo hi)] ∧ H' = H) := by
 have hm1 := bS (a := lo) (b := n) (A := 2048) (B := 67108864) (by omega) (by omega)
 have hm2 := bS (a := hi) (b := n) (A := 2048) (B := 67108864) (by omega) (by omega)
 have hr := ja (a := a) (b := b) (n := n) (d := d) (lo := lo) (hi := hi) (by omega) hn h0 hh h1
 unfold aJ bQ at hr
 have hmn : -137438953472 ≤ (if hi * n < lo * n then hi * n else lo * n) ∧ (if hi * n < lo * n then hi * n else lo * n) ≤ 137438953472 := by split <;> omega
 have hmx : -137438953472 ≤ (if lo * n < hi * n then hi * n else lo * n) ∧ (if lo * n < hi * n then hi * n else lo * n) ≤ 137438953472 := by split <;> omega
 refine AcT true Tryz.func210 ?_; intro hbel Q hQ
 refine aY ?_
 refine af (by kernel_rfl) (kH _ (if (hi * n) < (lo * n) then (hi * n) else (lo * n)) d (by omega) (by omega)) ?_
 refine aY ?_
 refine af (by kernel_rfl) (kH _ (if (lo * n) < (hi * n) then (hi * n) else (lo * n)) d (by omega) (by omega)) ?_
 refine aY ?_
 exact hQ _ _ (aF (.inl rfl) hbel (x := .tup [.int .i64 (a + ((if (hi * n) < (lo * n) then (hi * n) else (lo * n)) / d)), .int .i64 ((b + ((if (lo * n) < (hi * n) then (hi * n) else (lo * n)) / d)) + 1)]) (ag Tryz.results210) rfl ⟨rfl, rfl⟩)
theorem vR (H : ac) (x0 : Int) (y0 : Int) (x1 : Int) (y1 : Int) (vx : Int) (vy : Int) (vd : Int) (lo : Int) (hi : Int) (hx : -1048576 ≤ x0 ∧ x0 ≤ x1 ∧ x1 ≤ 1048576) (hy : -1048576 ≤ y0 ∧ y0 ≤ y1 ∧ y1 ≤ 1048576) (hv : cZ vx vy vd = true) (hl : 0 ≤ lo ∧ lo ≤ hi ∧ hi ≤ 2048) : ACalls Tryz.prog 178 [.agg [.int .i64 x0, .int .i64 y0, .int .i64 x1, .int .i64 y1], .agg [.int .i64 vx, .int .i64 vy, .int .i64 vd], .int .i64 lo, .int .i64 hi] H (fun v H' => v = .sl (some (H.length, 0)) ((dE x0 y0 x1 y1 vx vy vd lo hi).length) (bG (dE x0 y0 x1 y1 vx vy vd lo hi).length) ∧ H' = H ++ [.cells (bm (dE x0 y0 x1 y1 vx vy vd lo hi).length) 2 (prs (dE x0 y0 x1 y1 vx vy vd lo hi))]) := by
 have hvv := bh.1 hv
 have hrx := ja (a := x0) (b := x1) (n := vx) (d := vd) (lo := lo) (hi := hi) (by omega) (by omega) (by omega) (by omega) (by omega)
 have hry := ja (a := y0) (b := y1) (n := vy) (d := vd) (lo := lo) (hi := hi) (by omega) (by omega) (by omega) (by omega) (by omega)
 have hcx := kL (a := (aJ x0 vx vd lo hi)) (b := (bQ x1 vx vd lo hi)) (by omega)
 have hcy := kL (a := (aJ y0 vy vd lo hi)) (b := (bQ y1 vy vd lo hi)) (by omega)
 refine AcL true Tryz.func178 ?_; intro hbel Q hQ
 refine aY ?_
 refine af (by kernel_rfl) (reach_c _ x0 x1 vx vd lo hi (by omega) (by omega) (by omega) (by omega) (by omega) (by omega) (by omega)) ?_
 refine aY ?_
 refine af (by kernel_rfl) (reach_c _ y0 y1 vy vd lo hi (by omega) (by omega) (by omega) (by omega) (by omega) (by omega) (by omega)) ?_
 refine aY ?_
 refine af (by kernel_rfl) (span_c _ (aJ x0 vx vd lo hi) (bQ x1 vx vd lo hi) (by omega) (by omega)) ?_
 refine aY ?_
 refine af (by kernel_rfl) (span_c _ (aJ y0 vy vd lo hi) (bQ y1 vy vd lo hi) (by omega) (by omega)) ?_
 refine aY ?_
 refine go_loopA (fun k F Hx => ∃ n : Nat, n + k = cC (aJ y0 vy vd lo hi) (bQ y1 vy vd lo hi) ∧ F = [(2, .int .i64 lo), (3, .int .i64 hi), (4, .ptr (some (H.length, 0))), (5, .ptr (some (H.length + 1, 0))), (13, .int .i64 (spl (aJ x0 vx vd lo hi))), (14, .int .i64 (sph (bQ x1 vx vd lo hi))), (16, .int .i64 (sph (bQ y1 vy vd lo hi))), (17, .sl (some (H.length + 2, 0)) ((cN (cz x0 y0 x1 y1 vx vy vd lo hi) (spl (aJ x0 vx vd lo hi)) (cC (aJ x0 vx vd lo hi) (bQ x1 vx vd lo hi)) (spl (aJ y0 vy vd lo hi)) n).length) (bG (cN (cz x0 y0 x1 y1 vx vy vd lo hi) (spl (aJ x0 vx vd lo hi)) (cC (aJ x0 vx vd lo hi) (bQ x1 vx vd lo hi)) (spl (aJ y0 vy vd lo hi)) n).length)), (18, .int .i64 ((spl (aJ y0 vy vd lo hi)) + ((n : Nat) : Int)))] ∧ Hx = H ++ [.cells true 0 [.int .i64 x0, .int .i64 y0, .int .i64 x1, .int .i64 y1], .cells true 0 [.int .i64 vx, .int .i64 vy, .int .i64 vd], .cells (bm (cN (cz x0 y0 x1 y1 vx vy vd lo hi) (spl (aJ x0 vx vd lo hi)) (cC (aJ x0 vx vd lo hi) (bQ x1 vx vd lo hi)) (spl (aJ y0 vy vd lo hi)) n).length) 2 (prs (cN (cz x0 y0 x1 y1 vx vy vd lo hi) (spl (aJ x0 vx vd lo hi)) (cC (aJ x0 vx vd lo hi) (bQ x1 vx vd lo hi)) (spl (aJ y0 vy vd lo hi)) n))]) (cC (aJ y0 vy vd lo hi) (bQ y1 vy vd lo hi)) ?_ ?_
 ·refine ⟨_, _, _, ⟨0, by omega, rfl, rfl⟩, Abs.byG hbel [.cells false 2 []] rfl [0, 1, 2] (by decide) ?_⟩
  exact aM (jn @gridR_0 (jn @Int.natCast_zero @Int.add_zero))
 ·rintro k0 F Hx ⟨n, hm0, rfl, rfl⟩ Q1 hJ0 hr1 he1
  have hQ1 := fun F H' h => hr1 F H' (hQ F H' h)
  refine aQ fun Q2 hn2 hr2 he2 => ?_
  have hQ2 := fun F H' h => hr2 F H' (hQ1 F H' h)
  refine aL true try_mixed (by kernel_rfl) ?_
  have g'9 := (jn @bK @cO)
  refine aa g'9 ?_
  refine ai (fun h1 => ?_) (fun h1 => ?_)
  ·have h1d := bsT h1
   have g'10 := (jn @h1 (jn @h1d g'9))
   refine aa g'10 ?_
   refine hn2 _ _ ?_
   refine aQ fun Q3 hn3 hr3 he3 => ?_
   have hQ3 := fun F H' h => hr3 F H' (hQ1 F H' h)
   refine dX fun Q4 hn4 hr4 he4 hb4 => ?_
   have hQ4 := fun F H' h => hr4 F H' (hQ3 F H' h)
   refine aQ fun Q5 hn5 hr5 he5 => ?_
   have hQ5 := fun F H' h => hr5 F H' (hQ4 F H' h)
   refine aL true try_mixed (by kernel_rfl) ?_
   refine aa g'10 ?_
   refine hn5 _ _ ?_
   refine dX fun Q6 hn6 hr6 he6 hb6 => ?_
   have hQ6 := fun F H' h => hr6 F H' (hQ4 F H' h)
   refine lz (fun k F Hx => ∃ m : Nat, m + k = (cC (aJ x0 vx vd lo hi) (bQ x1 vx vd lo hi)) ∧ F = [(2, .int .i64 lo), (3, .int .i64 hi), (4, .ptr (some (H.length, 0))), (5, .ptr (some (H.length + 1, 0))), (13, .int .i64 (spl (aJ x0 vx vd lo hi))), (14, .int .i64 (sph (bQ x1 vx vd lo hi))), (16, .int .i64 (sph (bQ y1 vy vd lo hi))), (17, .sl (some (H.length + 2, 0)) ((cN (cz x0 y0 x1 y1 vx vy vd lo hi) (spl (aJ x0 vx vd lo hi)) (cC (aJ x0 vx vd lo hi) (bQ x1 vx vd lo hi)) (spl (aJ y0 vy vd lo hi)) n ++ rowR (cz x0 y0 x1 y1 vx vy vd lo hi) (spl (aJ x0 vx vd lo hi)) ((spl (aJ y0 vy vd lo hi)) + ((n : Nat) : Int)) m).length) (bG (cN (cz x0 y0 x1 y1 vx vy vd lo hi) (spl (aJ x0 vx vd lo hi)) (cC (aJ x0 vx vd lo hi) (bQ x1 vx vd lo hi)) (spl (aJ y0 vy vd lo hi)) n ++ rowR (cz x0 y0 x1 y1 vx vy vd lo hi) (spl (aJ x0 vx vd lo hi)) ((spl (aJ y0 vy vd lo hi)) + ((n : Nat) : Int)) m).length)), (18, .int .i64 ((spl (aJ y0 vy vd lo hi)) + ((n : Nat) : Int))), (19, .int .i64 ((spl (aJ x0 vx vd lo hi)) + ((m : Nat) : Int)))] ∧ Hx = H ++ [.cells true 0 [.int .i64 x0, .int .i64 y0, .int .i64 x1, .int .i64 y1], .cells true 0 [.int .i64 vx, .int .i64 vy, .int .i64 vd], .cells (bm (cN (cz x0 y0 x1 y1 vx vy vd lo hi) (spl (aJ x0 vx vd lo hi)) (cC (aJ x0 vx vd lo hi) (bQ x1 vx vd lo hi)) (spl (aJ y0 vy vd lo hi)) n ++ rowR (cz x0 y0 x1 y1 vx vy vd lo hi) (spl (aJ x0 vx vd lo hi)) ((spl (aJ y0 vy vd lo hi)) + ((n : Nat) : Int)) m).length) 2 (prs (cN (cz x0 y0 x1 y1 vx vy vd lo hi) (spl (aJ x0 vx vd lo hi)) (cC (aJ x0 vx vd lo hi) (bQ x1 vx vd lo hi)) (spl (aJ y0 vy vd lo hi)) n ++ rowR (cz x0 y0 x1 y1 vx vy vd lo hi) (spl (aJ x0 vx vd lo hi)) ((spl (aJ y0 vy vd lo hi)) + ((n : Nat) : Int)) m))]) ((cC (aJ x0 vx vd lo hi) (bQ x1 vx vd lo hi))) ?_ ?_
   ·refine ⟨_, _, _, ⟨0, by omega, rfl, rfl⟩, Abs.byG hbel [] rfl [0, 1, 2] (by decide) ?_⟩
    exact aM (jn @rowR_0 (jn @List.append_nil.{0} (jn @Int.natCast_zero @Int.add_zero)))
   ·rintro k1 F Hx ⟨m, hm1, rfl, rfl⟩ Q7 hJ1 hr7 he7
    have hQ7 := fun F H' h => hr7 F H' (hQ6 F H' h)
    refine aQ fun Q8 hn8 hr8 he8 => ?_
    have hQ8 := fun F H' h => hr8 F H' (hQ7 F H' h)
    refine aL true try_mixed (by kernel_rfl) ?_
    refine aa g'10 ?_
    refine ai (fun h2 => ?_) (fun h2 => ?_)
    ·have h2d := bsT h2
     have hgb := grid_bd2 (p := (cz x0 y0 x1 y1 vx vy vd lo hi)) (x0 := (spl (aJ x0 vx vd lo hi))) (y0 := (spl (aJ y0 vy vd lo hi))) (y := (spl (aJ y0 vy vd lo hi)) + ((n : Nat) : Int)) (w := (cC (aJ x0 vx vd lo hi) (bQ x1 vx vd lo hi))) (n := n) (m := m) (by omega) (by omega) (by omega)
     have g'11 := (jn @h2 (jn @h2d g'10))
     refine aa g'11 ?_
     refine hn8 _ _ ?_
     refine aQ fun Q9 hn9 hr9 he9 => ?_
     have hQ9 := fun F H' h => hr9 F H' (hQ7 F H' h)
     refine dX fun Q10 hn10 hr10 he10 hb10 => ?_
     have hQ10 := fun F H' h => hr10 F H' (hQ9 F H' h)
     refine aQ fun Q11 hn11 hr11 he11 => ?_
     have hQ11 := fun F H' h => hr11 F H' (hQ10 F H' h)
     refine aL true try_mixed (by kernel_rfl) ?_
     refine aa g'11 ?_
     refine hn11 _ _ ?_
     refine cn true try_mixed [[0, 1, 2, 3, 4, 5, 6, 7, 8, 9], [0, 1, 2, 7, 3, 4, 5, 6, 8, 9], [0, 2, 7, 1, 3, 4, 5, 6, 8, 9]] (by kernel_rfl) (fun F2 H2 => F2 = [(2, .int .i64 lo), (3, .int .i64 hi), (4, .ptr (some (H.length, 0))), (5, .ptr (some (H.length + 1, 0))), (13, .int .i64 (spl (aJ x0 vx vd lo hi))), (14, .int .i64 (sph (bQ x1 vx vd lo hi))), (16, .int .i64 (sph (bQ y1 vy vd lo hi))), (17, .sl (some (H.length + 2, 0)) ((cN (cz x0 y0 x1 y1 vx vy vd lo hi) (spl (aJ x0 vx vd lo hi)) (cC (aJ x0 vx vd lo hi) (bQ x1 vx vd lo hi)) (spl (aJ y0 vy vd lo hi)) n ++ rowR (cz x0 y0 x1 y1 vx vy vd lo hi) (spl (aJ x0 vx vd lo hi)) ((spl (aJ y0 vy vd lo hi)) + ((n : Nat) : Int)) m).length) (bG (cN (cz x0 y0 x1 y1 vx vy vd lo hi) (spl (aJ x0 vx vd lo hi)) (cC (aJ x0 vx vd lo hi) (bQ x1 vx vd lo hi)) (spl (aJ y0 vy vd lo hi)) n ++ rowR (cz x0 y0 x1 y1 vx vy vd lo hi) (spl (aJ x0 vx vd lo hi)) ((spl (aJ y0 vy vd lo hi)) + ((n : Nat) : Int)) m).length)), (18, .int .i64 ((spl (aJ y0 vy vd lo hi)) + ((n : Nat) : Int))), (19, .int .i64 ((spl (aJ x0 vx vd lo hi)) + ((m : Nat) : Int))), (20, .ptr (some (H.length + 3, 0))), (21, .ptr (some (H.length + 4, 0))), (22, .bool (dS (((spl (aJ x0 vx vd lo hi)) + ((m : Nat) : Int)) * 64) (((spl (aJ y0 vy vd lo hi)) + ((n : Nat) : Int)) * 64) (((spl (aJ x0 vx vd lo hi)) + ((m : Nat) : Int)) * 64 + 64) (((spl (aJ y0 vy vd lo hi)) + ((n : Nat) : Int)) * 64 + 64) x0 y0 x1 y1))] ∧ H2 = H ++ [.cells true 0 [.int .i64 x0, .int .i64 y0, .int .i64 x1, .int .i64 y1], .cells true 0 [.int .i64 vx, .int .i64 vy, .int .i64 vd], .cells (bm (cN (cz x0 y0 x1 y1 vx vy vd lo hi) (spl (aJ x0 vx vd lo hi)) (cC (aJ x0 vx vd lo hi) (bQ x1 vx vd lo hi)) (spl (aJ y0 vy vd lo hi)) n ++ rowR (cz x0 y0 x1 y1 vx vy vd lo hi) (spl (aJ x0 vx vd lo hi)) ((spl (aJ y0 vy vd lo hi)) + ((n : Nat) : Int)) m).length) 2 (prs (cN (cz x0 y0 x1 y1 vx vy vd lo hi) (spl (aJ x0 vx vd lo hi)) (cC (aJ x0 vx vd lo hi) (bQ x1 vx vd lo hi)) (spl (aJ y0 vy vd lo hi)) n ++ rowR (cz x0 y0 x1 y1 vx vy vd lo hi) (spl (aJ x0 vx vd lo hi)) ((spl (aJ y0 vy vd lo hi)) + ((n : Nat) : Int)) m)), .cells true 0 [.int .i64 ((spl (aJ x0 vx vd lo hi)) + ((m : Nat) : Int)), .int .i64 ((spl (aJ y0 vy vd lo hi)) + ((n : Nat) : Int))], .cells true 0 [.int .i64 (mkV (dS (((spl (aJ x0 vx vd lo hi)) + ((m : Nat) : Int)) * 64) (((spl (aJ y0 vy vd lo hi)) + ((n : Nat) : Int)) * 64) (((spl (aJ x0 vx vd lo hi)) + ((m : Nat) : Int)) * 64 + 64) (((spl (aJ y0 vy vd lo hi)) + ((n : Nat) : Int)) * 64 + 64) x0 y0 x1 y1) ((((spl (aJ x0 vx vd lo hi)) + ((m : Nat) : Int)) * 64) - x1)), .int .i64 (mkV (dS (((spl (aJ x0 vx vd lo hi)) + ((m : Nat) : Int)) * 64) (((spl (aJ y0 vy vd lo hi)) + ((n : Nat) : Int)) * 64) (((spl (aJ x0 vx vd lo hi)) + ((m : Nat) : Int)) * 64 + 64) (((spl (aJ y0 vy vd lo hi)) + ((n : Nat) : Int)) * 64 + 64) x0 y0 x1 y1) ((((spl (aJ y0 vy vd lo hi)) + ((n : Nat) : Int)) * 64) - y1)), .int .i64 (mkV (dS (((spl (aJ x0 vx vd lo hi)) + ((m : Nat) : Int)) * 64) (((spl (aJ y0 vy vd lo hi)) + ((n : Nat) : Int)) * 64) (((spl (aJ x0 vx vd lo hi)) + ((m : Nat) : Int)) * 64 + 64) (((spl (aJ y0 vy vd lo hi)) + ((n : Nat) : Int)) * 64 + 64) x0 y0 x1 y1) ((((spl (aJ x0 vx vd lo hi)) + ((m : Nat) : Int)) * 64 + 64) - x0)), .int .i64 (mkV (dS (((spl (aJ x0 vx vd lo hi)) + ((m : Nat) : Int)) * 64) (((spl (aJ y0 vy vd lo hi)) + ((n : Nat) : Int)) * 64) (((spl (aJ x0 vx vd lo hi)) + ((m : Nat) : Int)) * 64 + 64) (((spl (aJ y0 vy vd lo hi)) + ((n : Nat) : Int)) * 64 + 64) x0 y0 x1 y1) ((((spl (aJ y0 vy vd lo hi)) + ((n : Nat) : Int)) * 64 + 64) - y0))]]) ?_ ?_
     ·refine aG ?_ (aG ?_ (aG ?_ (cl))) <;> intro J hJ
      ·skip
       refine aA g'11 ?_
       refine aK (by kernel_rfl) (iS _ ((spl (aJ x0 vx vd lo hi)) + ((m : Nat) : Int)) ((spl (aJ y0 vy vd lo hi)) + ((n : Nat) : Int)) (by omega) (by omega)) ?_
       refine aA g'11 ?_
       refine aK (by kernel_rfl) (lE _ (((spl (aJ x0 vx vd lo hi)) + ((m : Nat) : Int)) * 64) (((spl (aJ y0 vy vd lo hi)) + ((n : Nat) : Int)) * 64) (((spl (aJ x0 vx vd lo hi)) + ((m : Nat) : Int)) * 64 + 64) (((spl (aJ y0 vy vd lo hi)) + ((n : Nat) : Int)) * 64 + 64) x0 y0 x1 y1 (by omega) (by omega) (by omega) (by omega) (by omega) (by omega) (by omega) (by omega)) ?_
       refine aA g'11 ?_
       refine aR (hJ _ _ ⟨_, _, _, ⟨rfl, rfl⟩, Abs.byG hbel [] rfl [0, 1, 2, 3, 4] (by decide) ?_⟩)
       exact eH
      ·skip
       refine aA g'11 ?_
       refine aK (by kernel_rfl) (iS _ ((spl (aJ x0 vx vd lo hi)) + ((m : Nat) : Int)) ((spl (aJ y0 vy vd lo hi)) + ((n : Nat) : Int)) (by omega) (by omega)) ?_
       refine aA g'11 ?_
       refine aK (by kernel_rfl) (lE _ (((spl (aJ x0 vx vd lo hi)) + ((m : Nat) : Int)) * 64) (((spl (aJ y0 vy vd lo hi)) + ((n : Nat) : Int)) * 64) (((spl (aJ x0 vx vd lo hi)) + ((m : Nat) : Int)) * 64 + 64) (((spl (aJ y0 vy vd lo hi)) + ((n : Nat) : Int)) * 64 + 64) x0 y0 x1 y1 (by omega) (by omega) (by omega) (by omega) (by omega) (by omega) (by omega) (by omega)) ?_
       refine aA g'11 ?_
       refine aR (hJ _ _ ⟨_, _, _, ⟨rfl, rfl⟩, Abs.byG hbel [] rfl [0, 1, 2, 3, 4] (by decide) ?_⟩)
       exact eH
      ·skip
       refine aA g'11 ?_
       refine aK (by kernel_rfl) (iS _ ((spl (aJ x0 vx vd lo hi)) + ((m : Nat) : Int)) ((spl (aJ y0 vy vd lo hi)) + ((n : Nat) : Int)) (by omega) (by omega)) ?_
       refine aA g'11 ?_
       refine aK (by kernel_rfl) (lE _ (((spl (aJ x0 vx vd lo hi)) + ((m : Nat) : Int)) * 64) (((spl (aJ y0 vy vd lo hi)) + ((n : Nat) : Int)) * 64) (((spl (aJ x0 vx vd lo hi)) + ((m : Nat) : Int)) * 64 + 64) (((spl (aJ y0 vy vd lo hi)) + ((n : Nat) : Int)) * 64 + 64) x0 y0 x1 y1 (by omega) (by omega) (by omega) (by omega) (by omega) (by omega) (by omega) (by omega)) ?_
       refine aA g'11 ?_
       refine aR (hJ _ _ ⟨_, _, _, ⟨rfl, rfl⟩, Abs.byG hbel [] rfl [0, 1, 2, 3, 4] (by decide) ?_⟩)
       exact eH
     rintro F2 H2 ⟨rfl, rfl⟩
     refine aL true try_mixed (by kernel_rfl) ?_
     refine aa g'11 ?_
     refine aj (fun h3 => ?_) (fun h3 => ?_)
     ·have h3d := bsT h3
      have hmn := h3d
      have g'12 := (jn @h3 (jn @h3d g'11))
      refine aa g'12 ?_
      refine af (by kernel_rfl) (iA _ 0 0 vx vy vd lo hi (mkV true ((((spl (aJ x0 vx vd lo hi)) + ((m : Nat) : Int)) * 64) - x1)) (mkV true ((((spl (aJ y0 vy vd lo hi)) + ((n : Nat) : Int)) * 64) - y1)) (mkV true ((((spl (aJ x0 vx vd lo hi)) + ((m : Nat) : Int)) * 64 + 64) - x0)) (mkV true ((((spl (aJ y0 vy vd lo hi)) + ((n : Nat) : Int)) * 64 + 64) - y0))) ?_
      refine aa g'12 ?_
      refine ai (fun h4 => ?_) (fun h4 => ?_)
      ·have h4d := bsT h4
       have hov : cz x0 y0 x1 y1 vx vy vd lo hi ((spl (aJ x0 vx vd lo hi)) + ((m : Nat) : Int)) ((spl (aJ y0 vy vd lo hi)) + ((n : Nat) : Int)) = true := by have q := h4d; unfold cz; rw [hmn]; exact q
       have g'13 := (jn @h4 (jn @h4d (jn @d9 g'12)))
       refine aa g'13 ?_
       refine hn10 _ _ ?_
       refine hn9 _ _ ?_
       refine aL true try_mixed (by kernel_rfl) ?_
       refine aa g'13 ?_
       refine hJ1 _ _ ⟨k1 - 1, by omega, _, _, _, ⟨m + 1, by omega, rfl, rfl⟩, Abs.byG hbel [] rfl [0, 1, 6] (by decide) ?_⟩
       exact aM (jn @rowR.eq_2 (jn @hov (jn @if_true.{1} (jn @if_false.{1} (jn @Bool.false_eq_true (jn @List.append_nil.{0} (jn @List.append_assoc.{0} (jn @Int.natCast_add (jn @Int.natCast_one @Int.add_assoc)))))))))
      ·have h4d := bsT h4
       have hov : cz x0 y0 x1 y1 vx vy vd lo hi ((spl (aJ x0 vx vd lo hi)) + ((m : Nat) : Int)) ((spl (aJ y0 vy vd lo hi)) + ((n : Nat) : Int)) = false := by have q := h4d; unfold cz; rw [hmn]; exact q
       have g'14 := (jn @h4 (jn @h4d g'12))
       refine aa g'14 ?_
       refine hn10 _ _ ?_
       refine hn9 _ _ ?_
       refine aL true try_mixed (by kernel_rfl) ?_
       refine aa g'14 ?_
       refine hJ1 _ _ ⟨k1 - 1, by omega, _, _, _, ⟨m + 1, by omega, rfl, rfl⟩, Abs.byG hbel [] rfl [0, 1, 2] (by decide) ?_⟩
       exact aM (jn @rowR.eq_2 (jn @hov (jn @if_true.{1} (jn @if_false.{1} (jn @Bool.false_eq_true (jn @List.append_nil.{0} (jn @List.append_assoc.{0} (jn @Int.natCast_add (jn @Int.natCast_one @Int.add_assoc)))))))))
     ·have h3d := bsT h3
      have hov : cz x0 y0 x1 y1 vx vy vd lo hi ((spl (aJ x0 vx vd lo hi)) + ((m : Nat) : Int)) ((spl (aJ y0 vy vd lo hi)) + ((n : Nat) : Int)) = false := by unfold cz; rw [h3d]; rfl
      have g'15 := (jn @h3 (jn @h3d g'11))
      refine aa g'15 ?_
      refine hn10 _ _ ?_
      refine hn9 _ _ ?_
      refine aL true try_mixed (by kernel_rfl) ?_
      refine aa g'15 ?_
      refine hJ1 _ _ ⟨k1 - 1, by omega, _, _, _, ⟨m + 1, by omega, rfl, rfl⟩, Abs.byG hbel [] rfl [0, 1, 2] (by decide) ?_⟩
      exact aM (jn @rowR.eq_2 (jn @hov (jn @if_true.{1} (jn @if_false.{1} (jn @Bool.false_eq_true (jn @List.append_nil.{0} (jn @List.append_assoc.{0} (jn @Int.natCast_add (jn @Int.natCast_one @Int.add_assoc)))))))))
    ·have h2d := bsT h2
     obtain rfl : m = (cC (aJ x0 vx vd lo hi) (bQ x1 vx vd lo hi)) := by omega
     have g'16 := (jn @h2 (jn @h2d g'10))
     refine aa g'16 ?_
     refine he8 _ _ _ ?_
     refine he7 _ _ _ ?_
     refine hb6 _ _ ?_
     refine hn4 _ _ ?_
     refine hn3 _ _ ?_
     refine aL true try_mixed (by kernel_rfl) ?_
     refine aa g'16 ?_
     refine hJ0 _ _ ⟨k0 - 1, by omega, _, _, _, ⟨n + 1, by omega, rfl, rfl⟩, Abs.byG hbel [] rfl [0, 1, 2] (by decide) ?_⟩
     exact aM (jn @gridR_s (jn @Int.natCast_add (jn @Int.natCast_one @Int.add_assoc)))
  ·have h1d := bsT h1
   obtain rfl : n = cC (aJ y0 vy vd lo hi) (bQ y1 vy vd lo hi) := by omega
   have g'17 := (jn @h1 (jn @h1d g'9))
   refine aa g'17 ?_
   refine he2 _ _ _ ?_
   refine he1 _ _ _ ?_
   refine aa g'17 ?_
   refine hQ _ _ (bB (.inl rfl) hbel (x1 := .sl (some (H.length + 2, 0)) ((cN (cz x0 y0 x1 y1 vx vy vd lo hi) (spl (aJ x0 vx vd lo hi)) (cC (aJ x0 vx vd lo hi) (bQ x1 vx vd lo hi)) (spl (aJ y0 vy vd lo hi)) (cC (aJ y0 vy vd lo hi) (bQ y1 vy vd lo hi))).length) (bG (cN (cz x0 y0 x1 y1 vx vy vd lo hi) (spl (aJ x0 vx vd lo hi)) (cC (aJ x0 vx vd lo hi) (bQ x1 vx vd lo hi)) (spl (aJ y0 vy vd lo hi)) (cC (aJ y0 vy vd lo hi) (bQ y1 vy vd lo hi))).length)) (l2 := [.cells (bm (cN (cz x0 y0 x1 y1 vx vy vd lo hi) (spl (aJ x0 vx vd lo hi)) (cC (aJ x0 vx vd lo hi) (bQ x1 vx vd lo hi)) (spl (aJ y0 vy vd lo hi)) (cC (aJ y0 vy vd lo hi) (bQ y1 vy vd lo hi))).length) 2 (prs (cN (cz x0 y0 x1 y1 vx vy vd lo hi) (spl (aJ x0 vx vd lo hi)) (cC (aJ x0 vx vd lo hi) (bQ x1 vx vd lo hi)) (spl (aJ y0 vy vd lo hi)) (cC (aJ y0 vy vd lo hi) (bQ y1 vy vd lo hi))))]) (.sl (some (H.length, 0)) ((cN (cz x0 y0 x1 y1 vx vy vd lo hi) (spl (aJ x0 vx vd lo hi)) (cC (aJ x0 vx vd lo hi) (bQ x1 vx vd lo hi)) (spl (aJ y0 vy vd lo hi)) (cC (aJ y0 vy vd lo hi) (bQ y1 vy vd lo hi))).length) (bG (cN (cz x0 y0 x1 y1 vx vy vd lo hi) (spl (aJ x0 vx vd lo hi)) (cC (aJ x0 vx vd lo hi) (bQ x1 vx vd lo hi)) (spl (aJ y0 vy vd lo hi)) (cC (aJ y0 vy vd lo hi) (bQ y1 vy vd lo hi))).length)) (ag Tryz.results178) [] rfl [2] (by decide) ⟨rfl, rfl⟩ ?_)
   exact be
theorem jx (H : ac) (px : Int) (py : Int) (vx : Int) (vy : Int) (vd : Int) (lo : Int) (hi : Int) : ACalls Tryz.prog 156 [.agg [.int .i64 px, .int .i64 py], .agg [.int .i64 vx, .int .i64 vy, .int .i64 vd], .int .i64 lo, .int .i64 hi] H (fun v H' => v = .tup [.sl (some (H.length, 0)) ((trL px py vx vy vd lo hi).length) (bG (trL px py vx vy vd lo hi).length), .int .i64 (trE px py vx vy vd lo hi)] ∧ H' = H ++ [.cells (bm (trL px py vx vy vd lo hi).length) 2 (prs (trL px py vx vy vd lo hi))]) := by
 refine AcT true Tryz.func156 ?_; intro hbel Q hQ
 refine aY ?_
 refine af (by kernel_rfl) (pvpt_c _ px py) ?_
 refine aY ?_
 refine aj (fun h1 => ?_) (fun h1 => ?_)
 ·have h1d := bsT h1
  have hp1 := h1d
  have hp2 := ge.1 hp1
  have g'18 := (jn @h1 @h1d)
  refine aa g'18 ?_
  refine af (by kernel_rfl) (pvv_c _ vx vy vd) ?_
  refine aa g'18 ?_
  refine ai (fun h2 => ?_) (fun h2 => ?_)
  ·have h2d := bsT h2
   have hz := trE_1 (px := px) (py := py) (vx := vx) (vy := vy) (vd := vd) (lo := lo) (hi := hi) (fun hh => by rw [h2d] at hh; exact absurd hh.2 (by decide))
   have hfinE := hz.1
   have hfinL := hz.2
   have g'19 := (jn @h2 (jn @h2d g'18))
   refine aa g'19 ?_
   refine hQ _ _ (bB (.inl rfl) hbel (x1 := .tup [.sl none 0 (some 0), .int .i64 1]) (l2 := [.cells false 2 []]) (.tup [.sl (some (H.length, 0)) 0 (some 0), .int .i64 1]) (ag Tryz.results156) [.cells false 2 []] rfl [2] (by decide) ⟨by first | (rw [hfinL, hfinE]; done) | (rw [hfinL, hfinE]; rfl) | (rw [hfinL]; done) | (rw [hfinL]; rfl), by first | (rw [hfinL, hfinE]; done) | (rw [hfinL, hfinE]; rfl) | (rw [hfinL]; done) | (rw [hfinL]; rfl)⟩ ?_)
   exact be
  ·have h2d := bsT h2
   have hv := h2d
   have g'20 := (jn @h2 (jn @h2d g'18))
   refine aa g'20 ?_
   refine aj (fun h3 => ?_) (fun h3 => ?_)
   ·have h3d := bsT h3
    have g'21 := (jn @h3 (jn @h3d g'20))
    refine aa g'21 ?_
    refine aj (fun h4 => ?_) (fun h4 => ?_)
    ·have h4d := bsT h4
     have g'22 := (jn @h4 (jn @h4d g'21))
     refine aa g'22 ?_
     refine ai (fun h5 => ?_) (fun h5 => ?_)
     ·have h5d := bsT h5
      have hz := trE_2 (lo := lo) (hi := hi) hp1 hv (by omega)
      have hfinE := hz.1
      have hfinL := hz.2
      have g'23 := (jn @h5 (jn @h5d g'22))
      refine aa g'23 ?_
      refine hQ _ _ (bB (.inl rfl) hbel (x1 := .tup [.sl none 0 (some 0), .int .i64 2]) (l2 := [.cells false 2 []]) (.tup [.sl (some (H.length, 0)) 0 (some 0), .int .i64 2]) (ag Tryz.results156) [.cells false 2 []] rfl [2] (by decide) ⟨by first | (rw [hfinL, hfinE]; done) | (rw [hfinL, hfinE]; rfl) | (rw [hfinL]; done) | (rw [hfinL]; rfl), by first | (rw [hfinL, hfinE]; done) | (rw [hfinL, hfinE]; rfl) | (rw [hfinL]; done) | (rw [hfinL]; rfl)⟩ ?_)
      exact be
     ·have h5d := bsT h5
      have hlh : 0 ≤ lo ∧ lo ≤ hi ∧ hi ≤ 2048 := by omega
      have hz := trE_0 hp1 hv hlh
      have hfinE := hz.1
      have hfinL := hz.2
      have g'24 := (jn @h5 (jn @h5d g'22))
      refine aa g'24 ?_
      refine af (by kernel_rfl) (vR _ px py px py vx vy vd lo hi (by omega) (by omega) (by assumption) (by omega)) ?_
      refine aa g'24 ?_
      refine hQ _ _ (bB (.inl rfl) hbel (x1 := .tup [.sl (some (H.length + 2, 0)) ((dE px py px py vx vy vd lo hi).length) (bG (dE px py px py vx vy vd lo hi).length), .int .i64 0]) (l2 := [.cells (bm (dE px py px py vx vy vd lo hi).length) 2 (prs (dE px py px py vx vy vd lo hi))]) (.tup [.sl (some (H.length, 0)) ((dE px py px py vx vy vd lo hi).length) (bG (dE px py px py vx vy vd lo hi).length), .int .i64 0]) (ag Tryz.results156) [] rfl [2] (by decide) ⟨by first | (rw [hfinL, hfinE]; done) | (rw [hfinL, hfinE]; rfl) | (rw [hfinL]; done) | (rw [hfinL]; rfl), by first | (rw [hfinL, hfinE]; done) | (rw [hfinL, hfinE]; rfl) | (rw [hfinL]; done) | (rw [hfinL]; rfl)⟩ ?_)
      exact be
    ·have h4d := bsT h4
     have hz := trE_2 (lo := lo) (hi := hi) hp1 hv (by omega)
     have hfinE := hz.1
     have hfinL := hz.2
     have g'25 := (jn @h4 (jn @h4d g'21))
     refine aa g'25 ?_
     refine hQ _ _ (bB (.inl rfl) hbel (x1 := .tup [.sl none 0 (some 0), .int .i64 2]) (l2 := [.cells false 2 []]) (.tup [.sl (some (H.length, 0)) 0 (some 0), .int .i64 2]) (ag Tryz.results156) [.cells false 2 []] rfl [2] (by decide) ⟨by first | (rw [hfinL, hfinE]; done) | (rw [hfinL, hfinE]; rfl) | (rw [hfinL]; done) | (rw [hfinL]; rfl), by first | (rw [hfinL, hfinE]; done) | (rw [hfinL, hfinE]; rfl) | (rw [hfinL]; done) | (rw [hfinL]; rfl)⟩ ?_)
     exact be
   ·have h3d := bsT h3
    have hz := trE_2 (lo := lo) (hi := hi) hp1 hv (by omega)
    have hfinE := hz.1
    have hfinL := hz.2
    have g'26 := (jn @h3 (jn @h3d g'20))
    refine aa g'26 ?_
    refine hQ _ _ (bB (.inl rfl) hbel (x1 := .tup [.sl none 0 (some 0), .int .i64 2]) (l2 := [.cells false 2 []]) (.tup [.sl (some (H.length, 0)) 0 (some 0), .int .i64 2]) (ag Tryz.results156) [.cells false 2 []] rfl [2] (by decide) ⟨by first | (rw [hfinL, hfinE]; done) | (rw [hfinL, hfinE]; rfl) | (rw [hfinL]; done) | (rw [hfinL]; rfl), by first | (rw [hfinL, hfinE]; done) | (rw [hfinL, hfinE]; rfl) | (rw [hfinL]; done) | (rw [hfinL]; rfl)⟩ ?_)
    exact be
 ·have h1d := bsT h1
  have hz := trE_1 (px := px) (py := py) (vx := vx) (vy := vy) (vd := vd) (lo := lo) (hi := hi) (fun hh => by rw [h1d] at hh; exact absurd hh.1 (by decide))
  have hfinE := hz.1
  have hfinL := hz.2
  have g'27 := (jn @h1 @h1d)
  refine aa g'27 ?_
  refine hQ _ _ (bB (.inl rfl) hbel (x1 := .tup [.sl none 0 (some 0), .int .i64 1]) (l2 := [.cells false 2 []]) (.tup [.sl (some (H.length, 0)) 0 (some 0), .int .i64 1]) (ag Tryz.results156) [.cells false 2 []] rfl [2] (by decide) ⟨by first | (rw [hfinL, hfinE]; done) | (rw [hfinL, hfinE]; rfl) | (rw [hfinL]; done) | (rw [hfinL]; rfl), by first | (rw [hfinL, hfinE]; done) | (rw [hfinL, hfinE]; rfl) | (rw [hfinL]; done) | (rw [hfinL]; rfl)⟩ ?_)
  exact be
theorem swept_c (H : ac) (x0 : Int) (y0 : Int) (x1 : Int) (y1 : Int) (vx : Int) (vy : Int) (vd : Int) (lo : Int) (hi : Int) : ACalls Tryz.prog 137 [.agg [.int .i64 x0, .int .i64 y0, .int .i64 x1, .int .i64 y1], .agg [.int .i64 vx, .int .i64 vy, .int .i64 vd], .int .i64 lo, .int .i64 hi] H (fun v H' => v = .tup [.sl (some (H.length, 0)) ((cM x0 y0 x1 y1 vx vy vd lo hi).length) (bG (cM x0 y0 x1 y1 vx vy vd lo hi).length), .int .i64 (fv x0 y0 x1 y1 vx vy vd lo hi)] ∧ H' = H ++ [.cells (bm (cM x0 y0 x1 y1 vx vy vd lo hi).length) 2 (prs (cM x0 y0 x1 y1 vx vy vd lo hi))]) := by
 refine AcT true Tryz.func137 ?_; intro hbel Q hQ
 refine aY ?_
 refine af (by kernel_rfl) (pvrc_c _ x0 y0 x1 y1) ?_
 refine aY ?_
 refine aj (fun h1 => ?_) (fun h1 => ?_)
 ·have h1d := bsT h1
  have hp1 := h1d
  have hp2 := js.1 hp1
  have g'28 := (jn @h1 @h1d)
  refine aa g'28 ?_
  refine af (by kernel_rfl) (pvv_c _ vx vy vd) ?_
  refine aa g'28 ?_
  refine ai (fun h2 => ?_) (fun h2 => ?_)
  ·have h2d := bsT h2
   have hz := sptE_1 (x0 := x0) (y0 := y0) (x1 := x1) (y1 := y1) (vx := vx) (vy := vy) (vd := vd) (lo := lo) (hi := hi) (fun hh => by rw [h2d] at hh; exact absurd hh.2 (by decide))
   have hfinE := hz.1
   have hfinL := hz.2
   have g'29 := (jn @h2 (jn @h2d g'28))
   refine aa g'29 ?_
   refine hQ _ _ (bB (.inl rfl) hbel (x1 := .tup [.sl none 0 (some 0), .int .i64 1]) (l2 := [.cells false 2 []]) (.tup [.sl (some (H.length, 0)) 0 (some 0), .int .i64 1]) (ag Tryz.results137) [.cells false 2 []] rfl [2] (by decide) ⟨by first | (rw [hfinL, hfinE]; done) | (rw [hfinL, hfinE]; rfl) | (rw [hfinL]; done) | (rw [hfinL]; rfl), by first | (rw [hfinL, hfinE]; done) | (rw [hfinL, hfinE]; rfl) | (rw [hfinL]; done) | (rw [hfinL]; rfl)⟩ ?_)
   exact be
  ·have h2d := bsT h2
   have hv := h2d
   have g'30 := (jn @h2 (jn @h2d g'28))
   refine aa g'30 ?_
   refine aj (fun h3 => ?_) (fun h3 => ?_)
   ·have h3d := bsT h3
    have g'31 := (jn @h3 (jn @h3d g'30))
    refine aa g'31 ?_
    refine aj (fun h4 => ?_) (fun h4 => ?_)
    ·have h4d := bsT h4
     have g'32 := (jn @h4 (jn @h4d g'31))
     refine aa g'32 ?_
     refine ai (fun h5 => ?_) (fun h5 => ?_)
     ·have h5d := bsT h5
      have hz := sptE_2 (lo := lo) (hi := hi) hp1 hv (by omega)
      have hfinE := hz.1
      have hfinL := hz.2
      have g'33 := (jn @h5 (jn @h5d g'32))
      refine aa g'33 ?_
      refine hQ _ _ (bB (.inl rfl) hbel (x1 := .tup [.sl none 0 (some 0), .int .i64 2]) (l2 := [.cells false 2 []]) (.tup [.sl (some (H.length, 0)) 0 (some 0), .int .i64 2]) (ag Tryz.results137) [.cells false 2 []] rfl [2] (by decide) ⟨by first | (rw [hfinL, hfinE]; done) | (rw [hfinL, hfinE]; rfl) | (rw [hfinL]; done) | (rw [hfinL]; rfl), by first | (rw [hfinL, hfinE]; done) | (rw [hfinL, hfinE]; rfl) | (rw [hfinL]; done) | (rw [hfinL]; rfl)⟩ ?_)
      exact be
     ·have h5d := bsT h5
      have hlh : 0 ≤ lo ∧ lo ≤ hi ∧ hi ≤ 2048 := by omega
      have g'34 := (jn @h5 (jn @h5d g'32))
      refine aa g'34 ?_
      refine aj (fun h6 => ?_) (fun h6 => ?_)
      ·have h6d := bsT h6
       have g'35 := (jn @h6 (jn @h6d g'34))
       refine aa g'35 ?_
       refine ai (fun h7 => ?_) (fun h7 => ?_)
       ·have h7d := bsT h7
        have hz := sptE_6 hp1 hv hlh (.inr h7d)
        have hfinE := hz.1
        have hfinL := hz.2
        have g'36 := (jn @h7 (jn @h7d g'35))
        refine aa g'36 ?_
        refine hQ _ _ (bB (.inl rfl) hbel (x1 := .tup [.sl none 0 (some 0), .int .i64 6]) (l2 := [.cells false 2 []]) (.tup [.sl (some (H.length, 0)) 0 (some 0), .int .i64 6]) (ag Tryz.results137) [.cells false 2 []] rfl [2] (by decide) ⟨by first | (rw [hfinL, hfinE]; done) | (rw [hfinL, hfinE]; rfl) | (rw [hfinL]; done) | (rw [hfinL]; rfl), by first | (rw [hfinL, hfinE]; done) | (rw [hfinL, hfinE]; rfl) | (rw [hfinL]; done) | (rw [hfinL]; rfl)⟩ ?_)
        exact be
       ·have h7d := bsT h7
        have hz := sptE_0 hp1 hv hlh (by omega)
        have hfinE := hz.1
        have hfinL := hz.2
        have g'37 := (jn @h7 (jn @h7d g'35))
        refine aa g'37 ?_
        refine af (by kernel_rfl) (vR _ x0 y0 x1 y1 vx vy vd lo hi (by omega) (by omega) (by assumption) (by omega)) ?_
        refine aa g'37 ?_
        refine hQ _ _ (bB (.inl rfl) hbel (x1 := .tup [.sl (some (H.length + 2, 0)) ((dE x0 y0 x1 y1 vx vy vd lo hi).length) (bG (dE x0 y0 x1 y1 vx vy vd lo hi).length), .int .i64 0]) (l2 := [.cells (bm (dE x0 y0 x1 y1 vx vy vd lo hi).length) 2 (prs (dE x0 y0 x1 y1 vx vy vd lo hi))]) (.tup [.sl (some (H.length, 0)) ((dE x0 y0 x1 y1 vx vy vd lo hi).length) (bG (dE x0 y0 x1 y1 vx vy vd lo hi).length), .int .i64 0]) (ag Tryz.results137) [] rfl [2] (by decide) ⟨by first | (rw [hfinL, hfinE]; done) | (rw [hfinL, hfinE]; rfl) | (rw [hfinL]; done) | (rw [hfinL]; rfl), by first | (rw [hfinL, hfinE]; done) | (rw [hfinL, hfinE]; rfl) | (rw [hfinL]; done) | (rw [hfinL]; rfl)⟩ ?_)
        exact be
      ·have h6d := bsT h6
       have hz := sptE_6 hp1 hv hlh (.inl h6d)
       have hfinE := hz.1
       have hfinL := hz.2
       have g'38 := (jn @h6 (jn @h6d g'34))
       refine aa g'38 ?_
       refine hQ _ _ (bB (.inl rfl) hbel (x1 := .tup [.sl none 0 (some 0), .int .i64 6]) (l2 := [.cells false 2 []]) (.tup [.sl (some (H.length, 0)) 0 (some 0), .int .i64 6]) (ag Tryz.results137) [.cells false 2 []] rfl [2] (by decide) ⟨by first | (rw [hfinL, hfinE]; done) | (rw [hfinL, hfinE]; rfl) | (rw [hfinL]; done) | (rw [hfinL]; rfl), by first | (rw [hfinL, hfinE]; done) | (rw [hfinL, hfinE]; rfl) | (rw [hfinL]; done) | (rw [hfinL]; rfl)⟩ ?_)
       exact be
    ·have h4d := bsT h4
     have hz := sptE_2 (lo := lo) (hi := hi) hp1 hv (by omega)
     have hfinE := hz.1
     have hfinL := hz.2
     have g'39 := (jn @h4 (jn @h4d g'31))
     refine aa g'39 ?_
     refine hQ _ _ (bB (.inl rfl) hbel (x1 := .tup [.sl none 0 (some 0), .int .i64 2]) (l2 := [.cells false 2 []]) (.tup [.sl (some (H.length, 0)) 0 (some 0), .int .i64 2]) (ag Tryz.results137) [.cells false 2 []] rfl [2] (by decide) ⟨by first | (rw [hfinL, hfinE]; done) | (rw [hfinL, hfinE]; rfl) | (rw [hfinL]; done) | (rw [hfinL]; rfl), by first | (rw [hfinL, hfinE]; done) | (rw [hfinL, hfinE]; rfl) | (rw [hfinL]; done) | (rw [hfinL]; rfl)⟩ ?_)
     exact be
   ·have h3d := bsT h3
    have hz := sptE_2 (lo := lo) (hi := hi) hp1 hv (by omega)
    have hfinE := hz.1
    have hfinL := hz.2
    have g'40 := (jn @h3 (jn @h3d g'30))
    refine aa g'40 ?_
    refine hQ _ _ (bB (.inl rfl) hbel (x1 := .tup [.sl none 0 (some 0), .int .i64 2]) (l2 := [.cells false 2 []]) (.tup [.sl (some (H.length, 0)) 0 (some 0), .int .i64 2]) (ag Tryz.results137) [.cells false 2 []] rfl [2] (by decide) ⟨by first | (rw [hfinL, hfinE]; done) | (rw [hfinL, hfinE]; rfl) | (rw [hfinL]; done) | (rw [hfinL]; rfl), by first | (rw [hfinL, hfinE]; done) | (rw [hfinL, hfinE]; rfl) | (rw [hfinL]; done) | (rw [hfinL]; rfl)⟩ ?_)
    exact be
 ·have h1d := bsT h1
  have hz := sptE_1 (x0 := x0) (y0 := y0) (x1 := x1) (y1 := y1) (vx := vx) (vy := vy) (vd := vd) (lo := lo) (hi := hi) (fun hh => by rw [h1d] at hh; exact absurd hh.1 (by decide))
  have hfinE := hz.1
  have hfinL := hz.2
  have g'41 := (jn @h1 @h1d)
  refine aa g'41 ?_
  refine hQ _ _ (bB (.inl rfl) hbel (x1 := .tup [.sl none 0 (some 0), .int .i64 1]) (l2 := [.cells false 2 []]) (.tup [.sl (some (H.length, 0)) 0 (some 0), .int .i64 1]) (ag Tryz.results137) [.cells false 2 []] rfl [2] (by decide) ⟨by first | (rw [hfinL, hfinE]; done) | (rw [hfinL, hfinE]; rfl) | (rw [hfinL]; done) | (rw [hfinL]; rfl), by first | (rw [hfinL, hfinE]; done) | (rw [hfinL, hfinE]; rfl) | (rw [hfinL]; done) | (rw [hfinL]; rfl)⟩ ?_)
  exact be
open Go.RowKit
def dirE (b : T6) (m h : Int) : T9 := (b.1, b.2.1, b.2.2.1, b.2.2.2.1, b.2.2.2.2.1, b.2.2.2.2.2, (aZ h m).1, (aZ h m).2.1, (aZ h m).2.2)
def mkB (b : T6) : List Int := bl b.2.2.2.2.1 b.2.2.2.2.2.toNat
def dirB (b : T6) (m : Int) : Nat → List T9
 | 0 => []
 | j + 1 => dirB b m j ++ [dirE b m (gi (mkB b) j)]
def dirS (l : List T6) (m : Int) : Nat → List T9
 | 0 => []
 | i + 1 => dirS l m i ++ dirB (g6 l i) m (mkB (g6 l i)).length
def av (l : List T6) (m : Int) : List T9 := dirS l m l.length
theorem jy (b : T6) (m : Int) : ∀ j : Nat, (dirB b m j).length = j
 | 0 => rfl
 | j + 1 => by simp only [dirB, List.length_append, jy b m j]; rfl
theorem nl {l : List T6} (h : bP l = true) {i : Nat} (hi : i < l.length) : 1 ≤ (mkB (g6 l i)).length ∧ (mkB (g6 l i)).length ≤ 256 ∧ (((mkB (g6 l i)).length : Nat) : Int) = g66 l i := by
 have := g66_bd h hi
 unfold mkB
 rw [ew]
 have e : (g6 l i).2.2.2.2.2 = g66 l i := rfl
 rw [e]; omega
theorem lG {l : List T6} (h : bP l = true) (m : Int) : ∀ i : Nat, i ≤ l.length → i ≤ (dirS l m i).length ∧ (dirS l m i).length ≤ 256 * i
 | 0, _ => by simp [dirS]
 | i + 1, hi => by
  have ih := lG h m i (by omega)
  have k := nl h (show i < l.length by omega)
  simp only [dirS, List.length_append, jy]; omega
theorem jz {l : List T6} (h : bP l = true) (m : Int) : l.length ≤ (av l m).length ∧ (av l m).length ≤ 4096 := by
 have a := lG h m l.length (Nat.le_refl _)
 have b := gc h
 unfold av; omega
theorem vS {b : T6} {m : Int} {e : T9} : ∀ {j : Nat}, j ≤ (mkB b).length → (e ∈ dirB b m j ↔ ∃ q : Nat, q < j ∧ e = dirE b m (gi (mkB b) q))
 | 0, _ => by simp [dirB]
 | j + 1, hj => by
  rw [dirB, List.mem_append, vS (by omega), List.mem_singleton]
  constructor
  ·rintro (⟨q, hq, rfl⟩ | rfl)
   ·exact ⟨q, by omega, rfl⟩
   ·exact ⟨j, by omega, rfl⟩
  ·rintro ⟨q, hq, rfl⟩
   rcases Nat.lt_or_ge q j with h | h
   ·exact .inl ⟨q, h, rfl⟩
   ·obtain rfl : q = j := by omega
    exact .inr rfl
theorem jA {l : List T6} {m : Int} {e : T9} : ∀ {i : Nat}, i ≤ l.length → (e ∈ dirS l m i ↔ ∃ j q : Nat, j < i ∧ q < (mkB (g6 l j)).length ∧ e = dirE (g6 l j) m (gi (mkB (g6 l j)) q))
 | 0, _ => by simp [dirS]
 | i + 1, hi => by
  rw [dirS, List.mem_append, jA (by omega), vS (Nat.le_refl _)]
  constructor
  ·rintro (⟨j, q, h1, h2, h3⟩ | ⟨q, h2, h3⟩)
   ·exact ⟨j, q, by omega, h2, h3⟩
   ·exact ⟨i, q, by omega, h2, h3⟩
  ·rintro ⟨j, q, h1, h2, h3⟩
   rcases Nat.lt_or_ge j i with h | h
   ·exact .inl ⟨j, q, h, h2, h3⟩
   ·obtain rfl : j = i := by omega
    exact .inr ⟨q, h2, h3⟩
def pairB (e : T9) : Bool := bxB e.1 e.2.1 e.2.2.1 e.2.2.2.1 e.2.2.2.2.1 e.2.2.2.2.2.1 && cZ e.2.2.2.2.2.2.1 e.2.2.2.2.2.2.2.1 e.2.2.2.2.2.2.2.2
theorem nm {l : List T6} (h : bP l = true) {m : Int} {e : T9} (he : e ∈ av l m) : pairB e = true := by
 obtain ⟨j, q, hj, hq, rfl⟩ := (jA (Nat.le_refl _)).1 he
 unfold pairB dirE
 rw [Bool.and_eq_true]
 exact ⟨(bU.1 h).2 (g6 l j) (cL hj), ic _ _⟩
def psB (e : T9) (s0 t0 s1 t1 far : Int) : Bool := c6 e.1 e.2.1 e.2.2.2.2.2.2.1 e.2.2.2.2.2.2.2.1 e.2.2.2.2.2.2.2.2 far s0 t0 s1 t1 && (c6 e.2.2.1 e.2.1 e.2.2.2.2.2.2.1 e.2.2.2.2.2.2.2.1 e.2.2.2.2.2.2.2.2 far s0 t0 s1 t1 && (c6 e.1 e.2.2.2.1 e.2.2.2.2.2.2.1 e.2.2.2.2.2.2.2.1 e.2.2.2.2.2.2.2.2 far s0 t0 s1 t1 && c6 e.2.2.1 e.2.2.2.1 e.2.2.2.2.2.2.1 e.2.2.2.2.2.2.2.1 e.2.2.2.2.2.2.2.2 far s0 t0 s1 t1))
def psC (e : T9) (far : Int) (c : Int × Int) : Bool := psB e (c.1 * 64) (c.2 * 64) (c.1 * 64 + 64) (c.2 * 64 + 64) far
def prvB (l : List T6) (m far : Int) (c : Int × Int) : Bool := (av l m).all fun e => psC e far c
def aE (r g : Int) : Int := if r = -1 then 1024 - g else r - g
def aW (l : List T6) (m far : Int) : List (Int × Int) := trL (g91 (av l m) 0) (g92 (av l m) 0) (g97 (av l m) 0) (g98 (av l m) 0) (g99 (av l m) 0) 0 far
def bY (W Hh : Int) (l : List T6) (m far : Int) (c : Int × Int) : Bool := btw c.1 0 (W - 1) && (btw c.2 0 (Hh - 1) && prvB l m far c)
def ef (W Hh : Int) (l : List T6) (m r g : Int) : List (Int × Int) := if aE r g ≤ 0 then [] else (aW l m (aE r g)).filter (bY W Hh l m (aE r g))
theorem vT {α : Type} {p : α → Bool} {l : List α} {j : Nat} (h : j < l.length) : (l.take (j + 1)).filter p = (l.take j).filter p ++ (if p l[j] = true then [l[j]] else []) := by
 rw [List.take_succ_eq_append_getElem h, List.filter_append]
 congr 1
 cases hp : p l[j] <;> simp [hp]
theorem flt_len {α : Type} {p : α → Bool} {l : List α} {j : Nat} : ((l.take j).filter p).length ≤ j := by
 have := List.length_filter_le p (l.take j)
 rw [List.length_take] at this; omega
theorem vU (W Hh : Int) (l : List T6) (m r g : Int) : (ef W Hh l m r g).length ≤ 7225 := by
 unfold ef; split
 ·simp
 ·exact Nat.le_trans (List.length_filter_le _ _) (jc _ _ _ _ _ _ _)
theorem trL_mem {px py vx vy vd lo hi : Int} {c : Int × Int} (h : c ∈ trL px py vx vy vd lo hi) : (-32768 ≤ c.1 ∧ c.1 ≤ 32768) ∧ -32768 ≤ c.2 ∧ c.2 ≤ 32768 := by
 unfold trL mkL at h
 split at h
 ·rename_i he
  obtain ⟨h1, h2, hr⟩ := trE_z he
  have hq := ge.1 h1
  exact swp_bd ((iC (by omega) (by omega) h2 hr).1 h)
 ·cases h
def sqO (x y : Int) : Bool := bZ x 16384 && bZ y 16384
open Go.RowKit
theorem wX {a b : Int × Int} (h : cY a b) : ¬ cY b a := by unfold cY at *; omega
theorem befP_irr {a : Int × Int} : ¬ cY a a := by unfold cY; omega
theorem gY {a b c : Int × Int} (h : cY a b) (k : cY b c) : cY a c := by unfold cY at *; omega
theorem vV (a b : Int × Int) : cY a b ∨ a = b ∨ cY b a := by
 unfold cY
 rcases Int.lt_trichotomy a.2 b.2 with h | h | h
 ·exact .inl (.inl h)
 ·rcases Int.lt_trichotomy a.1 b.1 with k | k | k
  ·exact .inl (.inr ⟨h, k⟩)
  ·exact .inr (.inl (Prod.ext k h))
  ·exact .inr (.inr (.inr ⟨h.symm, k⟩))
 ·exact .inr (.inr (.inl h))
def ce : List (Int × Int) → List (Int × Int)
 | [] => []
 | [a] => [a]
 | a :: b :: l => if a = b then ce (b :: l) else a :: ce (b :: l)
theorem e9 : ∀ {l : List (Int × Int)} {x : Int × Int}, x ∈ ce l ↔ x ∈ l
 | [], _ => Iff.rfl
 | [_], _ => Iff.rfl
 | a :: b :: l, x => by
  unfold ce
  split
  ·rename_i h
   rw [e9 (l := b :: l), List.mem_cons (l := b :: l)]
   exact ⟨.inr, fun k => k.elim (fun q => by rw [q, h]; exact List.mem_cons_self ..) id⟩
  ·rw [List.mem_cons, List.mem_cons (l := b :: l), e9 (l := b :: l)]
def leC (a b : Int × Int) : Prop := a = b ∨ cY a b
theorem lh : ∀ {l : List (Int × Int)}, l.Pairwise leC → (ce l).Pairwise cY
 | [], _ => .nil
 | [a], _ => by unfold ce; simp
 | a :: b :: l, h => by
  rw [List.pairwise_cons] at h
  have r := lh h.2
  unfold ce
  split
  ·exact r
  ·rename_i hab
   rw [List.pairwise_cons]
   refine ⟨fun x hx => ?_, r⟩
   have hm := e9.1 hx
   have hb : cY a b := (h.1 b (List.mem_cons_self ..)).resolve_left hab
   rcases List.mem_cons.1 hm with q | q
   ·rw [q]; exact hb
   ·rcases (List.pairwise_cons.1 h.2).1 x q with k | k
    ·rw [← k]; exact hb
    ·exact gY hb k
def gf (c : Int × Int) : List (Int × Int) → List (Int × Int)
 | [] => [c]
 | a :: l => if a.2 < c.2 ∨ (a.2 = c.2 ∧ a.1 < c.1) then a :: gf c l else if a = c then a :: l else c :: a :: l
theorem lH {c x : Int × Int} : ∀ {l : List (Int × Int)}, x ∈ gf c l ↔ x = c ∨ x ∈ l
 | [] => by simp [gf]
 | a :: l => by
  unfold gf
  split
  ·rw [List.mem_cons, lH (l := l), List.mem_cons]
   exact ⟨fun k => k.elim (.inr ∘ .inl) (fun k => k.elim .inl (.inr ∘ .inr)), fun k => k.elim (.inr ∘ .inl) (fun k => k.elim .inl (.inr ∘ .inr))⟩
  ·split
   ·rename_i h
    exact ⟨.inr, fun k => k.elim (fun q => by rw [q, ← h]; exact List.mem_cons_self ..) id⟩
   ·rw [List.mem_cons]
theorem li {c : Int × Int} : ∀ {l : List (Int × Int)}, l.Pairwise cY → (gf c l).Pairwise cY
 | [], _ => by unfold gf; simp
 | a :: l, h => by
  rw [List.pairwise_cons] at h
  unfold gf
  split
  ·rename_i k
   rw [List.pairwise_cons]
   refine ⟨fun x hx => ?_, li h.2⟩
   rcases lH.1 hx with q | q
   ·rw [q]; exact k
   ·exact h.1 x q
  ·rename_i k
   split
   ·exact List.pairwise_cons.2 h
   ·rename_i e
    have hc : cY c a := ((vV c a).resolve_right fun q => q.elim (fun q => e q.symm) (fun q => k q))
    rw [List.pairwise_cons]
    refine ⟨fun x hx => ?_, List.pairwise_cons.2 h⟩
    rcases List.mem_cons.1 hx with q | q
    ·rw [q]; exact hc
    ·exact gY hc (h.1 x q)
theorem cpt_put {l s : List (Int × Int)} (hs : s.Pairwise leC) (hm : ∀ x, x ∈ s ↔ x ∈ l) : ce s = l.foldl (fun o c => gf c o) [] := by
 have g : ∀ (l o : List (Int × Int)), o.Pairwise cY → (l.foldl (fun o c => gf c o) o).Pairwise cY ∧ ∀ x, x ∈ l.foldl (fun o c => gf c o) o ↔ x ∈ l ∨ x ∈ o := by
  intro l
  induction l with
  | nil => exact fun o ho => ⟨ho, fun x => by simp⟩
  | cons a l ih =>
   intro o ho
   have k := ih (gf a o) (li ho)
   refine ⟨k.1, fun x => ?_⟩
   rw [List.foldl_cons, k.2 x, lH, List.mem_cons]
   exact ⟨fun q => q.elim (.inl ∘ .inr) (fun q => q.elim (.inl ∘ .inl) .inr), fun q => q.elim (fun q => q.elim (.inr ∘ .inl) .inl) (.inr ∘ .inr)⟩
 have k := g l [] .nil
 exact eq_sorted (lh hs) k.1 fun x => by rw [e9, hm, k.2]; simp
theorem vW : ∀ (m : List (Int × Int)) (y x : Int × Int), ce (m ++ [y] ++ [x]) = ce (m ++ [y]) ++ (if y = x then [] else [x])
 | [], y, x => by
  show ce [y, x] = ce [y] ++ _
  unfold ce
  split
  ·rename_i h; subst h; simp [ce]
  ·rename_i h; simp [ce]
 | [a], y, x => by
  show ce (a :: y :: [x]) = ce (a :: y :: []) ++ _
  simp only [ce]
  by_cases h : a = y
  ·by_cases k : y = x
   ·simp [h, k]
   ·simp [h, k]
  ·by_cases k : y = x
   ·simp [h, k]
   ·simp [h, k]
 | a :: b :: m, y, x => by
  show ce (a :: b :: (m ++ [y] ++ [x])) = ce (a :: b :: (m ++ [y])) ++ _
  have ih := vW (b :: m) y x
  simp only [List.cons_append] at ih
  rw [ce, ce, ih]
  by_cases h : a = b
  ·rw [if_pos h, if_pos h]
  ·rw [if_neg h, if_neg h, List.cons_append]
theorem lI {l : List (Int × Int)} {j : Nat} (h1 : 1 ≤ j) (hj : j < l.length) : ce (l.take (j + 1)) = ce (l.take j) ++ (if l[j - 1]'(by omega) = l[j] then [] else [l[j]]) := by
 obtain ⟨i, rfl⟩ : ∃ i, j = i + 1 := ⟨j - 1, by omega⟩
 have e1 := List.take_succ_eq_append_getElem hj
 have e2 := List.take_succ_eq_append_getElem (show i < l.length by omega)
 rw [e1, e2]
 exact vW _ _ _
theorem cpt_1 {l : List (Int × Int)} (h : l.length < 2) : ce l = l := by
 match l, h with
 | [], _ => rfl
 | [_], _ => rfl
theorem nn (l : List (Int × Int)) : (ce l).length ≤ l.length := by
 match l with
 | [] => exact Nat.le_refl _
 | [_] => exact Nat.le_refl _
 | a :: b :: m =>
  have := nn (b :: m)
  rw [ce]
  split
  ·exact Nat.le_trans this (by simp)
  ·simp only [List.length_cons] at *; omega
theorem leC_anti {a b : Int × Int} (h : leC a b) (k : leC b a) : a = b := by
 unfold leC at *
 rcases h with h | h
 ·exact h
 ·rcases k with k | k
  ·exact k.symm
  ·exact absurd k (wX h)
theorem vX : ∀ {l m : List (Int × Int)}, l.Perm m → l.Pairwise leC → m.Pairwise leC → l = m
 | [], m, h, _, _ => (List.Perm.nil_eq h)
 | a :: l, [], h, _, _ => absurd h.symm.nil_eq (by simp)
 | a :: l, b :: m, h, h1, h2 => by
  rw [List.pairwise_cons] at h1 h2
  have hab : a = b := by
   have ha : a ∈ b :: m := h.subset (List.mem_cons_self ..)
   have hb : b ∈ a :: l := h.symm.subset (List.mem_cons_self ..)
   rcases List.mem_cons.1 ha with e | e
   ·exact e
   ·rcases List.mem_cons.1 hb with e2 | e2
    ·exact e2.symm
    ·exact leC_anti (h1.1 b e2) (h2.1 a e)
  subst hab
  rw [vX (List.Perm.cons_inv h) h1.2 h2.2]
theorem leC_tot (a b : Int × Int) : leC a b ∨ leC b a := by
 unfold leC
 rcases vV a b with h | h | h
 ·exact .inl (.inr h)
 ·exact .inl (.inl h)
 ·exact .inr (.inr h)
theorem leC_trans {a b c : Int × Int} (h : leC a b) (k : leC b c) : leC a c := by
 unfold leC at *
 rcases h with rfl | h
 ·exact k
 ·rcases k with rfl | k
  ·exact .inr h
  ·exact .inr (gY h k)
instance (a b : Int × Int) : Decidable (cY a b) := by unfold cY; infer_instance
instance (a b : Int × Int) : Decidable (leC a b) := by unfold leC; infer_instance
def dB (l : List (Int × Int)) : List (Int × Int) := l.mergeSort fun a b => decide (leC a b)
theorem fa (l : List (Int × Int)) : (dB l).Perm l := List.mergeSort_perm _ _
theorem gg (l : List (Int × Int)) : (dB l).length = l.length := (fa l).length_eq
theorem iV (l : List (Int × Int)) : (dB l).Pairwise leC := by
 have h := List.pairwise_mergeSort (le := fun a b => decide (leC a b)) (fun a b c h k => by simp only [decide_eq_true_eq] at *; exact leC_trans h k) (fun a b => by simp only [Bool.or_eq_true, decide_eq_true_eq]; exact leC_tot a b) l
 unfold dB
 refine h.imp fun {a b} k => ?_
 simpa using k
theorem lJ : dB [] = [] := by simp [dB]
open Go.RowKit
def prS (W Hh : Int) (l : List T6) (sc : List (Int × Int)) (g : Int) : Nat → List (Int × Int)
 | 0 => []
 | i + 1 => prS W Hh l sc g i ++ ef W Hh l (g1 sc i) (g2 sc i) g
def gL (W Hh : Int) (l : List T6) (sc : List (Int × Int)) (g : Int) : List (Int × Int) := if ez l = true then prS W Hh l sc g sc.length else []
def ba (W Hh : Int) (l : List T6) (sc : List (Int × Int)) (g : Int) : List (Int × Int) := ce (dB (gL W Hh l sc g))
theorem kP (W Hh : Int) (l : List T6) (sc : List (Int × Int)) (g : Int) : ∀ i : Nat, (prS W Hh l sc g i).length ≤ 7225 * i
 | 0 => by simp [prS]
 | i + 1 => by
  have := kP W Hh l sc g i
  have := vU W Hh l (g1 sc i) (g2 sc i) g
  simp only [prS, List.length_append]; omega
theorem allL_nil {W Hh : Int} {l : List T6} {sc : List (Int × Int)} {g : Int} (h : ez l = false) : ba W Hh l sc g = [] ∧ gL W Hh l sc g = [] := by
 have e : gL W Hh l sc g = [] := if_neg (by rw [h]; decide)
 exact ⟨by unfold ba; rw [e, lJ]; rfl, e⟩
def swS (l : List T9) (r g : Int) : Nat → List (Int × Int)
 | 0 => []
 | i + 1 => swS l r g i ++ cM (g91 l i) (g92 l i) (g93 l i) (g94 l i) (g97 l i) (g98 l i) (g99 l i) (if 0 < r - g then r - g else 0) (r + g)
def fw (l : List T6) (m r g : Int) : List (Int × Int) := if (decide (r = -1) || !ez l) = true then [] else swS (av l m) r g (av l m).length
def bF (l : List T6) (m r g : Int) : List (Int × Int) := ce (dB (fw l m r g))
theorem kQ (l : List T9) (r g : Int) : ∀ i : Nat, (swS l r g i).length ≤ 7225 * i
 | 0 => by simp [swS]
 | i + 1 => by
  have := kQ l r g i
  have := lF (g91 l i) (g92 l i) (g93 l i) (g94 l i) (g97 l i) (g98 l i) (g99 l i) (if 0 < r - g then r - g else 0) (r + g)
  simp only [swS, List.length_append]; omega
theorem vY {l : List T6} {m r g : Int} (h : r = -1 ∨ ez l = false) : bF l m r g = [] ∧ fw l m r g = [] := by
 have e : fw l m r g = [] := if_pos (by rcases h with h | h <;> simp [h])
 exact ⟨by unfold bF; rw [e, lJ]; rfl, e⟩
theorem dirA_tau {l : List T6} (hS : bP l = true) (h : ez l = true) (m : Int) : (av l m).length ≤ 32 := by
 unfold ez at h
 rw [Bool.and_eq_true, decide_eq_true_eq] at h
 have k : ∀ i : Nat, i ≤ l.length → ((dirS l m i).length : Int) = sumC l i := fun i => by
  induction i with
  | zero => intro _; rfl
  | succ i ih =>
   intro hi
   have := ih (by omega)
   have q := nl hS (show i < l.length by omega)
   simp only [dirS, sumC, List.length_append, jy]; omega
 have := k l.length (Nat.le_refl _)
 unfold av; omega
open Go.RowKit
open Go.RowKit
def d5 (ks xs : List Int) : Prop := ks.length = xs.length ∧ ∀ i : Nat, gi ks i = 0 ∨ gi ks i = gi xs i
theorem vZ {W H x y : Int} {ks xs : List Int} (h : d5 ks xs) (k : atI W H ks x y = 1) : atI W H xs x y = 1 := by
 unfold atI at *
 split at k
 ·rename_i hi
  rw [if_pos hi]
  rcases h.2 (y * W + x).toNat with q | q <;> omega
 ·omega
theorem bel_vld {W H : Int} {ks xs : List Int} (h : d5 ks xs) (v : bW W H xs = true) : bW W H ks = true := by
 obtain ⟨a, b, c, d, e, f⟩ := bM.1 v
 refine bM.2 ⟨a, b, c, d, by rw [h.1]; exact e, fun v hv => ?_⟩
 obtain ⟨j, hj, rfl⟩ := List.mem_iff_getElem.1 hv
 rw [← iN hj]
 rcases h.2 j with q | q
 ·omega
 ·rw [q]
  have hj' : j < xs.length := by rw [← h.1]; exact hj
  rw [iN hj']; exact f _ (List.getElem_mem _)
theorem no {xs : List Int} {i j : Nat} {v : Int} (h : i < xs.length) : gi (xs.set i v) j = if i = j then v else gi xs j := by
 by_cases e : i = j
 ·subst e; simp [gi, List.getD_eq_getElem?_getD, h]
 ·simp [gi, List.getD_eq_getElem?_getD, e]
def cidx (W : Int) (c : Int × Int) : Nat := (c.2 * W + c.1).toNat
theorem np {W H : Int} {xs : List Int} {c : Int × Int} (hl : (xs.length : Int) = W * H) (h : inB W H c.1 c.2 = true) : cidx W c < xs.length := by
 obtain ⟨h1, h2, h3, h4⟩ := di.1 h
 have k := Int.mul_le_mul_of_nonneg_right (show c.2 + 1 ≤ H by omega) (show 0 ≤ W by omega)
 have e : (c.2 + 1) * W = c.2 * W + W := by grind
 have e2 : H * W = W * H := Int.mul_comm _ _
 have k0 := Int.mul_nonneg h3 (show 0 ≤ W by omega)
 unfold cidx; omega
def gh (W H : Int) : List (Int × Int) → List Int → Option (List Int)
 | [], o => some o
 | c :: l, o => if atI W H o c.1 c.2 = 2 then none else gh W H l (o.set (cidx W c) 1)
def eJ (W H : Int) : List (List (Int × Int)) → List Int → Option (List Int)
 | [], o => some o
 | s :: l, o => match s.filter fun c => !(atI W H o c.1 c.2 == 1) with
  | [] => none
  | [c] => eJ W H l (if inB W H c.1 c.2 = true then o.set (cidx W c) 2 else o)
  | _ => eJ W H l o
theorem set_le {o : List Int} {i : Nat} {v : Int} (h : ∀ x ∈ o, x ≤ 2) (hv : v ≤ 2) : ∀ x ∈ o.set i v, x ≤ 2 := fun x hx => by
 rcases List.mem_or_eq_of_mem_set hx with k | k
 ·exact h x k
 ·rw [k]; exact hv
theorem at_in {W H : Int} {xs : List Int} {c : Int × Int} (h : inB W H c.1 c.2 = true) : atI W H xs c.1 c.2 = gi xs (cidx W c) := if_pos h
theorem rm {W H : Int} {t : List Int} (hl : (t.length : Int) = W * H) : ∀ {l : List (Int × Int)} {o : List Int}, (∀ c ∈ l, inB W H c.1 c.2 = true ∧ atI W H t c.1 c.2 = 1) → d5 o t → ∃ q, gh W H l o = some q ∧ d5 q t
 | [], o, _, hk => ⟨o, rfl, hk⟩
 | c :: l, o, hc, hk => by
  obtain ⟨hin, ht⟩ := hc c (List.mem_cons_self ..)
  have hlt := np hl hin
  rw [at_in hin] at ht
  unfold gh
  rw [at_in hin, if_neg (by rcases hk.2 (cidx W c) with q | q <;> omega)]
  refine rm hl (fun c hc' => hc c (List.mem_cons_of_mem _ hc')) ⟨by rw [List.length_set]; exact hk.1, fun i => ?_⟩
  rw [no (by rw [hk.1]; exact hlt)]
  split
  ·rename_i e; subst e; exact .inr ht.symm
  ·exact hk.2 i
theorem rn {W H : Int} {t : List Int} (hl : (t.length : Int) = W * H) : ∀ {l : List (List (Int × Int))} {o : List Int}, (∀ s ∈ l, ∃ c ∈ s, atI W H t c.1 c.2 = 2) → d5 o t → ∃ q, eJ W H l o = some q ∧ d5 q t
 | [], o, _, hk => ⟨o, rfl, hk⟩
 | s :: l, o, hc, hk => by
  obtain ⟨w, hw, h2⟩ := hc s (List.mem_cons_self ..)
  have ih := fun {o} hk => rn hl (l := l) (o := o) (fun s hs => hc s (List.mem_cons_of_mem _ hs)) hk
  have hm : w ∈ s.filter fun c => !(atI W H o c.1 c.2 == 1) := List.mem_filter.2 ⟨hw, by
   have : ¬ atI W H o w.1 w.2 = 1 := fun k => by have := vZ hk k; omega
   simpa using this⟩
  unfold eJ
  split
  ·rename_i hs; rw [hs] at hm; cases hm
  ·rename_i c hs
   rw [hs, List.mem_singleton] at hm
   subst hm
   refine ih ?_
   split
   ·rename_i hin
    have hlt := np hl hin
    rw [at_in hin] at h2
    refine ⟨by rw [List.length_set]; exact hk.1, fun i => ?_⟩
    rw [no (by rw [hk.1]; exact hlt)]
    split
    ·rename_i e; subst e; exact .inr h2.symm
    ·exact hk.2 i
   ·exact hk
  ·exact ih hk
def gM (l : List T6) (sc : List (Int × Int)) (g : Int) : List (List (Int × Int)) := (sc.filter fun e => !(e.2 == -1)).map fun e => bF l e.1 e.2 g
def lnO (W Hh : Int) (xs : List Int) (l : List T6) (sc : List (Int × Int)) (g : Int) : Option (List Int) := if ez l = true then (gh W Hh (ba W Hh l sc g) xs).bind (eJ W Hh (gM l sc g)) else some xs
def lnE (W Hh : Int) (xs : List Int) (l : List T6) (sc : List (Int × Int)) (g : Int) : Int := if db W Hh xs l sc g = true then (match lnO W Hh xs l sc g with | none => 11 | some _ => 0) else 1
def lnX (W Hh : Int) (xs : List Int) (l : List T6) (sc : List (Int × Int)) (g : Int) : List Int := if db W Hh xs l sc g = true then (lnO W Hh xs l sc g).getD [] else []
def lnZ (W Hh : Int) (xs : List Int) (l : List T6) (sc : List (Int × Int)) (g : Int) (n : Int) : Int := if lnE W Hh xs l sc g = 0 then n else 0
section
variable {W Hh : Int} {xs : List Int} {l : List T6} {sc : List (Int × Int)} {g : Int}
theorem ln_1 (h : db W Hh xs l sc g = false) : lnE W Hh xs l sc g = 1 ∧ lnX W Hh xs l sc g = [] ∧ lnZ W Hh xs l sc g W = 0 ∧ lnZ W Hh xs l sc g Hh = 0 := by
 have e : lnE W Hh xs l sc g = 1 := if_neg (by rw [h]; decide)
 exact ⟨e, if_neg (by rw [h]; decide), if_neg (by rw [e]; decide), if_neg (by rw [e]; decide)⟩
theorem ln_11 (h : db W Hh xs l sc g = true) (k : lnO W Hh xs l sc g = none) : lnE W Hh xs l sc g = 11 ∧ lnX W Hh xs l sc g = [] ∧ lnZ W Hh xs l sc g W = 0 ∧ lnZ W Hh xs l sc g Hh = 0 := by
 have e : lnE W Hh xs l sc g = 11 := by unfold lnE; rw [if_pos h, k]
 exact ⟨e, by unfold lnX; rw [if_pos h, k]; rfl, if_neg (by rw [e]; decide), if_neg (by rw [e]; decide)⟩
theorem ln_0 {o : List Int} (h : db W Hh xs l sc g = true) (k : lnO W Hh xs l sc g = some o) : lnE W Hh xs l sc g = 0 ∧ lnX W Hh xs l sc g = o ∧ lnZ W Hh xs l sc g W = W ∧ lnZ W Hh xs l sc g Hh = Hh := by
 have e : lnE W Hh xs l sc g = 0 := by unfold lnE; rw [if_pos h, k]
 exact ⟨e, by unfold lnX; rw [if_pos h, k]; rfl, if_pos e, if_pos e⟩
theorem prS_in : ∀ {i : Nat} {c : Int × Int}, c ∈ prS W Hh l sc g i → inB W Hh c.1 c.2 = true
 | 0, _, h => by cases h
 | i + 1, c, h => by
  unfold prS at h
  rcases List.mem_append.1 h with h | h
  ·exact prS_in h
  ·unfold ef at h
   split at h
   ·cases h
   ·have k := (List.mem_filter.1 h).2
    unfold bY at k
    rw [Bool.and_eq_true, Bool.and_eq_true, bu, bu] at k
    exact di.2 ⟨by omega, by omega, by omega, by omega⟩
theorem allL_in {c : Int × Int} (h : c ∈ ba W Hh l sc g) : inB W Hh c.1 c.2 = true := by
 unfold ba at h
 have h := (fa _).mem_iff.1 (e9.1 h)
 unfold gL at h
 split at h
 ·exact prS_in h
 ·cases h
def lfS (W : Int) (A : List (Int × Int)) (xs : List Int) : Nat → List Int
 | 0 => xs
 | i + 1 => (lfS W A xs i).set ((g2 A i * W) + g1 A i).toNat 1
theorem vld_set {o : List Int} {i : Nat} {v : Int} (h : bW W Hh o = true) (hv : v ≤ 2) : bW W Hh (o.set i v) = true := by
 have q := bM.1 h
 exact bM.2 ⟨q.w0, q.w1, q.h0, q.h1, by rw [List.length_set]; exact q.len, set_le q.le hv⟩
theorem jd {A : List (Int × Int)} (h : bW W Hh xs = true) : ∀ i : Nat, bW W Hh (lfS W A xs i) = true
 | 0 => h
 | i + 1 => vld_set (jd h i) (by decide)
theorem ro {A : List (Int × Int)} {o : List Int} {i : Nat} (hi : i < A.length) (hA : ∀ c ∈ A, inB W Hh c.1 c.2 = true) : gh W Hh (A.drop i) o = if gi o ((g2 A i * W) + g1 A i).toNat = 2 then none else gh W Hh (A.drop (i + 1)) (o.set ((g2 A i * W) + g1 A i).toNat 1) := by
 rw [List.drop_eq_getElem_cons hi]
 have h := hA _ (List.getElem_mem hi)
 have e : cidx W A[i] = ((g2 A i * W) + g1 A i).toNat := by rw [← cw hi]; rfl
 conv => lhs; unfold gh
 rw [at_in h, e]
theorem gin_mem {A : List (Int × Int)} {i : Nat} (hi : i < A.length) (hA : ∀ c ∈ A, inB W Hh c.1 c.2 = true) : inB W Hh (g1 A i) (g2 A i) = true := by
 have h := hA _ (List.getElem_mem hi)
 rw [← cw hi] at h; exact h
def frP (W Hh : Int) (o : List Int) (c : Int × Int) : Bool := atI W Hh o c.1 c.2 == 1
def lwU (W Hh : Int) (o : List Int) (d : List (Int × Int)) : List Int := if d.length = 1 ∧ btw (g1 d 0) 0 (W - 1) = true ∧ btw (g2 d 0) 0 (Hh - 1) = true then o.set ((g2 d 0 * W) + g1 d 0).toNat 2 else o
def lwS (W Hh : Int) (l : List T6) (sc : List (Int × Int)) (g : Int) (o : List Int) : Nat → List Int
 | 0 => o
 | i + 1 => if g2 sc i = -1 then lwS W Hh l sc g o i else lwU W Hh (lwS W Hh l sc g o i) (b9 (frP W Hh (lwS W Hh l sc g o i)) (bF l (g1 sc i) (g2 sc i) g))
theorem lwU_vld {o : List Int} {d : List (Int × Int)} (h : bW W Hh o = true) : bW W Hh (lwU W Hh o d) = true := by
 unfold lwU; split
 ·exact vld_set h (by decide)
 ·exact h
theorem je {o : List Int} (h : bW W Hh o = true) : ∀ i : Nat, bW W Hh (lwS W Hh l sc g o i) = true
 | 0 => h
 | i + 1 => by
  unfold lwS; split
  ·exact je h i
  ·exact lwU_vld (je h i)
theorem rp {o : List Int} {i : Nat} (hi : i < sc.length) : eJ W Hh (gM l (sc.drop i) g) o = if g2 sc i = -1 then eJ W Hh (gM l (sc.drop (i + 1)) g) o else if (b9 (frP W Hh o) (bF l (g1 sc i) (g2 sc i) g)).length = 0 then none else eJ W Hh (gM l (sc.drop (i + 1)) g) (lwU W Hh o (b9 (frP W Hh o) (bF l (g1 sc i) (g2 sc i) g))) := by
 have e : sc[i] = (g1 sc i, g2 sc i) := (cw hi).symm
 unfold gM
 rw [List.drop_eq_getElem_cons hi, List.filter_cons, e]
 by_cases h : g2 sc i = -1
 ·rw [if_pos h, if_neg (by simp [h])]
 ·rw [if_neg h, if_pos (by simpa using h), List.map_cons]
  conv => lhs; unfold eJ
  have hd : ∀ s : List (Int × Int), (s.filter fun c => !(atI W Hh o c.1 c.2 == 1)) = b9 (frP W Hh o) s := fun _ => rfl
  simp only [hd]
  generalize b9 (frP W Hh o) (bF l (g1 sc i) (g2 sc i) g) = d
  match d with
  | [] => simp
  | [c] =>
   simp only [List.length_cons, List.length_nil]
   unfold lwU
   have q : (btw (g1 [c] 0) 0 (W - 1) = true ∧ btw (g2 [c] 0) 0 (Hh - 1) = true) ↔ inB W Hh c.1 c.2 = true := by
    rw [bu, bu, di]; show ((0 ≤ c.1 ∧ c.1 ≤ W - 1) ∧ 0 ≤ c.2 ∧ c.2 ≤ Hh - 1) ↔ _; omega
   simp only [List.length_cons, List.length_nil, Nat.zero_add, true_and, q, Nat.one_ne_zero, if_false]
   rfl
  | a :: b :: t => simp [lwU]
theorem lwS_skip {o : List Int} {i : Nat} (h : g2 sc i = -1) : lwS W Hh l sc g o (i + 1) = lwS W Hh l sc g o i := by simp only [lwS]; rw [if_pos h]
theorem lK {o : List Int} {i : Nat} (h : ¬ g2 sc i = -1) (k : ¬ ((b9 (frP W Hh (lwS W Hh l sc g o i)) (bF l (g1 sc i) (g2 sc i) g)).length = 1 ∧ btw (g1 (b9 (frP W Hh (lwS W Hh l sc g o i)) (bF l (g1 sc i) (g2 sc i) g)) 0) 0 (W - 1) = true ∧ btw (g2 (b9 (frP W Hh (lwS W Hh l sc g o i)) (bF l (g1 sc i) (g2 sc i) g)) 0) 0 (Hh - 1) = true)) : lwS W Hh l sc g o (i + 1) = lwS W Hh l sc g o i := by simp only [lwS]; rw [if_neg h]; exact if_neg k
theorem lwS_set {o : List Int} {i : Nat} (h : ¬ g2 sc i = -1) (k : (b9 (frP W Hh (lwS W Hh l sc g o i)) (bF l (g1 sc i) (g2 sc i) g)).length = 1 ∧ btw (g1 (b9 (frP W Hh (lwS W Hh l sc g o i)) (bF l (g1 sc i) (g2 sc i) g)) 0) 0 (W - 1) = true ∧ btw (g2 (b9 (frP W Hh (lwS W Hh l sc g o i)) (bF l (g1 sc i) (g2 sc i) g)) 0) 0 (Hh - 1) = true) : lwS W Hh l sc g o (i + 1) = (lwS W Hh l sc g o i).set ((g2 (b9 (frP W Hh (lwS W Hh l sc g o i)) (bF l (g1 sc i) (g2 sc i) g)) 0 * W) + g1 (b9 (frP W Hh (lwS W Hh l sc g o i)) (bF l (g1 sc i) (g2 sc i) g)) 0).toNat 2 := by simp only [lwS]; rw [if_neg h]; exact if_pos k
theorem v6 {o : List Int} {i : Nat} (hi : i < sc.length) (h : g2 sc i = -1 ∨ ¬ (b9 (frP W Hh (lwS W Hh l sc g o i)) (bF l (g1 sc i) (g2 sc i) g)).length = 0) : eJ W Hh (gM l (sc.drop i) g) (lwS W Hh l sc g o i) = eJ W Hh (gM l (sc.drop (i + 1)) g) (lwS W Hh l sc g o (i + 1)) := by
 rw [rp hi]
 simp only [lwS]
 by_cases k : g2 sc i = -1
 ·rw [if_pos k, if_pos k]
 ·rw [if_neg k, if_neg k, if_neg (by rcases h with h | h; exact absurd h k; exact h)]
theorem lwS_bad {o : List Int} {i : Nat} (hi : i < sc.length) (h : ¬ g2 sc i = -1) (k : (b9 (frP W Hh (lwS W Hh l sc g o i)) (bF l (g1 sc i) (g2 sc i) g)).length = 0) : eJ W Hh (gM l (sc.drop i) g) (lwS W Hh l sc g o i) = none := by
 rw [rp hi, if_neg h, if_pos k]
theorem vld_pos {o : List Int} (h : bW W Hh o = true) : 0 < o.length := by
 have q := bM.1 h
 have := (q.idx (show inB W Hh 0 0 = true from di.2 (by have := q.w0; have := q.h0; omega))).2.2.2.2.1
 omega
theorem pad_len {p : Int × Int → Bool} {l : List (Int × Int)} : (dL l.length (b9 p l)).length = l.length := by
 have := delL_le (p := p) (l := l)
 unfold dL; simp; omega
theorem pad_g1 {n : Nat} {d : List (Int × Int)} (h : ¬ d.length = 0) : g1 (dL n d) 0 = g1 d 0 := by
 match d, h with
 | a :: t, _ => rfl
theorem pad_g2 {n : Nat} {d : List (Int × Int)} (h : ¬ d.length = 0) : g2 (dL n d) 0 = g2 d 0 := by
 match d, h with
 | a :: t, _ => rfl
theorem v7 {m r : Int} (hS : bP l = true) : (bF l m r g).length ≤ 7225 * 4096 := by
 have h1 := kQ (av l m) r g (av l m).length
 have h2 := jz hS m
 have h3 : (fw l m r g).length ≤ 7225 * 4096 := by
  unfold fw; split
  ·simp
  ·omega
 unfold bF
 have := nn (dB (fw l m r g)); rw [gg] at this; omega
theorem allL_len : (ba W Hh l sc g).length ≤ 7225 * sc.length := by
 have h1 := kP W Hh l sc g sc.length
 have h3 : (gL W Hh l sc g).length ≤ 7225 * sc.length := by
  unfold gL; split
  ·exact h1
  ·simp
 unfold ba
 have := nn (dB (gL W Hh l sc g)); rw [gg] at this; omega
end
set_option linter.unusedSimpArgs false
set_option linter.unusedVariables false
open Go.RowKit
section
variable {W Hh : Int} {xs : List Int} {sc : List (Int × Int)}
end
set_option linter.unusedSimpArgs false
set_option linter.unusedVariables false
open Go.RowKit
set_option maxHeartbeats 4000000
set_option maxRecDepth 100000
theorem with_c (H : ac) (x0 : Int) (y0 : Int) (x1 : Int) (y1 : Int) (f : Int) (c : Int) : ACalls Tryz.prog 154 [.agg [.int .i64 x0, .int .i64 y0, .int .i64 x1, .int .i64 y1], .agg [.int .i64 f, .int .i64 c]] H (fun v H' => v = .agg [.int .i64 x0, .int .i64 y0, .int .i64 x1, .int .i64 y1, .int .i64 f, .int .i64 c] ∧ H' = H) := by
 refine AcT true Tryz.func154 ?_; intro hbel Q hQ
 refine aY ?_
 exact hQ _ _ (ae (.inl rfl) hbel (x := .agg [.int .i64 x0, .int .i64 y0, .int .i64 x1, .int .i64 y1, .int .i64 f, .int .i64 c]) (ag Tryz.results154) rfl ⟨rfl, rfl⟩)
theorem bhull_c (H : ac) (x0 : Int) (y0 : Int) (x1 : Int) (y1 : Int) (f : Int) (c : Int) (u0 : Int) (v0 : Int) (u1 : Int) (v1 : Int) (fb : Int) (cb : Int) (ha : bxB x0 y0 x1 y1 f c = true) (hb : bxB u0 v0 u1 v1 fb cb = true) : ACalls Tryz.prog 110 [.agg [.int .i64 x0, .int .i64 y0, .int .i64 x1, .int .i64 y1, .int .i64 f, .int .i64 c], .agg [.int .i64 u0, .int .i64 v0, .int .i64 u1, .int .i64 v1, .int .i64 fb, .int .i64 cb]] H (fun v H' => v = .tup [.agg [.int .i64 (mnI x0 u0), .int .i64 (mnI y0 v0), .int .i64 (mxI x1 u1), .int .i64 (mxI y1 v1), .int .i64 ((cG f c fb cb).1), .int .i64 ((cG f c fb cb).2)], .int .i64 0] ∧ H' = H) := by
 have ka := (bL.1 ha).2.2
 have kb := (bL.1 hb).2.2
 (refine bT Tryz.func110 _ rfl (Nat.le_of_ble_eq_true (by kernel_rfl)) rfl ?_; intro hbel Q hQ hQ' c hc; unfold Tryz.f110 at hc; simp only [Option.some.injEq] at hc; subst hc; clear hQ')
 refine i6 false try_mixed (by kernel_rfl) (fun F Hx => look F 2 = .ptr (some (H.length, 0)) ∧ look F 3 = .ptr (some (H.length + 1, 0)) ∧ look F 4 = .ptr (some (H.length + 2, 0)) ∧ look F 5 = .int .i64 0 ∧ Hx = H ++ [.cells true 0 [.int .i64 x0, .int .i64 y0, .int .i64 x1, .int .i64 y1, .int .i64 f, .int .i64 c], .cells true 0 [.int .i64 u0, .int .i64 v0, .int .i64 u1, .int .i64 v1, .int .i64 fb, .int .i64 cb], .cells true 0 [.int .i64 0, .int .i64 0, .int .i64 0, .int .i64 0, .int .i64 0, .int .i64 0]]) ?_ ?_
 ·skip
  have g'1 := (jn @ha @hb)
  refine aa g'1 ?_
  refine aR ?_
  exact absT
 rintro F Hx ⟨f1, f2, f3, f4, rfl⟩
 refine i6 false try_mixed (by kernel_rfl) (fun F Hx => look F 2 = .ptr (some (H.length, 0)) ∧ look F 3 = .ptr (some (H.length + 1, 0)) ∧ look F 4 = .ptr (some (H.length + 2, 0)) ∧ look F 5 = .int .i64 0 ∧ Hx = H ++ [.cells true 0 [.int .i64 x0, .int .i64 y0, .int .i64 x1, .int .i64 y1, .int .i64 f, .int .i64 c], .cells true 0 [.int .i64 u0, .int .i64 v0, .int .i64 u1, .int .i64 v1, .int .i64 fb, .int .i64 cb], .cells true 0 [.int .i64 0, .int .i64 0, .int .i64 0, .int .i64 0, .int .i64 0, .int .i64 0]]) ?_ ?_
 ·skip
  have g'2 := (jn @f1 (jn @f2 (jn @f3 (jn @f4 (jn @ha @hb)))))
  refine aa g'2 ?_
  refine af (by kernel_rfl) (eO _ x0 y0 x1 y1 f c) ?_
  refine aa g'2 ?_
  refine af (by kernel_rfl) (eO _ u0 v0 u1 v1 fb cb) ?_
  refine aa g'2 ?_
  refine aR ?_
  exact absTf (jn @f1 (jn @f2 (jn @f3 @f4)))
 rintro F Hx ⟨f5, f6, f7, f8, rfl⟩
 refine cn false try_mixed [[0, 1, 2, 3, 4, 5, 6, 7, 8, 9, 10], [0, 1, 2, 3, 8, 4, 5, 6, 7, 9, 10], [0, 1, 2, 8, 3, 4, 5, 6, 7, 9, 10], [0, 2, 8, 1, 3, 4, 5, 6, 7, 9, 10]] (by kernel_rfl) (fun F2 H2 => F2 = [(2, .ptr (some (H.length, 0))), (3, .ptr (some (H.length + 1, 0))), (4, .ptr (some (H.length + 2, 0))), (5, .int .i64 0), (6, .ptr (some (H.length + 3, 0)))] ∧ H2 = H ++ [.cells true 0 [.int .i64 x0, .int .i64 y0, .int .i64 x1, .int .i64 y1, .int .i64 f, .int .i64 c], .cells true 0 [.int .i64 u0, .int .i64 v0, .int .i64 u1, .int .i64 v1, .int .i64 fb, .int .i64 cb], .cells true 0 [.int .i64 0, .int .i64 0, .int .i64 0, .int .i64 0, .int .i64 0, .int .i64 0], .cells true 0 [.int .i64 ((cG f c fb cb).1), .int .i64 ((cG f c fb cb).2)]]) ?_ ?_
 ·refine aG ?_ (aG ?_ (aG ?_ (aG ?_ (cl)))) <;> intro J hJ
  ·skip
   have g'3 := (jn @f1 (jn @f2 (jn @f3 (jn @f4 (jn @f5 (jn @f6 (jn @f7 (jn @f8 (jn @ha @hb)))))))))
   refine aA g'3 ?_
   refine aK (by kernel_rfl) (fi _ x0 y0 x1 y1 f c) ?_
   refine aA g'3 ?_
   refine aK (by kernel_rfl) (fi _ u0 v0 u1 v1 fb cb) ?_
   refine aA g'3 ?_
   refine aK (by kernel_rfl) (kN _ f c fb cb (by assumption) (by assumption)) ?_
   refine aA g'3 ?_
   refine aR (hJ _ _ ⟨_, _, _, ⟨rfl, rfl⟩, Abs.byG hbel [] rfl [0, 1, 2, 3] (by decide) ?_⟩)
   exact bp (jn @f1 (jn @f2 (jn @f3 (jn @f4 (jn @f5 (jn @f6 (jn @f7 @f8)))))))
  ·skip
   have g'4 := (jn @f1 (jn @f2 (jn @f3 (jn @f4 (jn @f5 (jn @f6 (jn @f7 (jn @f8 (jn @ha @hb)))))))))
   refine aA g'4 ?_
   refine aK (by kernel_rfl) (fi _ x0 y0 x1 y1 f c) ?_
   refine aA g'4 ?_
   refine aK (by kernel_rfl) (fi _ u0 v0 u1 v1 fb cb) ?_
   refine aA g'4 ?_
   refine aK (by kernel_rfl) (kN _ f c fb cb (by assumption) (by assumption)) ?_
   refine aA g'4 ?_
   refine aR (hJ _ _ ⟨_, _, _, ⟨rfl, rfl⟩, Abs.byG hbel [] rfl [0, 1, 2, 3] (by decide) ?_⟩)
   exact bp (jn @f1 (jn @f2 (jn @f3 (jn @f4 (jn @f5 (jn @f6 (jn @f7 @f8)))))))
  ·skip
   have g'5 := (jn @f1 (jn @f2 (jn @f3 (jn @f4 (jn @f5 (jn @f6 (jn @f7 (jn @f8 (jn @ha @hb)))))))))
   refine aA g'5 ?_
   refine aK (by kernel_rfl) (fi _ x0 y0 x1 y1 f c) ?_
   refine aA g'5 ?_
   refine aK (by kernel_rfl) (fi _ u0 v0 u1 v1 fb cb) ?_
   refine aA g'5 ?_
   refine aK (by kernel_rfl) (kN _ f c fb cb (by assumption) (by assumption)) ?_
   refine aA g'5 ?_
   refine aR (hJ _ _ ⟨_, _, _, ⟨rfl, rfl⟩, Abs.byG hbel [] rfl [0, 1, 2, 3] (by decide) ?_⟩)
   exact bp (jn @f1 (jn @f2 (jn @f3 (jn @f4 (jn @f5 (jn @f6 (jn @f7 @f8)))))))
  ·skip
   have g'6 := (jn @f1 (jn @f2 (jn @f3 (jn @f4 (jn @f5 (jn @f6 (jn @f7 (jn @f8 (jn @ha @hb)))))))))
   refine aA g'6 ?_
   refine aK (by kernel_rfl) (fi _ x0 y0 x1 y1 f c) ?_
   refine aA g'6 ?_
   refine aK (by kernel_rfl) (fi _ u0 v0 u1 v1 fb cb) ?_
   refine aA g'6 ?_
   refine aK (by kernel_rfl) (kN _ f c fb cb (by assumption) (by assumption)) ?_
   refine aA g'6 ?_
   refine aR (hJ _ _ ⟨_, _, _, ⟨rfl, rfl⟩, Abs.byG hbel [] rfl [0, 1, 2, 3] (by decide) ?_⟩)
   exact bp (jn @f1 (jn @f2 (jn @f3 (jn @f4 (jn @f5 (jn @f6 (jn @f7 @f8)))))))
 rintro F2 H2 ⟨rfl, rfl⟩
 refine aL false try_mixed (by kernel_rfl) ?_
 have g'7 := (jn @ha @hb)
 refine aa g'7 ?_
 refine af (by kernel_rfl) (with_c _ (if u0 < x0 then u0 else x0) (if v0 < y0 then v0 else y0) (if x1 < u1 then u1 else x1) (if y1 < v1 then v1 else y1) ((cG f c fb cb).1) ((cG f c fb cb).2)) ?_
 refine aa g'7 ?_
 exact hQ _ _ (ae (.inl rfl) hbel (x := .tup [.agg [.int .i64 (if u0 < x0 then u0 else x0), .int .i64 (if v0 < y0 then v0 else y0), .int .i64 (if x1 < u1 then u1 else x1), .int .i64 (if y1 < v1 then v1 else y1), .int .i64 ((cG f c fb cb).1), .int .i64 ((cG f c fb cb).2)], .int .i64 0]) (ag Tryz.results110) rfl ⟨rfl, rfl⟩)
open Go.RowKit
theorem arep_z {k : IntKind} {n : Nat} : (List.range n).map (fun j => ([.int k 0] : List AV).getD (j % 1) .any) = ints k (List.replicate n 0) := by
 rw [← jo]
 refine List.ext_getElem (by simp) fun i h1 h2 => ?_
 simp [Nat.mod_one]
def fx (f : Int) (n i : Nat) : List Int := bl f i ++ List.replicate (n - i) 0
theorem v8 {f : Int} {n i : Nat} (h : i ≤ n) : (fx f n i).length = n := by unfold fx; rw [List.length_append, ew, List.length_replicate]; omega
theorem lisS_set {f : Int} {n i : Nat} (h : i < n) : (fx f n i).set i ((f + (i : Int)) % 256) = fx f n (i + 1) := by
 unfold fx
 obtain ⟨k, hk⟩ : ∃ k, n - i = k + 1 := ⟨n - i - 1, by omega⟩
 rw [hk, List.replicate_succ, List.set_append_right _ _ (by rw [ew]; exact Nat.le_refl _), ew, Nat.sub_self, List.set_cons_zero, mrkL_succ, List.append_assoc, show n - (i + 1) = k by omega]
 rfl
theorem lisS_0 (f : Int) (n : Nat) : fx f n 0 = List.replicate n 0 := rfl
theorem lisS_n (f : Int) (n : Nat) : fx f n n = bl f n := by unfold fx; rw [Nat.sub_self]; simp
theorem harc_c (H : ac) (f : Int) (n : Int) (hn : 1 ≤ n ∧ n ≤ 100000) : ACalls Tryz.prog 193 [.int .i64 f, .int .i64 n] H (fun v H' => v = .agg [.int .i64 (arcF f n), .int .i64 (cp n)] ∧ H' = H) := by
 refine AcT true Tryz.func193 ?_; intro hbel Q hQ
 refine aY ?_
 refine ai (fun h1 => ?_) (fun h1 => ?_)
 ·have h1d := bsT h1
  have g'1 := (jn @h1 @h1d)
  refine aa g'1 ?_
  exact hQ _ _ (ae (.inl rfl) hbel (x := .agg [.int .i64 0, .int .i64 256]) (ag Tryz.results193) rfl ⟨by unfold arcF cp; first | (rw [if_pos (by omega), if_pos (by omega)]; done) | (rw [if_neg (by omega), if_neg (by omega), show (((f % 256).toNat : Nat) : Int) = f % 256 by omega]), rfl⟩)
 ·have h1d := bsT h1
  have g'2 := (jn @h1 @h1d)
  refine aa g'2 ?_
  refine af (by kernel_rfl) (iw _ f) ?_
  refine aa g'2 ?_
  exact hQ _ _ (ae (.inl rfl) hbel (x := .agg [.int .i64 (((f % 256).toNat : Nat) : Int), .int .i64 n]) (ag Tryz.results193) rfl ⟨by unfold arcF cp; first | (rw [if_pos (by omega), if_pos (by omega)]; done) | (rw [if_neg (by omega), if_neg (by omega), show (((f % 256).toNat : Nat) : Int) = f % 256 by omega]), rfl⟩)
theorem hshift_c (H : ac) (f : Int) (c : Int) (n : Int) (ha : cd f c = true) : ACalls Tryz.prog 159 [.agg [.int .i64 f, .int .i64 c], .int .i64 n] H (fun v H' => v = .tup [.agg [.int .i64 (shF f c n), .int .i64 (cp c)], .int .i64 0] ∧ H' = H) := by
 have ka := bH.1 ha
 refine AcT true Tryz.func159 ?_; intro hbel Q hQ
 have g'3 := @ha
 refine aa g'3 ?_
 refine af (by kernel_rfl) (iB _ f c) ?_
 refine aa g'3 ?_
 refine aK (by kernel_rfl) (iw _ n) ?_
 refine aa g'3 ?_
 refine aK (by kernel_rfl) (harc_c _ (f + (((n % 256).toNat : Nat) : Int)) c (by omega)) ?_
 refine aa g'3 ?_
 exact hQ _ _ (ae (.inl rfl) hbel (x := .tup [.agg [.int .i64 (arcF (f + (((n % 256).toNat : Nat) : Int)) c), .int .i64 (cp c)], .int .i64 0]) (ag Tryz.results159) rfl ⟨rfl, rfl⟩)
theorem hgrow_c (H : ac) (f : Int) (c : Int) (n : Int) (ha : cd f c = true) (hn : 0 ≤ n ∧ n ≤ 256) : ACalls Tryz.prog 161 [.agg [.int .i64 f, .int .i64 c], .int .i64 n] H (fun v H' => v = .tup [.agg [.int .i64 (grF f c n), .int .i64 (grC c n)], .int .i64 0] ∧ H' = H) := by
 have ka := bH.1 ha
 refine AcT true Tryz.func161 ?_; intro hbel Q hQ
 have g'4 := @ha
 refine aa g'4 ?_
 refine af (by kernel_rfl) (iB _ f c) ?_
 refine aa g'4 ?_
 refine aj (fun h1 => ?_) (fun h1 => ?_)
 ·have h1d := bsT h1
  have g'5 := (jn @h1 (jn @h1d g'4))
  refine aa g'5 ?_
  refine ai (fun h2 => ?_) (fun h2 => ?_)
  ·have h2d := bsT h2
   omega
  ·have h2d := bsT h2
   have g'6 := (jn @h2 (jn @h2d g'5))
   refine aa g'6 ?_
   refine af (by kernel_rfl) (harc_c _ (f - n) (c + (2 * n)) (by omega)) ?_
   refine aa g'6 ?_
   exact hQ _ _ (ae (.inl rfl) hbel (x := .tup [.agg [.int .i64 (arcF (f - n) (c + (2 * n))), .int .i64 (cp (c + (2 * n)))], .int .i64 0]) (ag Tryz.results161) rfl ⟨rfl, rfl⟩)
 ·have h1d := bsT h1
  omega
theorem nq (H : ac) (f : Int) (c : Int) (ha : cd f c = true) : ACalls Tryz.prog 123 [.agg [.int .i64 f, .int .i64 c]] H (fun v H' => v = .sl (some (H.length, 0)) ((bl f c.toNat).length) none ∧ H' = H ++ [.cells true 1 (ints .i64 (bl f c.toNat))]) := by
 have ka := bH.1 ha
 have harep := arep_z (k := .i64) (n := c.toNat)
 have hrt : ((c.toNat : Nat) : Int) = c := by omega
 refine AcT true Tryz.func123 ?_; intro hbel Q hQ
 have g'7 := (jn @ha (jn @harep @hrt))
 refine aa g'7 ?_
 refine af (by kernel_rfl) (iB _ f c) ?_
 have g'8 := (jn @jo (jn @List.length_replicate.{0} g'7))
 refine aa g'8 ?_
 refine go_loop try_mixed (by kernel_rfl) (fun k F Hx => ∃ i : Nat, i + k = c.toNat ∧ F = [(1, .ptr (some (H.length, 0))), (3, .sl (some (H.length + 1, 0)) ((fx f c.toNat i).length) none), (12, .int .i64 ((c.toNat : Nat) : Int)), (13, .int .i64 ((i : Nat) : Int))] ∧ Hx = H ++ [.cells true 0 [.int .i64 f, .int .i64 c], .cells true 1 (ints .i64 (fx f c.toNat i))]) (c.toNat) ?_ ?_
 ·refine ⟨_, _, _, ⟨0, by omega, rfl, rfl⟩, Abs.byG hbel [] rfl [0, 1] (by decide) ?_⟩
  exact aM (jn @lisS_0 (jn @List.length_replicate.{0} @hrt))
 ·rintro k0 F Hx ⟨i, hm0, rfl, rfl⟩ J0 hJ0
  have hln := v8 (f := f) (n := c.toNat) (i := i) (by omega)
  have g'9 := (jn @ck (jn @cH g'8))
  refine aa g'9 ?_
  refine ai (fun h1 => ?_) (fun h1 => ?_)
  ·have h1d := bsT h1
   have hln2 := v8 (f := f) (n := c.toNat) (i := i + 1) (by omega)
   have hst : (fx f c.toNat i).set i ((((f + ((i : Nat) : Int)) % 256).toNat : Nat) : Int) = fx f c.toNat (i + 1) := by rw [show ((((f + ((i : Nat) : Int)) % 256).toNat : Nat) : Int) = (f + ((i : Nat) : Int)) % 256 by omega]; exact lisS_set (by omega)
   have g'10 := (jn @h1 (jn @h1d g'9))
   refine aa g'10 ?_
   refine af (by kernel_rfl) (iw _ (f + ((i : Nat) : Int))) ?_
   have g'11 := (jn @iO (jn @List.length_set.{0} g'10))
   refine aa g'11 ?_
   refine hJ0 _ _ ⟨k0 - 1, by omega, _, _, _, ⟨i + 1, by omega, rfl, rfl⟩, Abs.byG hbel [] rfl [0, 1] (by decide) ?_⟩
   exact aM (jn @hst (jn @List.length_set.{0} (jn @hln (jn @hln2 @hrt))))
  ·have h1d := bsT h1
   obtain rfl : i = c.toNat := by omega
   have g'12 := (jn @h1 (jn @h1d g'9))
   refine aa g'12 ?_
   refine hQ _ _ (bB (.inl rfl) hbel (x1 := .sl (some (H.length + 1, 0)) ((fx f c.toNat c.toNat).length) none) (l2 := [.cells true 1 (ints .i64 (fx f c.toNat c.toNat))]) (.sl (some (H.length, 0)) ((fx f c.toNat c.toNat).length) none) (ag Tryz.results123) [] rfl [1] (by decide) ⟨by rw [lisS_n], by rw [lisS_n]⟩ ?_)
   exact be
theorem rect_c (H : ac) (x0 : Int) (y0 : Int) (x1 : Int) (y1 : Int) (f : Int) (c : Int) (ha : bxB x0 y0 x1 y1 f c = true) : ACalls Tryz.prog 138 [.agg [.int .i64 x0, .int .i64 y0, .int .i64 x1, .int .i64 y1, .int .i64 f, .int .i64 c]] H (fun v H' => v = .agg [.int .i64 x0, .int .i64 y0, .int .i64 x1, .int .i64 y1] ∧ H' = H) := by
 refine AcT true Tryz.func138 ?_; intro hbel Q hQ
 have g'13 := @ha
 refine aa g'13 ?_
 refine af (by kernel_rfl) (eO _ x0 y0 x1 y1 f c) ?_
 refine aa g'13 ?_
 exact hQ _ _ (ae (.inl rfl) hbel (x := .agg [.int .i64 x0, .int .i64 y0, .int .i64 x1, .int .i64 y1]) (ag Tryz.results138) rfl ⟨rfl, rfl⟩)
open Go.RowKit
set_option maxRecDepth 100000 in
theorem idx_r (H : ac) (s : AV) (l : List T9) (hs : Sl H 9 s l.length (r9 l)) (hl : l.length ≤ 1000000000) (g : FuncId) (caps : List AV) (hok : dR Tryz.prog g = true) (hc : AV.bels H.length caps = true) (p : T9 → Bool) (hf : ∀ j, j < l.length → ACalls Tryz.prog g (.agg [.int .i64 (g91 l j), .int .i64 (g92 l j), .int .i64 (g93 l j), .int .i64 (g94 l j), .int .i64 (g95 l j), .int .i64 (g96 l j), .int .i64 (g97 l j), .int .i64 (g98 l j), .int .i64 (g99 l j)] :: caps) H (fun v H' => v = .bool (p (g91 l j, g92 l j, g93 l j, g94 l j, g95 l j, g96 l j, g97 l j, g98 l j, g99 l j)) ∧ H' = H)) :
  ACalls Tryz.prog 198 [s, .fn g caps] H (fun v H' => v = .int .i64 (eW p l) ∧ H' = H) := by
 obtain ⟨b, own, cap, rfl, hb⟩ := hs
 have hbl := getElem?_lt hb
 have hmv := fun m sel => fZ (n := H.length) (m := m) (sel := sel) hc
 (refine cr try_mixed Tryz.func198 true _ rfl (Nat.le_of_ble_eq_true (by kernel_rfl)) (by kernel_rfl) ?_; intro hbel Q hQ hQ' c hc; unfold Tryz.f198 at hc; simp only [Option.some.injEq] at hc; subst hc; clear hQ')
 simp -implicitDefEqProofs (disch := omega) only [simprocAttr, aB, aC, Function.comp_apply, one1, lenV, ak, ar, au, aop, AV.ofValue, AV.ofCell, AV.cells, AV.flat, AV.one, arep, aN, aD, az]
 refine go_loop try_mixed (by kernel_rfl) (fun k F Hx => ∃ i : Nat, i + k = l.length ∧ (l.take i).any p = false ∧ F = [(0, .sl (some (b, 0)) l.length none), (1, .fn g caps), (7, .int .i64 l.length), (8, .int .i64 (i : Nat))] ∧ Hx = H) l.length ?_ ?_
 ·refine ⟨_, _, _, ⟨0, by omega, rfl, rfl, rfl⟩, Abs.by0 hbel ?_⟩
  exact bp @hmv
 ·rintro k F Hx ⟨i, hik, ht, rfl, rfl⟩ J hJ
  by_cases hi : i < l.length
  ·have hii : (i : Int) < (l.length : Int) := by omega
   have q1 := r9_load hi
   have hg := g9_eq hi
   simp -implicitDefEqProofs (disch := omega) only [hii, hb, q1, dZ, kj, simprocAttr, aB, aC, Function.comp_apply, one1, lenV, ak, ar, au, aop, AV.ofValue, AV.ofCell, AV.cells, AV.flat, AV.one, arep, aN, aD, az]
   iterate 2 refine And.intro (by omega) ?_
   refine af hok (hf i hi) ?_
   have hst := ix (p := p) hi
   rw [ht, Bool.false_or, ← hg] at hst
   cases h1 : p (g91 l i, g92 l i, g93 l i, g94 l i, g95 l i, g96 l i, g97 l i, g98 l i, g99 l i)
   ·rw [h1] at hst
    simp -implicitDefEqProofs (disch := omega) only [h1, simprocAttr, aB, aC, Function.comp_apply, one1, lenV, ak, ar, au, aop, AV.ofValue, AV.ofCell, AV.cells, AV.flat, AV.one, arep, aN, aD, az]
    refine hJ _ _ ⟨k - 1, by omega, _, _, _, ⟨i + 1, by omega, hst, rfl, rfl⟩, Abs.by0 hbel ?_⟩
    exact bp @hmv
   ·simp -implicitDefEqProofs (disch := omega) only [h1, simprocAttr, aB, aC, Function.comp_apply, one1, lenV, ak, ar, au, aop, AV.ofValue, AV.ofCell, AV.cells, AV.flat, AV.one, arep, aN, aD, az]
    exact hQ _ _ (aF (.inl rfl) hbel (x := .int .i64 (i : Nat)) (ag Tryz.results198) rfl ⟨by rw [ia hi ht (by rw [← hg]; exact h1)], rfl⟩)
  ·have hnn : ¬ ((i : Int) < (l.length : Int)) := by omega
   simp -implicitDefEqProofs (disch := omega) only [hnn, simprocAttr, aB, aC, Function.comp_apply, one1, lenV, ak, ar, au, aop, AV.ofValue, AV.ofCell, AV.cells, AV.flat, AV.one, arep, aN, aD, az]
   rw [List.take_of_length_le (by omega)] at ht
   exact hQ _ _ (aF (.inl rfl) hbel (x := .int .i64 (-1)) (ag Tryz.results198) rfl ⟨by rw [eX ht], rfl⟩)
theorem has_r (H : ac) (s : AV) (l : List T9) (hs : Sl H 9 s l.length (r9 l)) (hl : l.length ≤ 1000000000) (g : FuncId) (caps : List AV) (hok : dR Tryz.prog g = true) (hc : AV.bels H.length caps = true) (p : T9 → Bool) (hf : ∀ j, j < l.length → ACalls Tryz.prog g (.agg [.int .i64 (g91 l j), .int .i64 (g92 l j), .int .i64 (g93 l j), .int .i64 (g94 l j), .int .i64 (g95 l j), .int .i64 (g96 l j), .int .i64 (g97 l j), .int .i64 (g98 l j), .int .i64 (g99 l j)] :: caps) H (fun v H' => v = .bool (p (g91 l j, g92 l j, g93 l j, g94 l j, g95 l j, g96 l j, g97 l j, g98 l j, g99 l j)) ∧ H' = H)) :
  ACalls Tryz.prog 171 [s, .fn g caps] H (fun v H' => v = .bool (l.any p) ∧ H' = H) := by
 have key := idx_r H s l hs hl g caps hok hc p hf
 obtain ⟨b, own, cap, rfl, hb⟩ := hs
 have hbl := getElem?_lt hb
 (refine cr try_mixed Tryz.func171 true _ rfl (Nat.le_of_ble_eq_true (by kernel_rfl)) (by kernel_rfl) ?_; intro hbel Q hQ hQ' c hc; unfold Tryz.f171 at hc; simp only [Option.some.injEq] at hc; subst hc; clear hQ')
 simp -implicitDefEqProofs (disch := omega) only [simprocAttr, aB, aC, Function.comp_apply, one1, lenV, ak, ar, au, aop, AV.ofValue, AV.ofCell, AV.cells, AV.flat, AV.one, arep, aN, aD, az]
 refine af (by kernel_rfl) key ?_
 simp -implicitDefEqProofs (disch := omega) only [simprocAttr, aB, aC, Function.comp_apply, one1, lenV, ak, ar, au, aop, AV.ofValue, AV.ofCell, AV.cells, AV.flat, AV.one, arep, aN, aD, az]
 exact hQ _ _ (aF (.inl rfl) hbel (x := .bool (decide (0 ≤ eW p l))) (ag Tryz.results171) rfl ⟨by rw [jt], rfl⟩)
open Go.RowKit
set_option maxRecDepth 100000 in
theorem idx_m (H : ac) (s : AV) (l : List (Int × Int)) (hs : Sl H 2 s l.length (prs l)) (hl : l.length ≤ 1000000000) (g : FuncId) (caps : List AV) (hok : dR Tryz.prog g = true) (hc : AV.bels H.length caps = true) (p : (Int × Int) → Bool) (hf : ∀ j, j < l.length → ACalls Tryz.prog g (.agg [.int .i64 (g1 l j), .int .i64 (g2 l j)] :: caps) H (fun v H' => v = .bool (p (g1 l j, g2 l j)) ∧ H' = H)) :
  ACalls Tryz.prog 121 [s, .fn g caps] H (fun v H' => v = .int .i64 (eW p l) ∧ H' = H) := by
 obtain ⟨b, own, cap, rfl, hb⟩ := hs
 have hbl := getElem?_lt hb
 have hmv := fun m sel => fZ (n := H.length) (m := m) (sel := sel) hc
 (refine cr try_mixed Tryz.func121 true _ rfl (Nat.le_of_ble_eq_true (by kernel_rfl)) (by kernel_rfl) ?_; intro hbel Q hQ hQ' c hc; unfold Tryz.f121 at hc; simp only [Option.some.injEq] at hc; subst hc; clear hQ')
 simp -implicitDefEqProofs (disch := omega) only [simprocAttr, aB, aC, Function.comp_apply, one1, lenV, ak, ar, au, aop, AV.ofValue, AV.ofCell, AV.cells, AV.flat, AV.one, arep, aN, aD, az]
 refine go_loop try_mixed (by kernel_rfl) (fun k F Hx => ∃ i : Nat, i + k = l.length ∧ (l.take i).any p = false ∧ F = [(0, .sl (some (b, 0)) l.length none), (1, .fn g caps), (7, .int .i64 l.length), (8, .int .i64 (i : Nat))] ∧ Hx = H) l.length ?_ ?_
 ·refine ⟨_, _, _, ⟨0, by omega, rfl, rfl, rfl⟩, Abs.by0 hbel ?_⟩
  exact bp @hmv
 ·rintro k F Hx ⟨i, hik, ht, rfl, rfl⟩ J hJ
  by_cases hi : i < l.length
  ·have hii : (i : Int) < (l.length : Int) := by omega
   have q1 := cI hi
   have hg := cw hi
   simp -implicitDefEqProofs (disch := omega) only [hii, hb, q1, bK, cO, simprocAttr, aB, aC, Function.comp_apply, one1, lenV, ak, ar, au, aop, AV.ofValue, AV.ofCell, AV.cells, AV.flat, AV.one, arep, aN, aD, az]
   iterate 2 refine And.intro (by omega) ?_
   refine af hok (hf i hi) ?_
   have hst := ix (p := p) hi
   rw [ht, Bool.false_or, ← hg] at hst
   cases h1 : p (g1 l i, g2 l i)
   ·rw [h1] at hst
    simp -implicitDefEqProofs (disch := omega) only [h1, simprocAttr, aB, aC, Function.comp_apply, one1, lenV, ak, ar, au, aop, AV.ofValue, AV.ofCell, AV.cells, AV.flat, AV.one, arep, aN, aD, az]
    refine hJ _ _ ⟨k - 1, by omega, _, _, _, ⟨i + 1, by omega, hst, rfl, rfl⟩, Abs.by0 hbel ?_⟩
    exact bp @hmv
   ·simp -implicitDefEqProofs (disch := omega) only [h1, simprocAttr, aB, aC, Function.comp_apply, one1, lenV, ak, ar, au, aop, AV.ofValue, AV.ofCell, AV.cells, AV.flat, AV.one, arep, aN, aD, az]
    exact hQ _ _ (aF (.inl rfl) hbel (x := .int .i64 (i : Nat)) (ag Tryz.results121) rfl ⟨by rw [ia hi ht (by rw [← hg]; exact h1)], rfl⟩)
  ·have hnn : ¬ ((i : Int) < (l.length : Int)) := by omega
   simp -implicitDefEqProofs (disch := omega) only [hnn, simprocAttr, aB, aC, Function.comp_apply, one1, lenV, ak, ar, au, aop, AV.ofValue, AV.ofCell, AV.cells, AV.flat, AV.one, arep, aN, aD, az]
   rw [List.take_of_length_le (by omega)] at ht
   exact hQ _ _ (aF (.inl rfl) hbel (x := .int .i64 (-1)) (ag Tryz.results121) rfl ⟨by rw [eX ht], rfl⟩)
theorem has_m (H : ac) (s : AV) (l : List (Int × Int)) (hs : Sl H 2 s l.length (prs l)) (hl : l.length ≤ 1000000000) (g : FuncId) (caps : List AV) (hok : dR Tryz.prog g = true) (hc : AV.bels H.length caps = true) (p : (Int × Int) → Bool) (hf : ∀ j, j < l.length → ACalls Tryz.prog g (.agg [.int .i64 (g1 l j), .int .i64 (g2 l j)] :: caps) H (fun v H' => v = .bool (p (g1 l j, g2 l j)) ∧ H' = H)) :
  ACalls Tryz.prog 86 [s, .fn g caps] H (fun v H' => v = .bool (l.any p) ∧ H' = H) := by
 have key := idx_m H s l hs hl g caps hok hc p hf
 obtain ⟨b, own, cap, rfl, hb⟩ := hs
 have hbl := getElem?_lt hb
 (refine cr try_mixed Tryz.func86 true _ rfl (Nat.le_of_ble_eq_true (by kernel_rfl)) (by kernel_rfl) ?_; intro hbel Q hQ hQ' c hc; unfold Tryz.f86 at hc; simp only [Option.some.injEq] at hc; subst hc; clear hQ')
 simp -implicitDefEqProofs (disch := omega) only [simprocAttr, aB, aC, Function.comp_apply, one1, lenV, ak, ar, au, aop, AV.ofValue, AV.ofCell, AV.cells, AV.flat, AV.one, arep, aN, aD, az]
 refine af (by kernel_rfl) key ?_
 simp -implicitDefEqProofs (disch := omega) only [simprocAttr, aB, aC, Function.comp_apply, one1, lenV, ak, ar, au, aop, AV.ofValue, AV.ofCell, AV.cells, AV.flat, AV.one, arep, aN, aD, az]
 exact hQ _ _ (aF (.inl rfl) hbel (x := .bool (decide (0 ≤ eW p l))) (ag Tryz.results86) rfl ⟨by rw [jt], rfl⟩)
open Go.RowKit
theorem cX (H : ac) (n : Int) (lo : Int) (hi : Int) : ACalls Tryz.prog 101 [.int .i64 n, .int .i64 lo, .int .i64 hi] H (fun v H' => v = .bool (btw n lo hi) ∧ H' = H) := by
 refine AcT true Tryz.func101 ?_; intro hbel Q hQ
 refine aY ?_
 refine aj (fun h1 => ?_) (fun h1 => ?_)
 ·have h1d := bsT h1
  have g'1 := (jn @h1 @h1d)
  refine aa g'1 ?_
  exact hQ _ _ (aF (.inl rfl) hbel (x := .bool (decide (n ≤ hi))) (ag Tryz.results101) rfl ⟨by simp [btw, h1d], rfl⟩)
 ·have h1d := bsT h1
  have g'2 := (jn @h1 @h1d)
  refine aa g'2 ?_
  exact hQ _ _ (aF (.inl rfl) hbel (x := .bool false) (ag Tryz.results101) rfl ⟨by simp [btw, h1d], rfl⟩)
theorem kvb_c (H : ac) (m : Int) (r : Int) : ACalls Tryz.prog 127 [.agg [.int .i64 m, .int .i64 r]] H (fun v H' => v = .bool (df m r) ∧ H' = H) := by
 refine AcT true Tryz.func127 ?_; intro hbel Q hQ
 refine aY ?_
 refine af (by kernel_rfl) (cX _ m 0 255) ?_
 refine aY ?_
 refine aj (fun h1 => ?_) (fun h1 => ?_)
 ·have h1d := bsT h1
  have g'3 := (jn @h1 @h1d)
  refine aa g'3 ?_
  refine af (by kernel_rfl) (cX _ r (-1) 1024) ?_
  refine aa g'3 ?_
  exact hQ _ _ (ae (.inl rfl) hbel (x := .bool (btw r (-1) 1024)) (ag Tryz.results127) rfl ⟨by simp [df, h1d], rfl⟩)
 ·have h1d := bsT h1
  have g'4 := (jn @h1 @h1d)
  refine aa g'4 ?_
  exact hQ _ _ (ae (.inl rfl) hbel (x := .bool false) (ag Tryz.results127) rfl ⟨by simp [df, h1d], rfl⟩)
theorem kright1_c (H : ac) (m : Int) (r : Int) : ACalls Tryz.prog 126 [.agg [.int .i64 m, .int .i64 r]] H (fun v H' => v = .bool (!(dm (m, r))) ∧ H' = H) := by
 refine AcT true Tryz.func126 ?_; intro hbel Q hQ
 refine aY ?_
 refine af (by kernel_rfl) (kvb_c _ m r) ?_
 refine aY ?_
 exact hQ _ _ (ae (.inl rfl) hbel (x := .bool (!(df m r))) (ag Tryz.results126) rfl ⟨rfl, rfl⟩)
theorem kset1_c (H : ac) (x0 : Int) (y0 : Int) (x1 : Int) (y1 : Int) (f : Int) (c : Int) : ACalls Tryz.prog 167 [.agg [.int .i64 x0, .int .i64 y0, .int .i64 x1, .int .i64 y1, .int .i64 f, .int .i64 c]] H (fun v H' => v = .bool (!(bxB x0 y0 x1 y1 f c)) ∧ H' = H) := by
 refine AcT true Tryz.func167 ?_; intro hbel Q hQ
 refine aY ?_
 refine af (by kernel_rfl) (eO _ x0 y0 x1 y1 f c) ?_
 refine aY ?_
 exact hQ _ _ (ae (.inl rfl) hbel (x := .bool (!(bxB x0 y0 x1 y1 f c))) (ag Tryz.results167) rfl ⟨rfl, rfl⟩)
open Go.RowKit
theorem kset_c (H : ac) (s : AV) (l : List T6) (hs : Sl H 6 s l.length (r6 l)) (hl : l.length ≤ 1000000000) : ACalls Tryz.prog 128 [s] H (fun v H' => v = .bool (bP l) ∧ H' = H) := by
 obtain ⟨bs, os, cs, rfl, hbs⟩ := hs
 have hbls := getElem?_lt hbs
 have hb0s := fun l => aw (l := l) hbs
 refine AcT true Tryz.func128 ?_; intro hbel Q hQ
 have g'1 := (jn @hbs @hb0s)
 refine aa g'1 ?_
 refine aj (fun h1 => ?_) (fun h1 => ?_)
 ·have h1d := bsT h1
  have g'2 := (jn @h1 (jn @h1d g'1))
  refine aa g'2 ?_
  refine af (by kernel_rfl) (jb _ _ l ⟨_, _, _, rfl, by first | exact hb0s _ | exact hbs⟩ (by omega) _ [] (by kernel_rfl) rfl (fun b => !bD b) (fun j hj => kset1_c _ _ _ _ _ _ _)) ?_
  refine aa g'2 ?_
  exact hQ _ _ (aF (.inl rfl) hbel (x := .bool (!(l.any (fun b => !bD b)))) (ag Tryz.results128) rfl ⟨by first | (simp [bP, h1d]; done) | (unfold bP; simp only [h1]; rfl), rfl⟩)
 ·have h1d := bsT h1
  have g'3 := (jn @h1 (jn @h1d g'1))
  refine aa g'3 ?_
  exact hQ _ _ (aF (.inl rfl) hbel (x := .bool false) (ag Tryz.results128) rfl ⟨by first | (simp [bP, h1d]; done) | (unfold bP; simp only [h1]; rfl), rfl⟩)
theorem kpairs_c (H : ac) (s : AV) (l : List T6) (hs : Sl H 6 s l.length (r6 l)) (hS : bP l = true) : ACalls Tryz.prog 130 [s] H (fun v H' => v = .int .i64 (sumC l l.length) ∧ H' = H) := by
 obtain ⟨bs, os, cs, rfl, hbs⟩ := hs
 have hbls := getElem?_lt hbs
 have hb0s := fun l => aw (l := l) hbs
 have hln := gc hS
 refine AcT true Tryz.func130 ?_; intro hbel Q hQ
 have g'4 := (jn @hbs @hb0s)
 refine aa g'4 ?_
 refine go_loop try_mixed (by kernel_rfl) (fun k F Hx => ∃ i : Nat, i + k = l.length ∧ F = [(3, .int .i64 (sumC l i)), (6, .sl (some (bs, 0)) l.length cs), (7, .int .i64 ((l.length : Nat) : Int)), (8, .int .i64 ((i : Nat) : Int))] ∧ H = Hx) (l.length) ?_ ?_
 ·refine ⟨_, _, _, ⟨0, by omega, rfl, rfl⟩, Abs.by0 hbel ?_⟩
  exact bp @sumC.eq_1
 ·rintro k0 F Hx ⟨i, hm0, rfl, rfl⟩ J0 hJ0
  refine aa g'4 ?_
  refine ai (fun h1 => ?_) (fun h1 => ?_)
  ·have h1d := bsT h1
   have hsb := sumC_bd hS i (by omega)
   have hgb := g66_bd hS (show i < l.length by omega)
   have q2 := dd (l := l) (j := i) (by omega)
   have g'5 := (jn @h1 (jn @h1d (jn @bV (jn @q2 g'4))))
   refine aa g'5 ?_
   refine hJ0 _ _ ⟨k0 - 1, by omega, _, _, _, ⟨i + 1, by omega, rfl, rfl⟩, Abs.byN hbel ?_⟩
   exact bp @sumC.eq_2
  ·have h1d := bsT h1
   obtain rfl : i = l.length := by omega
   have g'6 := (jn @h1 (jn @h1d g'4))
   refine aa g'6 ?_
   exact hQ _ _ (aF (.inl rfl) hbel (x := .int .i64 (sumC l l.length)) (ag Tryz.results130) rfl ⟨rfl, rfl⟩)
theorem ktau1_c (H : ac) (x0 : Int) (y0 : Int) (x1 : Int) (y1 : Int) (f : Int) (c : Int) (hb : bxB x0 y0 x1 y1 f c = true) : ACalls Tryz.prog 129 [.agg [.int .i64 x0, .int .i64 y0, .int .i64 x1, .int .i64 y1, .int .i64 f, .int .i64 c]] H (fun v H' => v = .bool (wdeB (x0, y0, x1, y1, f, c)) ∧ H' = H) := by
 have hbb := bL.1 hb
 refine AcT true Tryz.func129 ?_; intro hbel Q hQ
 refine aY ?_
 refine aj (fun h1 => ?_) (fun h1 => ?_)
 ·have h1d := bsT h1
  have g'7 := (jn @h1 @h1d)
  refine aa g'7 ?_
  exact hQ _ _ (ae (.inl rfl) hbel (x := .bool (decide (64 < (y1 - y0)))) (ag Tryz.results129) rfl ⟨by simp [wdeB, h1d], rfl⟩)
 ·have h1d := bsT h1
  have g'8 := (jn @h1 @h1d)
  refine aa g'8 ?_
  exact hQ _ _ (ae (.inl rfl) hbel (x := .bool true) (ag Tryz.results129) rfl ⟨by simp [wdeB, h1d], rfl⟩)
open Go.RowKit
theorem kl (H : ac) (s : AV) (l : List T6) (hs : Sl H 6 s l.length (r6 l)) (hS : bP l = true) : ACalls Tryz.prog 95 [s] H (fun v H' => v = .bool (ez l) ∧ H' = H) := by
 obtain ⟨bs, os, cs, rfl, hbs⟩ := hs
 have hbls := getElem?_lt hbs
 have hb0s := fun l => aw (l := l) hbs
 have hln := gc hS
 refine AcT true Tryz.func95 ?_; intro hbel Q hQ
 have g'1 := (jn @hbs @hb0s)
 refine aa g'1 ?_
 refine af (by kernel_rfl) (kpairs_c _ _ l ⟨_, _, _, rfl, by first | exact hb0s _ | exact hbs⟩ (by assumption)) ?_
 refine aa g'1 ?_
 refine aj (fun h1 => ?_) (fun h1 => ?_)
 ·have h1d := bsT h1
  have g'2 := (jn @h1 (jn @h1d g'1))
  refine aa g'2 ?_
  refine af (by kernel_rfl) (jb _ _ l ⟨_, _, _, rfl, by first | exact hb0s _ | exact hbs⟩ (by omega) _ [] (by kernel_rfl) rfl (wdeB) (fun j hj => ktau1_c _ _ _ _ _ _ _ ((bU.1 hS).2 (g6 l j) (cL hj)))) ?_
  refine aa g'2 ?_
  exact hQ _ _ (aF (.inl rfl) hbel (x := .bool (!(l.any (wdeB)))) (ag Tryz.results95) rfl ⟨by first | (simp [ez, h1d]; done) | (unfold ez; simp only [h1]; rfl), rfl⟩)
 ·have h1d := bsT h1
  have g'3 := (jn @h1 (jn @h1d g'1))
  refine aa g'3 ?_
  exact hQ _ _ (aF (.inl rfl) hbel (x := .bool false) (ag Tryz.results95) rfl ⟨by first | (simp [ez, h1d]; done) | (unfold ez; simp only [h1]; rfl), rfl⟩)
theorem kright_c (H : ac) (W : Int) (Hh : Int) (pp : AV) (xs : List Int) (s : AV) (l : List T6) (q : AV) (sc : List (Int × Int)) (g : Int) (hpp : Sl H 1 pp xs.length (ints .u8 xs)) (hs : Sl H 6 s l.length (r6 l)) (hq : Sl H 2 q sc.length (prs sc)) (hl : l.length ≤ 1000000000) (hsc : sc.length ≤ 1000000000) : ACalls Tryz.prog 94 [.agg [.int .i64 W, .int .i64 Hh, pp], s, q, .int .i64 g] H (fun v H' => v = .bool (db W Hh xs l sc g) ∧ H' = H) := by
 obtain ⟨bpp, opp, cpp, rfl, hbpp⟩ := hpp
 have hblpp := getElem?_lt hbpp
 have hb0pp := fun l => aw (l := l) hbpp
 obtain ⟨bs, os, cs, rfl, hbs⟩ := hs
 have hbls := getElem?_lt hbs
 have hb0s := fun l => aw (l := l) hbs
 obtain ⟨bq, oq, cq, rfl, hbq⟩ := hq
 have hblq := getElem?_lt hbq
 have hb0q := fun l => aw (l := l) hbq
 refine AcT true Tryz.func94 ?_; intro hbel Q hQ
 have g'4 := (jn @hbpp (jn @hb0pp (jn @hbs (jn @hb0s (jn @hbq @hb0q)))))
 refine aa g'4 ?_
 refine af (by kernel_rfl) (gb _ W Hh _ xs (.inr ⟨_, _, _, rfl, by first | exact hb0pp _ | exact hbpp⟩)) ?_
 refine aa g'4 ?_
 refine aj (fun h1 => ?_) (fun h1 => ?_)
 ·have h1d := bsT h1
  have g'5 := (jn @h1 (jn @h1d g'4))
  refine aa g'5 ?_
  refine aj (fun h2 => ?_) (fun h2 => ?_)
  ·have h2d := bsT h2
   have g'6 := (jn @h2 (jn @h2d g'5))
   refine aa g'6 ?_
   refine af (by kernel_rfl) (kset_c _ _ l ⟨_, _, _, rfl, by first | exact hb0s _ | exact hbs⟩ (by omega)) ?_
   refine aa g'6 ?_
   refine aj (fun h3 => ?_) (fun h3 => ?_)
   ·have h3d := bsT h3
    have g'7 := (jn @h3 (jn @h3d g'6))
    refine aa g'7 ?_
    refine aj (fun h4 => ?_) (fun h4 => ?_)
    ·have h4d := bsT h4
     have g'8 := (jn @h4 (jn @h4d g'7))
     refine aa g'8 ?_
     refine af (by kernel_rfl) (has_m _ _ sc ⟨_, _, _, rfl, by first | exact hb0q _ | exact hbq⟩ (by omega) _ [] (by kernel_rfl) rfl (fun e => !dm e) (fun j hj => kright1_c _ _ _)) ?_
     refine aa g'8 ?_
     refine aj (fun h5 => ?_) (fun h5 => ?_)
     ·have h5d := bsT h5
      have g'9 := (jn @h5 (jn @h5d g'8))
      refine aa g'9 ?_
      refine af (by kernel_rfl) (cX _ g 1 32) ?_
      refine aa g'9 ?_
      exact hQ _ _ (ae (.inl rfl) hbel (x := .bool (btw g 1 32)) (ag Tryz.results94) rfl ⟨by first | (simp [db, ct, h1d, h2d, h3d, h4d, h5d]; done) | (unfold db ct; simp only [h1, h2, h3, h4, h5]; rfl), rfl⟩)
     ·have h5d := bsT h5
      have g'10 := (jn @h5 (jn @h5d g'8))
      refine aa g'10 ?_
      exact hQ _ _ (ae (.inl rfl) hbel (x := .bool false) (ag Tryz.results94) rfl ⟨by first | (simp [db, ct, h1d, h2d, h3d, h4d, h5d]; done) | (unfold db ct; simp only [h1, h2, h3, h4, h5]; rfl), rfl⟩)
    ·have h4d := bsT h4
     have g'11 := (jn @h4 (jn @h4d g'7))
     refine aa g'11 ?_
     exact hQ _ _ (ae (.inl rfl) hbel (x := .bool false) (ag Tryz.results94) rfl ⟨by first | (simp [db, ct, h1d, h2d, h3d, h4d]; done) | (unfold db ct; simp only [h1, h2, h3, h4]; rfl), rfl⟩)
   ·have h3d := bsT h3
    have g'12 := (jn @h3 (jn @h3d g'6))
    refine aa g'12 ?_
    exact hQ _ _ (ae (.inl rfl) hbel (x := .bool false) (ag Tryz.results94) rfl ⟨by first | (simp [db, ct, h1d, h2d, h3d]; done) | (unfold db ct; simp only [h1, h2, h3]; rfl), rfl⟩)
  ·have h2d := bsT h2
   have g'13 := (jn @h2 (jn @h2d g'5))
   refine aa g'13 ?_
   exact hQ _ _ (ae (.inl rfl) hbel (x := .bool false) (ag Tryz.results94) rfl ⟨by first | (simp [db, ct, h1d, h2d]; done) | (unfold db ct; simp only [h1, h2]; rfl), rfl⟩)
 ·have h1d := bsT h1
  have g'14 := (jn @h1 (jn @h1d g'4))
  refine aa g'14 ?_
  exact hQ _ _ (ae (.inl rfl) hbel (x := .bool false) (ag Tryz.results94) rfl ⟨by first | (simp [db, ct, h1d]; done) | (unfold db ct; simp only [h1]; rfl), rfl⟩)
open Go.RowKit
theorem hlistk_c (H : ac) (l : List T6) (i : Nat) (ha : cd (g65 l i) (g66 l i) = true) : ACalls Tryz.prog 123 [.agg [.int .i64 (g65 l i), .int .i64 (g66 l i)]] H (fun v H' => v = .sl (some (H.length, 0)) (mkB (g6 l i)).length none ∧ H' = H ++ [.cells true 1 (ints .i64 (mkB (g6 l i)))]) := nq H _ _ ha
theorem ep (H : ac) (l : List T6) (m far : Int) : ACalls Tryz.prog 156 [.agg [.int .i64 (g91 (av l m) 0), .int .i64 (g92 (av l m) 0)], .agg [.int .i64 (g97 (av l m) 0), .int .i64 (g98 (av l m) 0), .int .i64 (g99 (av l m) 0)], .int .i64 0, .int .i64 far] H (fun v H' => v = .tup [.sl (some (H.length, 0)) (aW l m far).length (bG (aW l m far).length), .int .i64 (trE (g91 (av l m) 0) (g92 (av l m) 0) (g97 (av l m) 0) (g98 (av l m) 0) (g99 (av l m) 0) 0 far)] ∧ H' = H ++ [.cells (bm (aW l m far).length) 2 (prs (aW l m far))]) := jx H _ _ _ _ _ _ _
theorem g9_mem {l : List T9} {j : Nat} (h : j < l.length) : g9 l j ∈ l := by
 have := g9_eq h
 have e : (g91 l j, g92 l j, g93 l j, g94 l j, g95 l j, g96 l j, g97 l j, g98 l j, g99 l j) = g9 l j := rfl
 rw [e] at this; rw [this]; exact List.getElem_mem h
theorem fstL_len (l : List T6) (m far : Int) : (aW l m far).length ≤ 7225 := jc _ _ _ _ _ _ _
theorem d3 (H : ac) (x0 : Int) (y0 : Int) (x1 : Int) (y1 : Int) (f : Int) (c : Int) (ha : bxB x0 y0 x1 y1 f c = true) : ACalls Tryz.prog 168 [.agg [.int .i64 x0, .int .i64 y0, .int .i64 x1, .int .i64 y1, .int .i64 f, .int .i64 c]] H (fun v H' => v = .sl (some (H.length, 0)) 4 none ∧ H' = H ++ [.cells true 2 [.int .i64 x0, .int .i64 y0, .int .i64 x1, .int .i64 y0, .int .i64 x0, .int .i64 y1, .int .i64 x1, .int .i64 y1]]) := by
 refine AcT true Tryz.func168 ?_; intro hbel Q hQ
 have g'1 := @ha
 refine aa g'1 ?_
 refine af (by kernel_rfl) (eO _ x0 y0 x1 y1 f c) ?_
 refine aa g'1 ?_
 refine hQ _ _ (bB (.inl rfl) hbel (x1 := .sl (some (H.length + 1, 0)) 4 (some 4)) (l2 := [.cells true 2 [.int .i64 x0, .int .i64 y0, .int .i64 x1, .int .i64 y0, .int .i64 x0, .int .i64 y1, .int .i64 x1, .int .i64 y1]]) (.sl (some (H.length, 0)) 4 none) (ag Tryz.results168) [] rfl [1] (by decide) ⟨rfl, rfl⟩ ?_)
 exact be
theorem jB (H : ac) (s : AV) (l : List T6) (m : Int) (r : Int) (hs : Sl H 6 s l.length (r6 l)) (hS : bP l = true) : ACalls Tryz.prog 136 [s, .agg [.int .i64 m, .int .i64 r]] H (fun v H' => v = .sl (some (H.length, 0)) ((av l m).length) (bG (av l m).length) ∧ H' = H ++ [.cells (bm (av l m).length) 9 (r9 (av l m))]) := by
 obtain ⟨bs, os, cs, rfl, hbs⟩ := hs
 have hbls := getElem?_lt hbs
 have hb0s := fun l => aw (l := l) hbs
 have hln := gc hS
 refine AcT true Tryz.func136 ?_; intro hbel Q hQ
 have g'2 := (jn @hbs @hb0s)
 refine aa g'2 ?_
 refine go_loop try_mixed (by kernel_rfl) (fun k F Hx => ∃ i : Nat, i + k = l.length ∧ F = [(3, .ptr (some (H.length, 0))), (5, .sl (some (H.length + 1, 0)) ((dirS l m i).length) (bG (dirS l m i).length)), (10, .sl (some (bs, 0)) l.length cs), (11, .int .i64 ((l.length : Nat) : Int)), (12, .int .i64 ((i : Nat) : Int))] ∧ Hx = H ++ [.cells true 0 [.int .i64 m, .int .i64 r], .cells (bm (dirS l m i).length) 9 (r9 (dirS l m i))]) (l.length) ?_ ?_
 ·refine ⟨_, _, _, ⟨0, by omega, rfl, rfl⟩, Abs.byG hbel [.cells false 9 []] rfl [0, 1] (by decide) ?_⟩
  exact aM (jn @dirS.eq_1 (jn @bI (jn @bO (jn @cu @co))))
 ·rintro k0 F Hx ⟨i, hm0, rfl, rfl⟩ J0 hJ0
  have g'3 := (jn @dZ (jn @kj g'2))
  refine aa g'3 ?_
  refine ai (fun h1 => ?_) (fun h1 => ?_)
  ·have h1d := bsT h1
   have hai : cd (g65 l i) (g66 l i) = true := (bL.1 ((bU.1 hS).2 (g6 l i) (cL (by omega)))).2.2
   have hdl := lG hS m i (by omega)
   have hmk := nl hS (show i < l.length by omega)
   have q2 := dd (l := l) (j := i) (by omega)
   have g'4 := (jn @h1 (jn @h1d (jn @bV (jn @q2 g'3))))
   refine aa g'4 ?_
   refine af (by kernel_rfl) (hlistk_c _ l i hai) ?_
   refine aa g'4 ?_
   refine go_loop try_mixed (by kernel_rfl) (fun k F Hx => ∃ j : Nat, j + k = (mkB (g6 l i)).length ∧ F = [(3, .ptr (some (H.length, 0))), (5, .sl (some (H.length + 3, 0)) ((dirS l m i ++ dirB (g6 l i) m j).length) (bG (dirS l m i ++ dirB (g6 l i) m j).length)), (7, .ptr (some (H.length + 1, 0))), (10, .sl (some (bs, 0)) l.length cs), (11, .int .i64 ((l.length : Nat) : Int)), (12, .int .i64 ((i : Nat) : Int)), (21, .sl (some (H.length + 2, 0)) ((mkB (g6 l i)).length) none), (22, .int .i64 (((mkB (g6 l i)).length : Nat) : Int)), (23, .int .i64 ((j : Nat) : Int))] ∧ Hx = H ++ [.cells true 0 [.int .i64 m, .int .i64 r], .cells true 0 [.int .i64 (g61 l i), .int .i64 (g62 l i), .int .i64 (g63 l i), .int .i64 (g64 l i), .int .i64 (g65 l i), .int .i64 (g66 l i)], .cells true 1 (ints .i64 (mkB (g6 l i))), .cells (bm (dirS l m i ++ dirB (g6 l i) m j).length) 9 (r9 (dirS l m i ++ dirB (g6 l i) m j))]) ((mkB (g6 l i)).length) ?_ ?_
   ·refine ⟨_, _, _, ⟨0, by omega, rfl, rfl⟩, Abs.byG hbel [] rfl [0, 2, 3, 1] (by decide) ?_⟩
    exact aM (jn @dirB.eq_1 (jn @List.append_nil.{0} (jn @bI (jn @bO (jn @cu @co)))))
   ·rintro k1 F Hx ⟨j, hm1, rfl, rfl⟩ J1 hJ1
    have hbl := jy (g6 l i) m j
    have hst : dirB (g6 l i) m (j + 1) = dirB (g6 l i) m j ++ [(g61 l i, g62 l i, g63 l i, g64 l i, g65 l i, g66 l i, (aZ (gi (mkB (g6 l i)) j) m).1, (aZ (gi (mkB (g6 l i)) j) m).2.1, (aZ (gi (mkB (g6 l i)) j) m).2.2)] := rfl
    have g'5 := (jn @ck (jn @cH g'4))
    refine aa g'5 ?_
    refine ai (fun h3 => ?_) (fun h3 => ?_)
    ·have h3d := bsT h3
     have q4 := cV (k := .i64) (xs := mkB (g6 l i)) (j := j) (by omega)
     have g'6 := (jn @h3 (jn @h3d (jn @q4 g'5)))
     refine aa g'6 ?_
     refine aK (by kernel_rfl) (dz _ (gi (mkB (g6 l i)) j) m) ?_
     have g'7 := (jn @bK (jn @d9 g'6))
     refine aa g'7 ?_
     refine hJ1 _ _ ⟨k1 - 1, by omega, _, _, _, ⟨j + 1, by omega, rfl, rfl⟩, Abs.byG hbel [] rfl [0, 1, 2, 5] (by decide) ?_⟩
     exact aM (jn @hst (jn @List.append_assoc.{0} (jn @bI (jn @bO (jn @cu @co)))))
    ·have h3d := bsT h3
     obtain rfl : j = (mkB (g6 l i)).length := by omega
     have g'8 := (jn @h3 (jn @h3d g'5))
     refine aa g'8 ?_
     refine hJ0 _ _ ⟨k0 - 1, by omega, _, _, _, ⟨i + 1, by omega, rfl, rfl⟩, Abs.byG hbel [] rfl [0, 3] (by decide) ?_⟩
     exact aM (jn @dirS.eq_2 (jn @bI (jn @bO (jn @cu @co))))
  ·have h1d := bsT h1
   obtain rfl : i = l.length := by omega
   have g'9 := (jn @h1 (jn @h1d g'3))
   refine aa g'9 ?_
   refine hQ _ _ (bB (.inl rfl) hbel (x1 := .sl (some (H.length + 1, 0)) ((dirS l m l.length).length) (bG (dirS l m l.length).length)) (l2 := [.cells (bm (dirS l m l.length).length) 9 (r9 (dirS l m l.length))]) (.sl (some (H.length, 0)) ((dirS l m l.length).length) (bG (dirS l m l.length).length)) (ag Tryz.results136) [] rfl [1] (by decide) ⟨rfl, rfl⟩ ?_)
   exact bp @co
theorem passes_c (H : ac) (x0 : Int) (y0 : Int) (x1 : Int) (y1 : Int) (f : Int) (c : Int) (vx : Int) (vy : Int) (vd : Int) (s0 : Int) (t0 : Int) (s1 : Int) (t1 : Int) (far : Int) (hp : bxB x0 y0 x1 y1 f c = true) : ACalls Tryz.prog 170 [.agg [.int .i64 x0, .int .i64 y0, .int .i64 x1, .int .i64 y1, .int .i64 f, .int .i64 c, .int .i64 vx, .int .i64 vy, .int .i64 vd], .agg [.int .i64 s0, .int .i64 t0, .int .i64 s1, .int .i64 t1], .int .i64 far] H (fun v H' => v = .bool (psB (x0, y0, x1, y1, f, c, vx, vy, vd) s0 t0 s1 t1 far) ∧ H' = H) := by
 refine AcT true Tryz.func170 ?_; intro hbel Q hQ
 refine aY ?_
 refine af (by kernel_rfl) (d3 _ x0 y0 x1 y1 f c (by assumption)) ?_
 refine aY ?_
 refine go_loop try_mixed (by kernel_rfl) (fun k F Hx => ∃ j : Nat, j + k = 4 ∧ ((1 ≤ j → c6 x0 y0 vx vy vd far s0 t0 s1 t1 = true) ∧ (2 ≤ j → c6 x1 y0 vx vy vd far s0 t0 s1 t1 = true) ∧ (3 ≤ j → c6 x0 y1 vx vy vd far s0 t0 s1 t1 = true) ∧ (4 ≤ j → c6 x1 y1 vx vy vd far s0 t0 s1 t1 = true)) ∧ F = [(2, .int .i64 far), (3, .ptr (some (H.length, 0))), (4, .ptr (some (H.length + 1, 0))), (11, .sl (some (H.length + 2, 0)) 4 none), (12, .int .i64 4), (13, .int .i64 ((j : Nat) : Int))] ∧ Hx = H ++ [.cells true 0 [.int .i64 x0, .int .i64 y0, .int .i64 x1, .int .i64 y1, .int .i64 f, .int .i64 c, .int .i64 vx, .int .i64 vy, .int .i64 vd], .cells true 0 [.int .i64 s0, .int .i64 t0, .int .i64 s1, .int .i64 t1], .cells true 2 [.int .i64 x0, .int .i64 y0, .int .i64 x1, .int .i64 y0, .int .i64 x0, .int .i64 y1, .int .i64 x1, .int .i64 y1]]) (4) ?_ ?_
 ·refine ⟨_, _, _, ⟨0, by omega, ⟨fun h => by omega, fun h => by omega, fun h => by omega, fun h => by omega⟩, rfl, rfl⟩, Abs.byG hbel [] rfl [0, 1, 2] (by decide) ?_⟩
  exact be
 ·rintro k0 F Hx ⟨j, hm0, hal, rfl, rfl⟩ J0 hJ0
  refine aY ?_
  refine ai (fun h1 => ?_) (fun h1 => ?_)
  ·have h1d := bsT h1
   obtain rfl | rfl | rfl | rfl := (by omega : j = 0 ∨ j = 1 ∨ j = 2 ∨ j = 3)
   ·skip
    have g'10 := (jn @h1 @h1d)
    refine aa g'10 ?_
    refine af (by kernel_rfl) (eo _ x0 y0 vx vy vd far s0 t0 s1 t1) ?_
    refine aa g'10 ?_
    refine ai (fun h2 => ?_) (fun h2 => ?_)
    ·have h2d := bsT h2
     have hfinP : psB (x0, y0, x1, y1, f, c, vx, vy, vd) s0 t0 s1 t1 far = false := by simp [psB, h2d]
     have g'11 := (jn @h2 (jn @h2d g'10))
     refine aa g'11 ?_
     exact hQ _ _ (ae (.inl rfl) hbel (x := .bool false) (ag Tryz.results170) rfl ⟨by rw [hfinP], rfl⟩)
    ·have h2d := bsT h2
     have hc0 := h2d
     have g'12 := (jn @h2 (jn @h2d g'10))
     refine aa g'12 ?_
     refine hJ0 _ _ ⟨k0 - 1, by omega, _, _, _, ⟨0 + 1, by omega, by refine ⟨fun h => ?_, fun h => ?_, fun h => ?_, fun h => ?_⟩ <;> first | omega | assumption | exact hal.1 (by omega) | exact hal.2.1 (by omega) | exact hal.2.2.1 (by omega), rfl, rfl⟩, Abs.byG hbel [] rfl [0, 1, 2] (by decide) ?_⟩
     exact be
   ·skip
    have g'13 := (jn @h1 @h1d)
    refine aa g'13 ?_
    refine af (by kernel_rfl) (eo _ x1 y0 vx vy vd far s0 t0 s1 t1) ?_
    refine aa g'13 ?_
    refine ai (fun h3 => ?_) (fun h3 => ?_)
    ·have h3d := bsT h3
     have hfinP : psB (x0, y0, x1, y1, f, c, vx, vy, vd) s0 t0 s1 t1 far = false := by simp [psB, h3d]
     have g'14 := (jn @h3 (jn @h3d g'13))
     refine aa g'14 ?_
     exact hQ _ _ (ae (.inl rfl) hbel (x := .bool false) (ag Tryz.results170) rfl ⟨by rw [hfinP], rfl⟩)
    ·have h3d := bsT h3
     have hc1 := h3d
     have g'15 := (jn @h3 (jn @h3d g'13))
     refine aa g'15 ?_
     refine hJ0 _ _ ⟨k0 - 1, by omega, _, _, _, ⟨1 + 1, by omega, by refine ⟨fun h => ?_, fun h => ?_, fun h => ?_, fun h => ?_⟩ <;> first | omega | assumption | exact hal.1 (by omega) | exact hal.2.1 (by omega) | exact hal.2.2.1 (by omega), rfl, rfl⟩, Abs.byG hbel [] rfl [0, 1, 2] (by decide) ?_⟩
     exact be
   ·skip
    have g'16 := (jn @h1 @h1d)
    refine aa g'16 ?_
    refine af (by kernel_rfl) (eo _ x0 y1 vx vy vd far s0 t0 s1 t1) ?_
    refine aa g'16 ?_
    refine ai (fun h4 => ?_) (fun h4 => ?_)
    ·have h4d := bsT h4
     have hfinP : psB (x0, y0, x1, y1, f, c, vx, vy, vd) s0 t0 s1 t1 far = false := by simp [psB, h4d]
     have g'17 := (jn @h4 (jn @h4d g'16))
     refine aa g'17 ?_
     exact hQ _ _ (ae (.inl rfl) hbel (x := .bool false) (ag Tryz.results170) rfl ⟨by rw [hfinP], rfl⟩)
    ·have h4d := bsT h4
     have hc2 := h4d
     have g'18 := (jn @h4 (jn @h4d g'16))
     refine aa g'18 ?_
     refine hJ0 _ _ ⟨k0 - 1, by omega, _, _, _, ⟨2 + 1, by omega, by refine ⟨fun h => ?_, fun h => ?_, fun h => ?_, fun h => ?_⟩ <;> first | omega | assumption | exact hal.1 (by omega) | exact hal.2.1 (by omega) | exact hal.2.2.1 (by omega), rfl, rfl⟩, Abs.byG hbel [] rfl [0, 1, 2] (by decide) ?_⟩
     exact be
   ·skip
    have g'19 := (jn @h1 @h1d)
    refine aa g'19 ?_
    refine af (by kernel_rfl) (eo _ x1 y1 vx vy vd far s0 t0 s1 t1) ?_
    refine aa g'19 ?_
    refine ai (fun h5 => ?_) (fun h5 => ?_)
    ·have h5d := bsT h5
     have hfinP : psB (x0, y0, x1, y1, f, c, vx, vy, vd) s0 t0 s1 t1 far = false := by simp [psB, h5d]
     have g'20 := (jn @h5 (jn @h5d g'19))
     refine aa g'20 ?_
     exact hQ _ _ (ae (.inl rfl) hbel (x := .bool false) (ag Tryz.results170) rfl ⟨by rw [hfinP], rfl⟩)
    ·have h5d := bsT h5
     have hc3 := h5d
     have g'21 := (jn @h5 (jn @h5d g'19))
     refine aa g'21 ?_
     refine hJ0 _ _ ⟨k0 - 1, by omega, _, _, _, ⟨3 + 1, by omega, by refine ⟨fun h => ?_, fun h => ?_, fun h => ?_, fun h => ?_⟩ <;> first | omega | assumption | exact hal.1 (by omega) | exact hal.2.1 (by omega) | exact hal.2.2.1 (by omega), rfl, rfl⟩, Abs.byG hbel [] rfl [0, 1, 2] (by decide) ?_⟩
     exact be
  ·have h1d := bsT h1
   have hfinP : psB (x0, y0, x1, y1, f, c, vx, vy, vd) s0 t0 s1 t1 far = true := by unfold psB; simp only; rw [hal.1 (by omega), hal.2.1 (by omega), hal.2.2.1 (by omega), hal.2.2.2 (by omega)]; rfl
   have g'22 := (jn @h1 @h1d)
   refine aa g'22 ?_
   exact hQ _ _ (ae (.inl rfl) hbel (x := .bool true) (ag Tryz.results170) rfl ⟨by rw [hfinP], rfl⟩)
theorem kprv1_c (H : ac) (x0 : Int) (y0 : Int) (x1 : Int) (y1 : Int) (f : Int) (c : Int) (vx : Int) (vy : Int) (vd : Int) (s0 : Int) (t0 : Int) (s1 : Int) (t1 : Int) (bz : Nat) (far : Int) (bw : Nat) (hz : ∃ o, H[bz]? = some (.cells o 0 [.int .i64 s0, .int .i64 t0, .int .i64 s1, .int .i64 t1])) (hw : ∃ o, H[bw]? = some (.cells o 0 [.int .i64 far])) (hp : bxB x0 y0 x1 y1 f c = true) : ACalls Tryz.prog 169 [.agg [.int .i64 x0, .int .i64 y0, .int .i64 x1, .int .i64 y1, .int .i64 f, .int .i64 c, .int .i64 vx, .int .i64 vy, .int .i64 vd], .ptr (some (bz, 0)), .ptr (some (bw, 0))] H (fun v H' => v = .bool (!(psB (x0, y0, x1, y1, f, c, vx, vy, vd) s0 t0 s1 t1 far)) ∧ H' = H) := by
 obtain ⟨oz, hbz⟩ := hz
 have hblz := getElem?_lt hbz
 have hb0z := fun l => aw (l := l) hbz
 obtain ⟨ow, hbw⟩ := hw
 have hblw := getElem?_lt hbw
 have hb0w := fun l => aw (l := l) hbw
 refine AcT true Tryz.func169 ?_; intro hbel Q hQ
 have g'23 := (jn @hbz (jn @hb0z (jn @hbw @hb0w)))
 refine aa g'23 ?_
 refine af (by kernel_rfl) (passes_c _ x0 y0 x1 y1 f c vx vy vd s0 t0 s1 t1 far (by assumption)) ?_
 refine aa g'23 ?_
 exact hQ _ _ (ae (.inl rfl) hbel (x := .bool (!(psB (x0, y0, x1, y1, f, c, vx, vy, vd) s0 t0 s1 t1 far))) (ag Tryz.results169) rfl ⟨rfl, rfl⟩)
theorem psqr_c (H : ac) (x : Int) (y : Int) : ACalls Tryz.prog 143 [.agg [.int .i64 x, .int .i64 y]] H (fun v H' => v = .tup [.agg [.int .i64 (mkV (sqO x y) (x * 64)), .int .i64 (mkV (sqO x y) (y * 64)), .int .i64 (mkV (sqO x y) (x * 64 + 64)), .int .i64 (mkV (sqO x y) (y * 64 + 64))], .bool (sqO x y)] ∧ H' = H) := by
 refine AcT true Tryz.func143 ?_; intro hbel Q hQ
 refine aY ?_
 refine af (by kernel_rfl) (fC _ x 16384 (by omega)) ?_
 refine aY ?_
 refine aj (fun h1 => ?_) (fun h1 => ?_)
 ·have h1d := bsT h1
  have wx := br.1 h1d
  have g'24 := (jn @h1 @h1d)
  refine aa g'24 ?_
  refine af (by kernel_rfl) (fC _ y 16384 (by omega)) ?_
  refine aa g'24 ?_
  refine ai (fun h2 => ?_) (fun h2 => ?_)
  ·have h2d := bsT h2
   have wy : ¬ (-16384 ≤ y ∧ y ≤ 16384) := mt br.2 (by rw [h2d]; decide)
   have g'25 := (jn @h2 (jn @h2d g'24))
   refine aa g'25 ?_
   exact hQ _ _ (ae (.inl rfl) hbel (x := .tup [.agg [.int .i64 0, .int .i64 0, .int .i64 0, .int .i64 0], .bool false]) (ag Tryz.results143) rfl ⟨by simp [mkV, sqO, h1d, h2d], rfl⟩)
  ·have h2d := bsT h2
   have wy := br.1 h2d
   have g'26 := (jn @h2 (jn @h2d g'24))
   refine aa g'26 ?_
   refine af (by kernel_rfl) (iS _ x y (by omega) (by omega)) ?_
   refine aa g'26 ?_
   exact hQ _ _ (ae (.inl rfl) hbel (x := .tup [.agg [.int .i64 (x * 64), .int .i64 (y * 64), .int .i64 (x * 64 + 64), .int .i64 (y * 64 + 64)], .bool true]) (ag Tryz.results143) rfl ⟨by simp [mkV, sqO, h1d, h2d], rfl⟩)
 ·have h1d := bsT h1
  have wx : ¬ (-16384 ≤ x ∧ x ≤ 16384) := mt br.2 (by rw [h1d]; decide)
  have g'27 := (jn @h1 @h1d)
  refine aa g'27 ?_
  exact hQ _ _ (ae (.inl rfl) hbel (x := .tup [.agg [.int .i64 0, .int .i64 0, .int .i64 0, .int .i64 0], .bool false]) (ag Tryz.results143) rfl ⟨by simp [mkV, sqO, h1d], rfl⟩)
theorem psqr_t (H : ac) (x y : Int) (h : sqO x y = true) : ACalls Tryz.prog 143 [.agg [.int .i64 x, .int .i64 y]] H (fun v H' => v = .tup [.agg [.int .i64 (x * 64), .int .i64 (y * 64), .int .i64 (x * 64 + 64), .int .i64 (y * 64 + 64)], .bool true] ∧ H' = H) := by
 have q := psqr_c H x y
 simp only [h, mkV, if_true] at q; exact q
theorem psqr_f (H : ac) (x y : Int) (h : sqO x y = false) : ACalls Tryz.prog 143 [.agg [.int .i64 x, .int .i64 y]] H (fun v H' => v = .tup [.agg [.int .i64 0, .int .i64 0, .int .i64 0, .int .i64 0], .bool false] ∧ H' = H) := by
 have q := psqr_c H x y
 simp only [h, mkV, if_false, Bool.false_eq_true] at q; exact q
open Go.RowKit
theorem sbf_trL {px py vx vy vd far cx cy : Int} (h : c6 px py vx vy vd far (cx * 64) (cy * 64) (cx * 64 + 64) (cy * 64 + 64) = true) (hp : ptB px py = true) (hc : (-16384 ≤ cx ∧ cx ≤ 16383) ∧ -16384 ≤ cy ∧ cy ≤ 16383) (hf : far ≤ 2048) : (cx, cy) ∈ trL px py vx vy vd 0 far := by
 unfold c6 at h
 simp only [Bool.and_eq_true, decide_eq_true_eq] at h
 obtain ⟨h0, h1, hg, hb⟩ := h
 have hv := eF hg
 have hvB := (cA.1 hg).2.1
 have hq := ge.1 hp
 have k := wU hv.1 hv.2 hq.1 hq.2 (cx := cx) (cy := cy) (by omega) (by omega) h0
  (mnx := if far * vx < 0 * vx then far * vx else 0 * vx) (mxx := if 0 * vx < far * vx then far * vx else 0 * vx) (mny := if far * vy < 0 * vy then far * vy else 0 * vy) (mxy := if 0 * vy < far * vy then far * vy else 0 * vy)
  (by split <;> omega) (by split <;> omega) (by split <;> omega) (by split <;> omega) (by split <;> omega) (by split <;> omega) (by split <;> omega) (by split <;> omega) hb
 have e : trE px py vx vy vd 0 far = 0 := by unfold trE; rw [if_pos (by rw [hp, hvB]; rfl), if_pos (e8.2 ⟨by omega, h0, hf⟩)]
 unfold trL mkL; rw [if_pos e]
 refine (iC (by omega) (by omega) hvB ⟨by omega, h0, hf⟩).2 ?_
 unfold cz dS dD
 simp only [Bool.and_eq_true, decide_eq_true_eq]
 exact ⟨⟨bN.2 (by omega), bN.2 (by omega), bN.2 (by omega)⟩, by omega, h0, h1, cA.2 ⟨dj.2 (by omega), hvB, bN.2 (by omega)⟩, k.1⟩
theorem dM {px py vx vy vd far x0 y0 x1 y1 : Int} (h : c6 px py vx vy vd far x0 y0 x1 y1 = true) : (0 ≤ far ∧ far ≤ 65536) ∧ thG px py vx vy vd x0 y0 x1 y1 = true ∧ gK px py vx vy vd far x0 y0 x1 y1 := by
 unfold c6 at h
 simp only [Bool.and_eq_true, decide_eq_true_eq] at h
 obtain ⟨h0, h1, hg, hb⟩ := h
 have hv := eF hg
 have n := jv hg
 exact ⟨⟨h0, h1⟩, hg, (nk hv.1 hv.2 n.1 n.2).1 hb⟩
theorem wa {px py vx vy vd far x0 y0 x1 y1 : Int} (hf : 0 ≤ far ∧ far ≤ 65536) (hg : thG px py vx vy vd x0 y0 x1 y1 = true) (h : gK px py vx vy vd far x0 y0 x1 y1) : c6 px py vx vy vd far x0 y0 x1 y1 = true := by
 have hv := eF hg
 have n := jv hg
 unfold c6
 simp only [Bool.and_eq_true, decide_eq_true_eq]
 exact ⟨hf.1, hf.2, hg, (nk hv.1 hv.2 n.1 n.2).2 h⟩
theorem sbf_pos {px py vx vy vd far x0 y0 x1 y1 : Int} (h : c6 px py vx vy vd far x0 y0 x1 y1 = true) : 0 < far := by
 obtain ⟨hf, hg, n, m, hn, hm, hlt, -⟩ := dM h
 have hv := (eF hg).1
 rcases Int.lt_or_le 0 far with k | k
 ·exact k
 ·have e : far = 0 := by omega
  rw [e, Int.zero_mul] at hlt
  have := Int.mul_nonneg hn (show 0 ≤ vd by omega)
  omega
def prvE (l : List T6) (g : Int) (e c : Int × Int) : Bool := prvB l e.1 (aE e.2 g) c
theorem dirA_0 {l : List T6} (hS : bP l = true) (hl : 0 < l.length) (m : Int) : 0 < (av l m).length := by have := jz hS m; omega
theorem prv_fst {l : List T6} {m far : Int} {c : Int × Int} (hS : bP l = true) (hl : 0 < l.length) (hf : far ≤ 2048) (hc : (-16384 ≤ c.1 ∧ c.1 ≤ 16383) ∧ -16384 ≤ c.2 ∧ c.2 ≤ 16383) (h : prvB l m far c = true) : c ∈ aW l m far ∧ 0 < far := by
 have he := g9_mem (dirA_0 hS hl m)
 have k := List.all_eq_true.1 h _ he
 have ok := nm hS he
 unfold pairB at ok
 rw [Bool.and_eq_true] at ok
 have hb := bL.1 ok.1
 unfold psC psB at k
 rw [Bool.and_eq_true] at k
 have hp : ptB (g9 (av l m) 0).1 (g9 (av l m) 0).2.1 = true := ge.2 (by omega)
 exact ⟨sbf_trL k.1 hp hc hf, sbf_pos k.1⟩
theorem prS_mem {W Hh : Int} {l : List T6} {sc : List (Int × Int)} {g : Int} {c : Int × Int} : ∀ {i : Nat}, c ∈ prS W Hh l sc g i ↔ ∃ j : Nat, j < i ∧ c ∈ ef W Hh l (g1 sc j) (g2 sc j) g
 | 0 => ⟨fun h => (by cases h), fun ⟨j, hj, _⟩ => (by omega)⟩
 | i + 1 => by
  unfold prS
  rw [List.mem_append, prS_mem]
  constructor
  ·rintro (⟨j, hj, h⟩ | h)
   ·exact ⟨j, by omega, h⟩
   ·exact ⟨i, by omega, h⟩
  ·rintro ⟨j, hj, h⟩
   rcases Nat.lt_or_ge j i with k | k
   ·exact .inl ⟨j, k, h⟩
   ·rw [show j = i by omega] at h; exact .inr h
theorem inB_bd {W Hh : Int} {xs : List Int} {x y : Int} (hV : bW W Hh xs = true) (h : inB W Hh x y = true) : (0 ≤ x ∧ x ≤ 63) ∧ 0 ≤ y ∧ y ≤ 63 := by
 have q := bM.1 hV
 have := di.1 h
 have := q.w1; have := q.h1
 omega
theorem mem_all {W Hh : Int} {xs : List Int} {l : List T6} {sc : List (Int × Int)} {g : Int} (hR : db W Hh xs l sc g = true) {c : Int × Int} : c ∈ ba W Hh l sc g ↔ ez l = true ∧ inB W Hh c.1 c.2 = true ∧ ∃ e ∈ sc, prvE l g e c = true := by
 obtain ⟨hV, hl0, hS, hsB, hg⟩ := e7.1 hR
 have hs := da.1 hsB
 unfold ba
 rw [e9, (fa _).mem_iff]
 unfold gL
 by_cases ht : ez l = true
 ·rw [if_pos ht, prS_mem]
  constructor
  ·rintro ⟨j, hj, h⟩
   unfold ef at h
   split at h
   ·cases h
   ·have k := (List.mem_filter.1 h).2
    unfold bY at k
    rw [Bool.and_eq_true, Bool.and_eq_true, bu, bu] at k
    refine ⟨ht, di.2 (by omega), sc[j], List.getElem_mem hj, ?_⟩
    unfold prvE
    rw [← cw hj]; exact k.2.2
  ·rintro ⟨-, hin, e, he, hp⟩
   obtain ⟨j, hj, rfl⟩ := List.mem_iff_getElem.1 he
   have hbe := e6.1 (hs.2 _ he)
   rw [← cw hj] at hbe hp
   have hb := inB_bd hV hin
   have hff : aE (g2 sc j) g ≤ 2048 := by unfold aE; split <;> omega
   have q := prv_fst hS hl0 hff (by omega) hp
   refine ⟨j, hj, ?_⟩
   unfold ef
   rw [if_neg (by omega)]
   refine List.mem_filter.2 ⟨q.1, ?_⟩
   unfold bY
   rw [Bool.and_eq_true, Bool.and_eq_true, bu, bu]
   have := di.1 hin
   exact ⟨by omega, by omega, hp⟩
 ·rw [if_neg ht]
  exact ⟨fun h => (by cases h), fun h => absurd h.1 ht⟩
open Go.RowKit
theorem mX {b : T6} {j : Nat} (h : j < (mkB b).length) : gi (mkB b) j = (b.2.2.2.2.1 + (j : Int)) % 256 := by
 have h2 : j < b.2.2.2.2.2.toNat := by have e : (mkB b).length = b.2.2.2.2.2.toNat := ew _ _; omega
 show gi (bl b.2.2.2.2.1 b.2.2.2.2.2.toNat) j = _
 rw [iN (by rw [ew]; exact h2)]
 unfold bl
 rw [List.getElem_map, List.getElem_range]
open Go.RowKit
theorem all_put {W Hh : Int} {l : List T6} {sc : List (Int × Int)} {g : Int} : ba W Hh l sc g = (gL W Hh l sc g).foldl (fun o c => gf c o) [] := cpt_put (iV _) fun _ => (fa _).mem_iff
theorem sus_put {l : List T6} {m r g : Int} : bF l m r g = (fw l m r g).foldl (fun o c => gf c o) [] := cpt_put (iV _) fun _ => (fa _).mem_iff
open Go.RowKit
def swT (r g : Int) (e : T9) : List (Int × Int) := cM e.1 e.2.1 e.2.2.1 e.2.2.2.1 e.2.2.2.2.2.2.1 e.2.2.2.2.2.2.2.1 e.2.2.2.2.2.2.2.2 (if 0 < r - g then r - g else 0) (r + g)
theorem wb {l : List T9} {r g : Int} : ∀ {i : Nat}, i ≤ l.length → swS l r g i = (l.take i).flatMap (swT r g)
 | 0, _ => by simp [swS]
 | i + 1, hi => by
  have h : i < l.length := by omega
  rw [List.take_succ_eq_append_getElem h, List.flatMap_append, ← wb (by omega)]
  have e := g9_eq h
  simp only [List.flatMap_cons, List.flatMap_nil, List.append_nil]
  rw [← e]; rfl
open Go.RowKit
def sqBf (x y : Int) (v : Int × Int × Int) (far : Int) (c : Int × Int) : Bool := c6 x y v.1 v.2.1 v.2.2 far (c.1 * 64) (c.2 * 64) (c.1 * 64 + 64) (c.2 * 64 + 64)
def eK (x y : Int) (v : Int × Int × Int) (lo hi : Int) (c : Int × Int) : Bool := dD x y v.1 v.2.1 v.2.2 lo hi (c.1 * 64) (c.2 * 64) (c.1 * 64 + 64) (c.2 * 64 + 64)
def dT (r g : Int) : Int := if 0 < r - g then r - g else 0
def CovP (l : List T6) (x y h : Int) : Prop := ∃ b ∈ l, (b.1 ≤ x ∧ x ≤ b.2.2.1) ∧ (b.2.1 ≤ y ∧ y ≤ b.2.2.2.1) ∧ ∃ j : Nat, j < (mkB b).length ∧ h = gi (mkB b) j
theorem psC_pt {l : List T6} {m far x y : Int} {c : Int × Int} {b : T6} {j : Nat} (hS : bP l = true) (hb : b ∈ l) (hx : b.1 ≤ x ∧ x ≤ b.2.2.1) (hy : b.2.1 ≤ y ∧ y ≤ b.2.2.2.1) (hj : j < (mkB b).length) (h : prvB l m far c = true) : sqBf x y (aZ (gi (mkB b) j) m) far c = true := by
 obtain ⟨i, hi, rfl⟩ := List.mem_iff_getElem.1 hb
 have hbi : g6 l i = l[i] := gu hi
 have hbx := (bU.1 hS).2 _ hb
 have he : dirE l[i] m (gi (mkB l[i]) j) ∈ av l m := (jA (Nat.le_refl _)).2 ⟨i, j, hi, by rw [hbi]; exact hj, by rw [hbi]⟩
 have k := List.all_eq_true.1 h _ he
 unfold psC psB at k
 simp only [Bool.and_eq_true] at k
 obtain ⟨k1, k2, k3, k4⟩ := k
 have p1 := dM k1
 have p2 := dM k2
 have p3 := dM k3
 have p4 := dM k4
 have hg := cA.1 p1.2.1
 have hb4 := bL.1 hbx
 exact wa p1.1 (cA.2 ⟨dj.2 (by omega), hg.2.1, hg.2.2⟩) (bef_box hx hy p1.2.2 p2.2.2 p3.2.2 p4.2.2)
theorem dA {px py vx vy vd lo hi x0 y0 x1 y1 : Int} : dD px py vx vy vd lo hi x0 y0 x1 y1 = true ↔ (0 ≤ lo ∧ lo ≤ hi ∧ hi ≤ 65536) ∧ thG px py vx vy vd x0 y0 x1 y1 = true ∧ ∃ n m : Int, 0 ≤ n ∧ 0 < m ∧ lo * m ≤ n * vd ∧ n * vd ≤ hi * m ∧ dk px py vx vy x0 y0 x1 y1 n m := by
 unfold dD
 simp only [Bool.and_eq_true, decide_eq_true_eq]
 constructor
 ·rintro ⟨h0, h1, h2, hg, hm⟩
  have hv := eF hg
  have n := jv hg
  exact ⟨⟨h0, h1, h2⟩, hg, (kK hv.1 hv.2 n.1 n.2 h0 h1).1 hm⟩
 ·rintro ⟨⟨h0, h1, h2⟩, hg, hm⟩
  have hv := eF hg
  have n := jv hg
  exact ⟨h0, h1, h2, hg, (kK hv.1 hv.2 n.1 n.2 h0 h1).2 hm⟩
theorem tau_side {l : List T6} (h : ez l = true) {b : T6} (hb : b ∈ l) : b.2.2.1 - b.1 ≤ 64 ∧ b.2.2.2.1 - b.2.1 ≤ 64 := by
 unfold ez at h
 rw [Bool.and_eq_true, Bool.not_eq_true', List.any_eq_false] at h
 have k := h.2 b hb
 unfold wdeB at k
 rw [Bool.or_eq_true, decide_eq_true_eq, decide_eq_true_eq] at k
 omega
theorem sus_pt {l : List T6} {m r g x y : Int} {c : Int × Int} {b : T6} {j : Nat} (hS : bP l = true) (ht : ez l = true) (hr : 0 ≤ r ∧ r ≤ 1024) (hg : 1 ≤ g ∧ g ≤ 32) (hb : b ∈ l) (hx : b.1 ≤ x ∧ x ≤ b.2.2.1) (hy : b.2.1 ≤ y ∧ y ≤ b.2.2.2.1) (hj : j < (mkB b).length) (hc : (-1024 ≤ c.1 ∧ c.1 ≤ 1024) ∧ -1024 ≤ c.2 ∧ c.2 ≤ 1024) (h : eK x y (aZ (gi (mkB b) j) m) (dT r g) (r + g) c = true) : c ∈ bF l m r g := by
 have hr1 : ¬ r = -1 := by omega
 have e : fw l m r g = swS (av l m) r g (av l m).length := by unfold fw; rw [decide_eq_false hr1, ht]; rfl
 have hsd := tau_side ht hb
 have hbx := bL.1 ((bU.1 hS).2 _ hb)
 obtain ⟨i, hi, rfl⟩ := List.mem_iff_getElem.1 hb
 have hbi : g6 l i = l[i] := gu hi
 have he : dirE l[i] m (gi (mkB l[i]) j) ∈ av l m := (jA (Nat.le_refl _)).2 ⟨i, j, hi, by rw [hbi]; exact hj, by rw [hbi]⟩
 unfold bF
 rw [e9, (fa _).mem_iff, e, wb (Nat.le_refl _), List.take_length, List.mem_flatMap]
 refine ⟨_, he, ?_⟩
 obtain ⟨h1, h2, n, m', k1, k2, k3, k4, k5⟩ := dA.1 h
 have hv := (cA.1 h2).2.1
 have hl0 : 0 ≤ dT r g ∧ dT r g ≤ r + g ∧ r + g ≤ 2048 := by unfold dT; split <;> omega
 unfold swT dirE
 show c ∈ cM _ _ _ _ _ _ _ (dT r g) (r + g)
 have hE := (sptE_0 (x0 := l[i].1) (y0 := l[i].2.1) (x1 := l[i].2.2.1) (y1 := l[i].2.2.2.1) (js.2 (by omega)) hv hl0 (by omega)).2
 rw [hE]
 refine (iC (by omega) (by omega) hv hl0).2 ?_
 unfold cz dS
 simp only [Bool.and_eq_true]
 exact ⟨⟨bN.2 (by omega), bN.2 (by omega), bN.2 (by omega)⟩, dA.2 ⟨by omega, cA.2 ⟨dj.2 (by omega), hv, bN.2 (by omega)⟩, mee_box hx hy ⟨n, m', k1, k2, k3, k4, k5⟩⟩⟩
open Go.RowKit
section
variable {W Hh : Int} {xs : List Int} {px py vx vy vd most : Int}
end
set_option linter.unusedSimpArgs false
set_option linter.unusedVariables false
open Go.RowKit
set_option maxHeartbeats 800000
open Go.RowKit
set_option maxHeartbeats 4000000
set_option maxRecDepth 100000
theorem delta_c (H : ac) (a : Int) (b : Int) (ka : -1152921504606846976 ≤ a ∧ a ≤ 1152921504606846976) (kb : -1152921504606846976 ≤ b ∧ b ≤ 1152921504606846976) : ACalls Tryz.prog 48 [.int .i64 a, .int .i64 b] H (fun v H' => v = .int .i64 (delI a b) ∧ H' = H) := by
 refine AcT true Tryz.func48 ?_; intro hbel Q hQ
 refine aY ?_
 refine af (by kernel_rfl) (iw _ (b - a)) ?_
 refine aY ?_
 refine ai (fun h1 => ?_) (fun h1 => ?_)
 ·have h1d := bsT h1
  have g'1 := (jn @h1 @h1d)
  refine aa g'1 ?_
  exact hQ _ _ (aF (.inl rfl) hbel (x := .int .i64 (((((b - a) % 256).toNat : Nat) : Int) - 256)) (ag Tryz.results48) rfl ⟨congrArg (AV.int .i64) (by unfold delI; split <;> omega), rfl⟩)
 ·have h1d := bsT h1
  have g'2 := (jn @h1 @h1d)
  refine aa g'2 ?_
  exact hQ _ _ (aF (.inl rfl) hbel (x := .int .i64 ((((b - a) % 256).toNat : Nat) : Int)) (ag Tryz.results48) rfl ⟨congrArg (AV.int .i64) (by unfold delI; split <;> omega), rfl⟩)
open Go.RowKit
open Go.RowKit
open Go.RowKit
def fL (x y h : Int) : Bool := bZ x 1048576 && (bZ y 1048576 && (decide (0 ≤ h) && decide (h < 256)))
theorem fc {x y h : Int} : fL x y h = true ↔ (ptB x y = true ∧ btw h 0 255 = true) := by
 unfold fL ptB; simp only [Bool.and_eq_true, br, bu, decide_eq_true_eq]; omega
theorem bpose_c (H : ac) (x : Int) (y : Int) (h : Int) : ACalls Tryz.prog 12 [.agg [.int .i64 x, .int .i64 y, .int .i64 h]] H (fun v H' => v = .bool (fL x y h) ∧ H' = H) := by
 refine AcT true Tryz.func12 ?_; intro hbel Q hQ
 refine aY ?_
 refine af (by kernel_rfl) (bsize_c _ _ _ (by decide)) ?_
 refine aY ?_
 refine aj (fun h1 => ?_) (fun h1 => ?_)
 ·have h1d := bsT h1
  have g'1 := (jn @h1 @h1d)
  refine aa g'1 ?_
  refine af (by kernel_rfl) (bsize_c _ _ _ (by decide)) ?_
  refine aa g'1 ?_
  refine aj (fun h2 => ?_) (fun h2 => ?_)
  ·have h2d := bsT h2
   have g'2 := (jn @h2 (jn @h2d g'1))
   refine aa g'2 ?_
   refine aj (fun h3 => ?_) (fun h3 => ?_)
   ·have h3d := bsT h3
    have g'3 := (jn @h3 (jn @h3d g'2))
    refine aa g'3 ?_
    exact hQ _ _ (ae (.inl rfl) hbel (x := .bool (decide (h < 256))) (ag Tryz.results12) rfl ⟨by simp [fL, h1d, h2d, h3d], rfl⟩)
   ·have h3d := bsT h3
    have g'4 := (jn @h3 (jn @h3d g'2))
    refine aa g'4 ?_
    exact hQ _ _ (ae (.inl rfl) hbel (x := .bool false) (ag Tryz.results12) rfl ⟨by simp [fL, h1d, h2d, h3d], rfl⟩)
  ·have h2d := bsT h2
   have g'5 := (jn @h2 (jn @h2d g'1))
   refine aa g'5 ?_
   exact hQ _ _ (ae (.inl rfl) hbel (x := .bool false) (ag Tryz.results12) rfl ⟨by simp [fL, h1d, h2d], rfl⟩)
 ·have h1d := bsT h1
  have g'6 := (jn @h1 @h1d)
  refine aa g'6 ?_
  exact hQ _ _ (ae (.inl rfl) hbel (x := .bool false) (ag Tryz.results12) rfl ⟨by simp [fL, h1d], rfl⟩)
open Go.RowKit
def nhI (ah t eT : Int) : Int := (((((ah + t) + eT) % 256).toNat : Nat) : Int)
open Go.RowKit
def gj (W Hh : Int) (xs : List Int) : Bool := bW W Hh xs && !(xs.any fun v => v == 0)
theorem bld_c (H : ac) (W : Int) (Hh : Int) (pp : AV) (xs : List Int) (hpp : Sl H 1 pp xs.length (ints .u8 xs)) : ACalls Tryz.prog 8 [.agg [.int .i64 W, .int .i64 Hh, pp]] H (fun v H' => v = .bool (gj W Hh xs) ∧ H' = H) := by
 obtain ⟨bpp, opp, cpp, rfl, hbpp⟩ := hpp
 have hblpp := getElem?_lt hbpp
 have hb0pp := fun l => aw (l := l) hbpp
 refine AcT true Tryz.func8 ?_; intro hbel Q hQ
 have g'1 := (jn @hbpp @hb0pp)
 refine aa g'1 ?_
 refine af (by kernel_rfl) (rplan_a _ W Hh _ xs (.inr ⟨_, _, _, rfl, by first | exact hb0pp _ | exact hbpp⟩)) ?_
 refine aa g'1 ?_
 refine ai (fun h1 => ?_) (fun h1 => ?_)
 ·have h1d := bsT h1
  have hfinD : gj W Hh xs = false := by unfold gj; rw [h1d]; rfl
  have g'2 := (jn @h1 (jn @h1d g'1))
  refine aa g'2 ?_
  exact hQ _ _ (ae (.inl rfl) hbel (x := .bool false) (ag Tryz.results8) rfl ⟨by first | (rw [hfinD]; done) | (unfold gj; simp [h1d, hfinD]; done), rfl⟩)
 ·have h1d := bsT h1
  have hV := h1d
  have hVl := bM.1 hV
  have g'3 := (jn @h1 (jn @h1d g'1))
  refine aa g'3 ?_
  refine go_loop try_mixed (by kernel_rfl) (fun k F Hx => ∃ i : Nat, i + k = xs.length ∧ (∀ j : Nat, j < i → ¬ gi xs j = 0) ∧ F = [(1, .ptr (some (H.length, 0))), (3, .int .i64 ((i : Nat) : Int))] ∧ Hx = H ++ [.cells true 0 [.int .i64 W, .int .i64 Hh, .sl (some (bpp, 0)) xs.length cpp]]) (xs.length) ?_ ?_
  ·refine ⟨_, _, _, ⟨0, by omega, fun j h => by omega, rfl, rfl⟩, Abs.byG hbel [] rfl [0] (by decide) ?_⟩
   exact be
  ·rintro k0 F Hx ⟨i, hm0, hal, rfl, rfl⟩ J0 hJ0
   have hl4 := hVl.len
   have hl5 := hVl.pos
   refine aa g'3 ?_
   refine ai (fun h2 => ?_) (fun h2 => ?_)
   ·have h2d := bsT h2
    have q3 := cV (k := .u8) (xs := xs) (j := i) (by omega)
    have g'4 := (jn @h2 (jn @h2d (jn @q3 g'3)))
    refine aa g'4 ?_
    refine ai (fun h4 => ?_) (fun h4 => ?_)
    ·have h4d := bsT h4
     have h4n := bnT h4
     have hfinD : gj W Hh xs = false := by
      unfold gj
      have e : xs.any (fun v => v == 0) = true := List.any_eq_true.2 ⟨xs[i]'(by omega), List.getElem_mem _, by rw [← iN (show i < xs.length by omega)]; simpa using h4d⟩
      rw [e]; simp
     have g'5 := (jn @h4 (jn @h4n (jn @aU (jn @aT g'4))))
     refine aa g'5 ?_
     exact hQ _ _ (ae (.inl rfl) hbel (x := .bool false) (ag Tryz.results8) rfl ⟨by first | (rw [hfinD]; done) | (unfold gj; simp [h1d, h2d, h4d, hfinD]; done), rfl⟩)
    ·have h4d := bsT h4
     have h4n := bnT h4
     have hnz : ¬ gi xs i = 0 := by simpa using h4d
     have g'6 := (jn @h4 (jn @h4n (jn @aU (jn @aT g'4))))
     refine aa g'6 ?_
     refine hJ0 _ _ ⟨k0 - 1, by omega, _, _, _, ⟨i + 1, by omega, fun j hj => by
           rcases Nat.lt_or_ge j i with hji | hji
           ·exact hal j hji
           ·rw [show j = i by omega]; exact hnz, rfl, rfl⟩, Abs.byG hbel [] rfl [0] (by decide) ?_⟩
     exact be
   ·have h2d := bsT h2
    have hfinD : gj W Hh xs = true := by
     unfold gj
     have e : xs.any (fun v => v == 0) = false := List.any_eq_false.2 fun v hv => by
      obtain ⟨j, hj, rfl⟩ := List.mem_iff_getElem.1 hv
      rw [← iN hj]; simpa using hal j (by omega)
     rw [e, hV]; rfl
    have g'7 := (jn @h2 (jn @h2d g'3))
    refine aa g'7 ?_
    exact hQ _ _ (ae (.inl rfl) hbel (x := .bool true) (ag Tryz.results8) rfl ⟨by first | (rw [hfinD]; done) | (unfold gj; simp [h1d, h2d, hfinD]; done), rfl⟩)
open Go.RowKit
def inpB (W Hh : Int) (xs : List Int) (x y : Int) : Bool := bW W Hh xs && (decide (0 ≤ x) && (decide (x ≤ 64 * W) && (decide (0 ≤ y) && decide (y ≤ 64 * Hh))))
theorem iD {W Hh : Int} {xs : List Int} {x y : Int} : inpB W Hh xs x y = true ↔ bW W Hh xs = true ∧ (0 ≤ x ∧ x ≤ 64 * W) ∧ 0 ≤ y ∧ y ≤ 64 * Hh := by
 unfold inpB; simp only [Bool.and_eq_true, decide_eq_true_eq]
 exact ⟨fun ⟨a, b, c, d, e⟩ => ⟨a, ⟨b, c⟩, d, e⟩, fun ⟨a, ⟨b, c⟩, d, e⟩ => ⟨a, b, c, d, e⟩⟩
theorem mkV_t (n : Int) : mkV true n = n := rfl
open Go.RowKit
def hsgB (f c h : Int) : Bool := cd f c && decide ((((IntKind.i64.wrap (h - f) % 256).toNat : Nat) : Int) < c)
def hbB (x y h : Int) (b : T6) : Bool := bxB b.1 b.2.1 b.2.2.1 b.2.2.2.1 b.2.2.2.2.1 b.2.2.2.2.2 && (decide (b.1 ≤ x) && (decide (x ≤ b.2.2.1) && (decide (b.2.1 ≤ y) && (decide (y ≤ b.2.2.2.1) && hsgB b.2.2.2.2.1 b.2.2.2.2.2 h))))
def covB (l : List T6) (x y h : Int) : Bool := l.any (hbB x y h)
theorem covB_iff {l : List T6} {x y h : Int} (hh : 0 ≤ h ∧ h ≤ 255) (k : covB l x y h = true) : ∃ b ∈ l, (b.1 ≤ x ∧ x ≤ b.2.2.1) ∧ (b.2.1 ≤ y ∧ y ≤ b.2.2.2.1) ∧ dP b.2.2.2.2.1 b.2.2.2.2.2 h ∧ cd b.2.2.2.2.1 b.2.2.2.2.2 = true := by
 obtain ⟨b, hb, hk⟩ := List.any_eq_true.1 k
 unfold hbB hsgB at hk
 simp only [Bool.and_eq_true, decide_eq_true_eq] at hk
 obtain ⟨-, h1, h2, h3, h4, h5, h6⟩ := hk
 have ha := bH.1 h5
 rw [hZ (by omega) (by omega)] at h6
 exact ⟨b, hb, by omega, by omega, by unfold dP; omega, h5⟩
def narB (l : List T6) : Bool := (l.all fun b => decide (b.2.2.2.2.2 ≤ 6)) && decide (l.length ≤ 3)
theorem narB_len {l : List T6} (h : narB l = true) : l.length ≤ 3 := by
 unfold narB at h; rw [Bool.and_eq_true, decide_eq_true_eq] at h; exact h.2
theorem nar_f {l : List T6} {i : Nat} (hi : i < l.length) (h : 6 < g66 l i) : narB l = false := by
 unfold narB
 rw [Bool.and_eq_false_iff]; left
 rw [← Bool.not_eq_true, List.all_eq_true]
 intro k
 have := k (g6 l i) (cL hi)
 have q : g66 l i ≤ 6 := of_decide_eq_true this
 omega
theorem nar_e {l : List T6} (h : ∀ j : Nat, j < l.length → ¬ 6 < g66 l j) : narB l = decide ((l.length : Int) ≤ 3) := by
 unfold narB
 have e : (l.all fun b => decide (b.2.2.2.2.2 ≤ 6)) = true := List.all_eq_true.2 fun b hb => by
  obtain ⟨j, hj, rfl⟩ := List.mem_iff_getElem.1 hb
  have k := h j hj
  rw [← gu hj]
  exact decide_eq_true (by have : g66 l j ≤ 6 := by omega
                           exact this)
 rw [e, Bool.true_and, decide_eq_decide]
 omega
open Go.RowKit
theorem mee_conv {px qx py vx vy x0 y0 x1 y1 n m n' m' a T vd hi : Int} (hT : 0 < T) (ha : 0 ≤ a ∧ a ≤ T) (hn : 0 ≤ n) (hm : 0 < m) (hn' : 0 ≤ n') (hm' : 0 < m') (hb : n * vd ≤ hi * m) (hb' : n' * vd ≤ hi * m') (h : dk px py vx vy x0 y0 x1 y1 n m) (h' : dk qx py vx vy x0 y0 x1 y1 n' m')
  {rx : Int} (hx : T * rx = (T - a) * px + a * qx) : ∃ k l : Int, 0 ≤ k ∧ 0 < l ∧ k * vd ≤ hi * l ∧ dk rx py vx vy x0 y0 x1 y1 k l := by
 obtain ⟨⟨a1, a2⟩, a3, a4⟩ := h
 obtain ⟨⟨b1, b2⟩, b3, b4⟩ := h'
 -- the point (T-a)*(n/m) + a*(n'/m') over T
 have hTa : 0 ≤ T - a := by omega
 have A : 0 ≤ (T - a) * m' := Int.mul_nonneg hTa (by omega)
 have B : 0 ≤ a * m := Int.mul_nonneg ha.1 (by omega)
 have Tmm : 0 < T * m * m' := Int.mul_pos (Int.mul_pos hT hm) hm'
 refine ⟨(T - a) * m' * n + a * m * n', T * m * m', by have := Int.mul_nonneg A hn; have := Int.mul_nonneg B hn'; omega, Tmm, ?_, ⟨?_, ?_⟩, ?_, ?_⟩
 ·have e1 : ((T - a) * m' * n + a * m * n') * vd = (T - a) * m' * (n * vd) + a * m * (n' * vd) := by grind
  have e2 : hi * (T * m * m') = (T - a) * m' * (hi * m) + a * m * (hi * m') := by grind
  rw [e1, e2]
  have p1 := Int.mul_le_mul_of_nonneg_left hb A
  have p2 := Int.mul_le_mul_of_nonneg_left hb' B
  omega
 ·have p1 := Int.mul_le_mul_of_nonneg_left a1 A
  have p2 := Int.mul_le_mul_of_nonneg_left b1 B
  have e : T * m * m' * rx + ((T - a) * m' * n + a * m * n') * vx = (T - a) * m' * (m * px + n * vx) + a * m * (m' * qx + n' * vx) := by grind
  have e2 : T * m * m' * x0 = (T - a) * m' * (m * x0) + a * m * (m' * x0) := by grind
  omega
 ·have p1 := Int.mul_le_mul_of_nonneg_left a2 A
  have p2 := Int.mul_le_mul_of_nonneg_left b2 B
  have e : T * m * m' * rx + ((T - a) * m' * n + a * m * n') * vx = (T - a) * m' * (m * px + n * vx) + a * m * (m' * qx + n' * vx) := by grind
  have e2 : T * m * m' * x1 = (T - a) * m' * (m * x1) + a * m * (m' * x1) := by grind
  omega
 ·have p1 := Int.mul_le_mul_of_nonneg_left a3 A
  have p2 := Int.mul_le_mul_of_nonneg_left b3 B
  have e : T * m * m' * py + ((T - a) * m' * n + a * m * n') * vy = (T - a) * m' * (m * py + n * vy) + a * m * (m' * py + n' * vy) := by grind
  have e2 : T * m * m' * y0 = (T - a) * m' * (m * y0) + a * m * (m' * y0) := by grind
  omega
 ·have p1 := Int.mul_le_mul_of_nonneg_left a4 A
  have p2 := Int.mul_le_mul_of_nonneg_left b4 B
  have e : T * m * m' * py + ((T - a) * m' * n + a * m * n') * vy = (T - a) * m' * (m * py + n * vy) + a * m * (m' * py + n' * vy) := by grind
  have e2 : T * m * m' * y1 = (T - a) * m' * (m * y1) + a * m * (m' * y1) := by grind
  omega

def gN (px py vx vy vd hi x0 y0 x1 y1 : Int) : Prop := ∃ n m : Int, 0 ≤ n ∧ 0 < m ∧ n * vd ≤ hi * m ∧ dk px py vx vy x0 y0 x1 y1 n m
theorem lL {px py vx vy vd hi x0 y0 x1 y1 : Int} : gN px py vx vy vd hi x0 y0 x1 y1 ↔ gN py px vy vx vd hi y0 x0 y1 x1 :=
 ⟨fun ⟨n, m, a, b, c, d⟩ => ⟨n, m, a, b, c, ju.1 d⟩, fun ⟨n, m, a, b, c, d⟩ => ⟨n, m, a, b, c, ju.2 d⟩⟩
theorem lM {ax bx py vx vy vd hi x0 y0 x1 y1 rx : Int} (hr : ax ≤ rx ∧ rx ≤ bx) (h : gN ax py vx vy vd hi x0 y0 x1 y1) (k : gN bx py vx vy vd hi x0 y0 x1 y1) : gN rx py vx vy vd hi x0 y0 x1 y1 := by
 by_cases e : ax = bx
 ·rw [show rx = ax by omega]; exact h
 ·obtain ⟨n, m, h1, h2, h3, h4⟩ := h
  obtain ⟨n', m', k1, k2, k3, k4⟩ := k
  exact mee_conv (T := bx - ax) (a := rx - ax) (by omega) (by omega) h1 h2 k1 k2 h3 k3 h4 k4 (by grind)
theorem mee_box4 {ax ay bx by' vx vy vd hi x0 y0 x1 y1 rx ry : Int} (hx : ax ≤ rx ∧ rx ≤ bx) (hy : ay ≤ ry ∧ ry ≤ by') (h1 : gN ax ay vx vy vd hi x0 y0 x1 y1) (h2 : gN bx ay vx vy vd hi x0 y0 x1 y1) (h3 : gN ax by' vx vy vd hi x0 y0 x1 y1) (h4 : gN bx by' vx vy vd hi x0 y0 x1 y1) : gN rx ry vx vy vd hi x0 y0 x1 y1 :=
 lL.1 (lM hy (lL.1 (lM hx h1 h2)) (lL.1 (lM hx h3 h4)))
theorem jC {px py vx vy vd hi x0 y0 x1 y1 : Int} (h : dD px py vx vy vd 0 hi x0 y0 x1 y1 = true) : (0 ≤ hi ∧ hi ≤ 65536) ∧ thG px py vx vy vd x0 y0 x1 y1 = true ∧ gN px py vx vy vd hi x0 y0 x1 y1 := by
 obtain ⟨h1, h2, n, m, k1, k2, -, k4, k5⟩ := dA.1 h
 exact ⟨⟨h1.2.1, h1.2.2⟩, h2, n, m, k1, k2, k4, k5⟩
theorem lN {px py vx vy vd hi x0 y0 x1 y1 : Int} (h1 : 0 ≤ hi ∧ hi ≤ 65536) (h2 : thG px py vx vy vd x0 y0 x1 y1 = true) (h : gN px py vx vy vd hi x0 y0 x1 y1) : dD px py vx vy vd 0 hi x0 y0 x1 y1 = true := by
 obtain ⟨n, m, k1, k2, k4, k5⟩ := h
 have hv := eF h2
 exact dA.2 ⟨⟨by omega, h1.1, h1.2⟩, h2, n, m, k1, k2, by rw [Int.zero_mul]; exact Int.mul_nonneg k1 (by omega), k4, k5⟩
def hcB (op : Bool) (x y vx vy vd far cx cy : Int) : Bool := bif op then c6 x y vx vy vd far (cx * 64) (cy * 64) ((cx + 1) * 64) ((cy + 1) * 64) else dD x y vx vy vd 0 far (cx * 64) (cy * 64) ((cx + 1) * 64) ((cy + 1) * 64)
def h4B (op : Bool) (x0 y0 x1 y1 vx vy vd far cx cy : Int) : Bool := hcB op x0 y0 vx vy vd far cx cy && (hcB op x1 y0 vx vy vd far cx cy && (hcB op x0 y1 vx vy vd far cx cy && hcB op x1 y1 vx vy vd far cx cy))
def fM (W Hh : Int) (xs : List Int) (op : Bool) (x0 y0 x1 y1 vx vy vd far : Int) (c : Int × Int) : Bool := (atI W Hh xs c.1 c.2 == 2) && h4B op x0 y0 x1 y1 vx vy vd far c.1 c.2
def eh (W Hh : Int) (xs : List Int) (x0 y0 x1 y1 vx vy vd far : Int) (op : Bool) : Bool := !decide (far < 0) && (trL x0 y0 vx vy vd 0 far).any (fM W Hh xs op x0 y0 x1 y1 vx vy vd far)
def frC (W Hh : Int) (xs : List Int) (c : Int × Int) : Bool := atI W Hh xs c.1 c.2 == 1
def empB (W Hh : Int) (xs : List Int) (x0 y0 x1 y1 vx vy vd lo hi : Int) : Bool := (cM x0 y0 x1 y1 vx vy vd lo hi).all (frC W Hh xs)
def refB (W Hh : Int) (xs : List Int) (x0 y0 x1 y1 h m r g : Int) : Bool :=
 bif r == -1 then eh W Hh xs x0 y0 x1 y1 (aZ h m).1 (aZ h m).2.1 (aZ h m).2.2 (1024 - g) false
 else eh W Hh xs x0 y0 x1 y1 (aZ h m).1 (aZ h m).2.1 (aZ h m).2.2 (r - g) true || empB W Hh xs x0 y0 x1 y1 (aZ h m).1 (aZ h m).2.1 (aZ h m).2.2 (dT r g) (r + g)
def d6 (x0 y0 x1 y1 : Int) : Bool := btw x0 (-1048576) 1048576 && (btw y0 (-1048576) 1048576 && (btw x1 (-1048576) 1048576 && (btw y1 (-1048576) 1048576 && (btw (x1 - x0) 0 1024 && btw (y1 - y0) 0 1024))))
def badB (W Hh : Int) (xs : List Int) (x0 y0 x1 y1 h : Int) (s : List (Int × Int)) (g : Int) : Bool := d6 x0 y0 x1 y1 && s.any fun e => refB W Hh xs x0 y0 x1 y1 h e.1 e.2 g
theorem wc {x0 y0 x1 y1 : Int} : d6 x0 y0 x1 y1 = true ↔ ((-1048576 ≤ x0 ∧ x0 ≤ x1 ∧ x1 ≤ 1048576) ∧ -1048576 ≤ y0 ∧ y0 ≤ y1 ∧ y1 ≤ 1048576) ∧ x1 - x0 ≤ 1024 ∧ y1 - y0 ≤ 1024 := by
 unfold d6
 simp only [Bool.and_eq_true, bu]
 omega
def gx (W Hh : Int) (xs : List Int) (x y h : Int) (g : Int) (e : Int × Int) : Prop :=
 (¬ e.2 = -1 → (∀ c, atI W Hh xs c.1 c.2 = 2 → sqBf x y (aZ h e.1) (e.2 - g) c = false) ∧ ∃ c : Int × Int, ((-1024 ≤ c.1 ∧ c.1 ≤ 1024) ∧ -1024 ≤ c.2 ∧ c.2 ≤ 1024) ∧ atI W Hh xs c.1 c.2 = 2 ∧ eK x y (aZ h e.1) (dT e.2 g) (e.2 + g) c = true) ∧
 (e.2 = -1 → ∀ c, atI W Hh xs c.1 c.2 = 2 → eK x y (aZ h e.1) 0 (1024 - g) c = false)
theorem bel_two {W H x y : Int} {ks xs : List Int} (h : d5 ks xs) (k : atI W H ks x y = 2) : atI W H xs x y = 2 := by
 unfold atI at *
 split at k
 ·rename_i hi
  rw [if_pos hi]
  rcases h.2 (y * W + x).toNat with q | q
  ·rw [q] at k; cases k
  ·rw [← q]; exact k
 ·rename_i hi
  rw [if_neg hi]
theorem hcB_sq {op : Bool} {x y vx vy vd far cx cy : Int} : hcB op x y vx vy vd far cx cy = bif op then sqBf x y (vx, vy, vd) far (cx, cy) else eK x y (vx, vy, vd) 0 far (cx, cy) := by
 unfold hcB sqBf eK
 rw [show (cx + 1) * 64 = cx * 64 + 64 by omega, show (cy + 1) * 64 = cy * 64 + 64 by omega]
theorem h4_pt {op : Bool} {x0 y0 x1 y1 x y vx vy vd far cx cy : Int} (hx : x0 ≤ x ∧ x ≤ x1) (hy : y0 ≤ y ∧ y ≤ y1) (h : h4B op x0 y0 x1 y1 vx vy vd far cx cy = true) : hcB op x y vx vy vd far cx cy = true := by
 unfold h4B at h
 simp only [Bool.and_eq_true] at h
 obtain ⟨k1, k2, k3, k4⟩ := h
 unfold hcB at *
 cases op with
 | true =>
  simp only [cond_true] at *
  have p1 := dM k1
  have p2 := dM k2
  have p3 := dM k3
  have p4 := dM k4
  have hg := cA.1 p1.2.1
  have q1 := dj.1 hg.1
  have q4 := dj.1 (cA.1 p4.2.1).1
  exact wa p1.1 (cA.2 ⟨dj.2 (by omega), hg.2.1, hg.2.2⟩) (bef_box hx hy p1.2.2 p2.2.2 p3.2.2 p4.2.2)
 | false =>
  simp only [cond_false] at *
  have p1 := jC k1
  have p2 := jC k2
  have p3 := jC k3
  have p4 := jC k4
  have hg := cA.1 p1.2.1
  have q1 := dj.1 hg.1
  have q4 := dj.1 (cA.1 p4.2.1).1
  exact lN p1.1 (cA.2 ⟨dj.2 (by omega), hg.2.1, hg.2.2⟩) (mee_box4 hx hy p1.2.2 p2.2.2 p3.2.2 p4.2.2)
theorem hid_f {W Hh : Int} {ks xs : List Int} {x0 y0 x1 y1 x y far : Int} {v : Int × Int × Int} {op : Bool} (hk : d5 ks xs) (hx : x0 ≤ x ∧ x ≤ x1) (hy : y0 ≤ y ∧ y ≤ y1) (h : ∀ c, atI W Hh xs c.1 c.2 = 2 → (bif op then sqBf x y v far c else eK x y v 0 far c) = false) : eh W Hh ks x0 y0 x1 y1 v.1 v.2.1 v.2.2 far op = false := by
 rw [← Bool.not_eq_true]
 intro hb
 unfold eh at hb
 rw [Bool.and_eq_true, List.any_eq_true] at hb
 obtain ⟨-, c, -, hc⟩ := hb
 unfold fM at hc
 rw [Bool.and_eq_true, beq_iff_eq] at hc
 have k := h4_pt hx hy hc.2
 rw [hcB_sq] at k
 have q := h c (bel_two hk hc.1)
 rw [show (bif op then sqBf x y v far c else eK x y v 0 far c) = true from k] at q
 cases q
theorem ref_f {W Hh : Int} {ks xs : List Int} {x0 y0 x1 y1 x y h g : Int} {e : Int × Int} (hk : d5 ks xs) (hx : x0 ≤ x ∧ x ≤ x1) (hy : y0 ≤ y ∧ y ≤ y1) (ha : d6 x0 y0 x1 y1 = true) (hg : 1 ≤ g ∧ g ≤ 32) (he : dm e = true) (hP : gx W Hh xs x y h g e) : refB W Hh ks x0 y0 x1 y1 h e.1 e.2 g = false := by
 have hbe := e6.1 he
 unfold refB
 cases hr : (e.2 == -1) with
 | true =>
  have hr1 : e.2 = -1 := by simpa using hr
  exact hid_f hk hx hy (hP.2 hr1)
 | false =>
  have hr1 : ¬ e.2 = -1 := by simpa using hr
  obtain ⟨h1, c, hc1, hc2, hc3⟩ := hP.1 hr1
  rw [cond_false, Bool.or_eq_false_iff]
  refine ⟨hid_f hk hx hy h1, ?_⟩
  rw [← Bool.not_eq_true]
  intro hb
  unfold empB at hb
  rw [List.all_eq_true] at hb
  have had := wc.1 ha
  have hl0 : 0 ≤ dT e.2 g ∧ dT e.2 g ≤ e.2 + g ∧ e.2 + g ≤ 2048 := by unfold dT; split <;> omega
  obtain ⟨_, h2, n, m', k1, k2, k3, k4, k5⟩ := dA.1 hc3
  have hv := (cA.1 h2).2.1
  have hE := (sptE_0 (x0 := x0) (y0 := y0) (x1 := x1) (y1 := y1) (js.2 (by omega)) hv hl0 (by omega)).2
  have hm : c ∈ cM x0 y0 x1 y1 (aZ h e.1).1 (aZ h e.1).2.1 (aZ h e.1).2.2 (dT e.2 g) (e.2 + g) := by
   rw [hE]
   refine (iC (by omega) (by omega) hv hl0).2 ?_
   unfold cz dS
   simp only [Bool.and_eq_true]
   exact ⟨⟨bN.2 (by omega), bN.2 (by omega), bN.2 (by omega)⟩, dA.2 ⟨by omega, cA.2 ⟨dj.2 (by omega), hv, bN.2 (by omega)⟩, mee_box hx hy ⟨n, m', k1, k2, k3, k4, k5⟩⟩⟩
  have q := hb c hm
  unfold frC at q
  have q := vZ hk (show atI W Hh ks c.1 c.2 = 1 by simpa using q)
  rw [q] at hc2; cases hc2
theorem bad_f {W Hh : Int} {ks xs : List Int} {x0 y0 x1 y1 x y h g : Int} {s : List (Int × Int)} (hk : d5 ks xs) (hx : x0 ≤ x ∧ x ≤ x1) (hy : y0 ≤ y ∧ y ≤ y1) (hg : 1 ≤ g ∧ g ≤ 32) (hs : ∀ e ∈ s, dm e = true) (hP : ∀ e ∈ s, gx W Hh xs x y h g e) : badB W Hh ks x0 y0 x1 y1 h s g = false := by
 unfold badB
 cases ha : d6 x0 y0 x1 y1 with
 | false => rfl
 | true =>
  rw [Bool.true_and, List.any_eq_false]
  intro e he
  rw [ref_f hk hx hy ha hg (hs e he) (hP e he)]
  decide
def ldN (p : Nat → Bool) : Nat → Nat
 | 0 => 0
 | n + 1 => if ldN p n = n ∧ p n = true then n + 1 else ldN p n
def tlN (p : Nat → Bool) : Nat → Nat
 | 0 => 0
 | n + 1 => if p n = true then tlN p n else n + 1
theorem ldN_le (p : Nat → Bool) : ∀ n, ldN p n ≤ n
 | 0 => Nat.le_refl _
 | n + 1 => by have := ldN_le p n; unfold ldN; split <;> omega
theorem nr (p : Nat → Bool) : ∀ n k, k < ldN p n → p k = true
 | 0, k, h => by unfold ldN at h; omega
 | n + 1, k, h => by
  unfold ldN at h
  split at h
  ·rename_i q
   rcases Nat.lt_or_ge k n with hk | hk
   ·exact nr p n k (by omega)
   ·obtain rfl : k = n := by omega
    exact q.2
  ·exact nr p n k h
theorem mY {p : Nat → Bool} {i : Nat} : ∀ {n : Nat}, (∀ k, k < i → p k = true) → i ≤ n → (i = n ∨ p i = false) → ldN p n = i
 | 0, _, h, _ => by unfold ldN; omega
 | n + 1, h1, h2, h3 => by
  unfold ldN
  rcases Nat.lt_or_ge i (n + 1) with h | h
  ·have hp : p i = false := h3.resolve_left (by omega)
   have e := mY (n := n) h1 (by omega) (.inr hp)
   rw [e, if_neg]
   rintro ⟨rfl, q⟩
   rw [hp] at q; cases q
  ·obtain rfl : i = n + 1 := by omega
   have e := mY (p := p) (i := n) (n := n) (fun k hk => h1 k (by omega)) (Nat.le_refl _) (.inl rfl)
   rw [e, if_pos ⟨rfl, h1 n (by omega)⟩]
theorem ldN_n {p : Nat → Bool} {n k : Nat} (hk : k < n) (hp : p k = false) : ldN p n ≤ k := by
 rcases Nat.lt_or_ge k (ldN p n) with h | h
 ·have := nr p n k h; rw [hp] at this; cases this
 ·exact h
theorem ldN_at {p : Nat → Bool} : ∀ {n : Nat}, ldN p n < n → p (ldN p n) = false
 | n + 1, h => by
  unfold ldN at h ⊢
  split at h
  ·omega
  ·rename_i hn
   rw [if_neg hn]
   rcases Nat.lt_or_ge (ldN p n) n with q | q
   ·exact ldN_at q
   ·have e : ldN p n = n := by have := ldN_le p n; omega
    rw [e] at hn ⊢
    rw [← Bool.not_eq_true]
    exact fun k => hn ⟨rfl, k⟩
theorem tlN_le (p : Nat → Bool) : ∀ n, tlN p n ≤ n
 | 0 => Nat.le_refl _
 | n + 1 => by have := tlN_le p n; unfold tlN; split <;> omega
theorem tlN_lt {p : Nat → Bool} {k : Nat} (hp : p k = false) : ∀ {n : Nat}, k < n → k < tlN p n
 | n + 1, h => by
  unfold tlN
  split
  ·rename_i q
   refine tlN_lt hp ?_
   rcases Nat.lt_or_ge k n with h' | h'
   ·exact h'
   ·obtain rfl : k = n := by omega
    rw [hp] at q; cases q
  ·exact h
theorem tlN_eq {p : Nat → Bool} {j : Nat} (hj : 0 < j ∧ p (j - 1) = false) : ∀ {n : Nat}, j ≤ n → (∀ k, j ≤ k → k < n → p k = true) → tlN p n = j
 | 0, h, _ => by omega
 | n + 1, h, h1 => by
  unfold tlN
  rcases Nat.lt_or_ge n j with q | q
  ·obtain rfl : j = n + 1 := by omega
   rw [if_neg (by rw [show p n = false from hj.2]; decide)]
  ·rw [if_pos (h1 n q (by omega))]
   exact tlN_eq hj q (fun k a b => h1 k a (by omega))
def tX0 (b : T6) : Int := if b.1 < 0 then 0 else b.1
def tY0 (b : T6) : Int := if b.2.1 < 0 then 0 else b.2.1
def tX1 (W : Int) (b : T6) : Int := if 64 * W < b.2.2.1 then 64 * W else b.2.2.1
def tY1 (Hh : Int) (b : T6) : Int := if 64 * Hh < b.2.2.2.1 then 64 * Hh else b.2.2.2.1
def tP (W Hh : Int) (xs : List Int) (b : T6) (s : List (Int × Int)) (g : Int) (k : Nat) : Bool := badB W Hh xs (tX0 b) (tY0 b) (tX1 W b) (tY1 Hh b) (gi (mkB b) k) s g
def tI (W Hh : Int) (xs : List Int) (b : T6) (s : List (Int × Int)) (g : Int) : Nat := ldN (tP W Hh xs b s g) (mkB b).length
def tJ (W Hh : Int) (xs : List Int) (b : T6) (s : List (Int × Int)) (g : Int) : Nat := tlN (tP W Hh xs b s g) (mkB b).length
def tOk (W Hh : Int) (xs : List Int) (b : T6) (s : List (Int × Int)) (g : Int) : Bool := !decide (tX1 W b < tX0 b) && (!decide (tY1 Hh b < tY0 b) && decide (tI W Hh xs b s g < (mkB b).length))
def tB (W Hh : Int) (xs : List Int) (b : T6) (s : List (Int × Int)) (g : Int) : T6 := (tX0 b, tY0 b, tX1 W b, tY1 Hh b, gi (mkB b) (tI W Hh xs b s g), (((tJ W Hh xs b s g - tI W Hh xs b s g : Nat)) : Int))
def InP (b : T6) (x y h : Int) : Prop := (b.1 ≤ x ∧ x ≤ b.2.2.1) ∧ (b.2.1 ≤ y ∧ y ≤ b.2.2.2.1) ∧ dP b.2.2.2.2.1 b.2.2.2.2.2 h
theorem mkB_n {b : T6} : (mkB b).length = b.2.2.2.2.2.toNat := ew _ _
theorem inP_idx {b : T6} {x y h : Int} (hb : bD b = true) (hh : 0 ≤ h ∧ h ≤ 255) (k : InP b x y h) : ∃ j : Nat, j < (mkB b).length ∧ h = gi (mkB b) j := by
 have ha := bH.1 (bL.1 hb).2.2
 obtain ⟨-, -, hi⟩ := k
 unfold dP at hi
 refine ⟨((h - b.2.2.2.2.1) % 256).toNat, by rw [mkB_n]; omega, ?_⟩
 rw [mX (by rw [mkB_n]; omega)]
 omega
theorem cov_in {l : List T6} {x y h : Int} (hh : 0 ≤ h ∧ h ≤ 255) (k : covB l x y h = true) : ∃ b ∈ l, InP b x y h := by
 obtain ⟨b, hb, h1, h2, h3, -⟩ := covB_iff hh k
 exact ⟨b, hb, h1, h2, h3⟩
theorem in_cov {l : List T6} {x y h : Int} (hh : 0 ≤ h ∧ h ≤ 255) (hS : ∀ b ∈ l, bD b = true) (k : ∃ b ∈ l, InP b x y h) : covB l x y h = true ∧ CovP l x y h := by
 obtain ⟨b, hb, h1, h2, h3⟩ := k
 have hv := hS b hb
 have hbx := (bL.1 hv).2.2
 have ha := bH.1 hbx
 constructor
 ·unfold covB
  rw [List.any_eq_true]
  refine ⟨b, hb, ?_⟩
  unfold hbB hsgB
  unfold dP at h3
  rw [show bxB b.1 b.2.1 b.2.2.1 b.2.2.2.1 b.2.2.2.2.1 b.2.2.2.2.2 = true from hv, hbx, hZ (by omega) (by omega)]
  simp only [Bool.true_and, Bool.and_eq_true, decide_eq_true_eq]
  omega
 ·obtain ⟨j, hj, e⟩ := inP_idx hv hh ⟨h1, h2, h3⟩
  exact ⟨b, hb, h1, h2, j, hj, e⟩
theorem tB_ok {W Hh : Int} {xs : List Int} {b : T6} {s : List (Int × Int)} {g : Int} (hW : 1 ≤ W ∧ W ≤ 64) (hH : 1 ≤ Hh ∧ Hh ≤ 64) (hb : bD b = true) (h : tOk W Hh xs b s g = true) : bD (tB W Hh xs b s g) = true ∧ tI W Hh xs b s g < tJ W Hh xs b s g ∧ tJ W Hh xs b s g ≤ (mkB b).length := by
 unfold tOk at h
 simp only [Bool.and_eq_true, Bool.not_eq_true', decide_eq_false_iff_not, decide_eq_true_eq] at h
 obtain ⟨h1, h2, h3⟩ := h
 have hb6 := bL.1 hb
 have ha := bH.1 hb6.2.2
 have hf : tP W Hh xs b s g (tI W Hh xs b s g) = false := ldN_at h3
 have h4 : tI W Hh xs b s g < tJ W Hh xs b s g := tlN_lt hf h3
 have h5 : tJ W Hh xs b s g ≤ (mkB b).length := tlN_le _ _
 refine ⟨?_, h4, h5⟩
 have hgi := mX (b := b) h3
 rw [mkB_n] at h3 h5
 unfold bD tB
 simp only
 refine bL.2 ⟨?_, ?_, bH.2 ?_⟩
 ·have q1 : (tX0 b = 0 ∧ b.1 < 0) ∨ (tX0 b = b.1 ∧ 0 ≤ b.1) := by unfold tX0; split <;> omega
  have q2 : (tX1 W b = 64 * W ∧ 64 * W < b.2.2.1) ∨ (tX1 W b = b.2.2.1 ∧ b.2.2.1 ≤ 64 * W) := by unfold tX1; split <;> omega
  omega
 ·have q1 : (tY0 b = 0 ∧ b.2.1 < 0) ∨ (tY0 b = b.2.1 ∧ 0 ≤ b.2.1) := by unfold tY0; split <;> omega
  have q2 : (tY1 Hh b = 64 * Hh ∧ 64 * Hh < b.2.2.2.1) ∨ (tY1 Hh b = b.2.2.2.1 ∧ b.2.2.2.1 ≤ 64 * Hh) := by unfold tY1; split <;> omega
  omega
 ·rw [hgi]; omega
theorem trim_keep {W Hh : Int} {ks xs : List Int} {b : T6} {s : List (Int × Int)} {x y h g : Int} (hk : d5 ks xs) (hx : 0 ≤ x ∧ x ≤ 64 * W) (hy : 0 ≤ y ∧ y ≤ 64 * Hh) (hh : 0 ≤ h ∧ h ≤ 255) (hb : bD b = true) (hg : 1 ≤ g ∧ g ≤ 32) (hs : ∀ e ∈ s, dm e = true) (hP : ∀ e ∈ s, gx W Hh xs x y h g e) (hi : InP b x y h) : tOk W Hh ks b s g = true ∧ InP (tB W Hh ks b s g) x y h := by
 obtain ⟨j, hj, e⟩ := inP_idx hb hh hi
 obtain ⟨h1, h2, h3⟩ := hi
 have x0 : tX0 b ≤ x ∧ x ≤ tX1 W b := by unfold tX0 tX1; split <;> split <;> omega
 have y0 : tY0 b ≤ y ∧ y ≤ tY1 Hh b := by unfold tY0 tY1; split <;> split <;> omega
 have hp : tP W Hh ks b s g j = false := by
  unfold tP
  rw [← e]
  exact bad_f hk x0 y0 hg hs hP
 have hI : tI W Hh ks b s g ≤ j := ldN_n hj hp
 have hJ : j < tJ W Hh ks b s g := tlN_lt hp hj
 have hJ2 : tJ W Hh ks b s g ≤ (mkB b).length := tlN_le _ _
 constructor
 ·unfold tOk
  rw [decide_eq_false (show ¬ tX1 W b < tX0 b by omega), decide_eq_false (show ¬ tY1 Hh b < tY0 b by omega), decide_eq_true (show tI W Hh ks b s g < (mkB b).length by omega)]
  rfl
 ·refine ⟨x0, y0, ?_⟩
  have ha := bH.1 (bL.1 hb).2.2
  have g1 := mX hj
  have g2 := mX (b := b) (j := tI W Hh ks b s g) (by omega)
  rw [mkB_n] at hj hJ2
  unfold dP tB
  simp only
  rw [e, g1, g2]
  omega
def dn (n u : Int) : Int := if n = 1 then 0 else n * u
def gk (b : T6) : Int := dn (b.2.2.1 - b.1 + 1) 1
def gO (b : T6) : Int := dn (b.2.2.2.1 - b.2.1 + 1) 1
def splC (b : T6) : Int := dn b.2.2.2.2.2 8
def dN (b : T6) : Int := if bD b = true then (b.2.2.1 - b.1 + 1) * (b.2.2.2.1 - b.2.1 + 1) * b.2.2.2.2.2 else 0
def dc (b : T6) : Bool := !decide (dN b < 2)
def dF (b : T6) : T6 := if gO b ≤ gk b ∧ splC b ≤ gk b then (b.1, b.2.1, b.1 + (b.2.2.1 - b.1 + 1) / 2 - 1, b.2.2.2.1, b.2.2.2.2.1, b.2.2.2.2.2)
 else if splC b ≤ gO b then (b.1, b.2.1, b.2.2.1, b.2.1 + (b.2.2.2.1 - b.2.1 + 1) / 2 - 1, b.2.2.2.2.1, b.2.2.2.2.2)
 else (b.1, b.2.1, b.2.2.1, b.2.2.2.1, b.2.2.2.2.1, b.2.2.2.2.2 / 2)
def dG (b : T6) : T6 := if gO b ≤ gk b ∧ splC b ≤ gk b then (b.1 + (b.2.2.1 - b.1 + 1) / 2, b.2.1, b.2.2.1, b.2.2.2.1, b.2.2.2.2.1, b.2.2.2.2.2)
 else if splC b ≤ gO b then (b.1, b.2.1 + (b.2.2.2.1 - b.2.1 + 1) / 2, b.2.2.1, b.2.2.2.1, b.2.2.2.2.1, b.2.2.2.2.2)
 else (b.1, b.2.1, b.2.2.1, b.2.2.2.1, (b.2.2.2.2.1 + b.2.2.2.2.2 / 2) % 256, b.2.2.2.2.2 - b.2.2.2.2.2 / 2)
theorem splS_1 {n : Int} (h : 1 ≤ n) : (dn n 1 = 0 ∧ n = 1) ∨ (dn n 1 = n ∧ 2 ≤ n) := by unfold dn; split <;> omega
theorem splS_8 {n : Int} (h : 1 ≤ n) : (dn n 8 = 0 ∧ n = 1) ∨ (dn n 8 = 8 * n ∧ 2 ≤ n) := by unfold dn; split <;> omega
theorem spl_ok {b : T6} (hb : bD b = true) (h : dc b = true) : bD (dF b) = true ∧ bD (dG b) = true ∧ ∀ x y h : Int, InP b x y h → InP (dF b) x y h ∨ InP (dG b) x y h := by
 have hb6 := bL.1 hb
 have ha := bH.1 hb6.2.2
 have hA : (gk b = 0 ∧ b.2.2.1 - b.1 + 1 = 1) ∨ (gk b = b.2.2.1 - b.1 + 1 ∧ 2 ≤ b.2.2.1 - b.1 + 1) := splS_1 (by omega)
 have hB : (gO b = 0 ∧ b.2.2.2.1 - b.2.1 + 1 = 1) ∨ (gO b = b.2.2.2.1 - b.2.1 + 1 ∧ 2 ≤ b.2.2.2.1 - b.2.1 + 1) := splS_1 (by omega)
 have hC : (splC b = 0 ∧ b.2.2.2.2.2 = 1) ∨ (splC b = 8 * b.2.2.2.2.2 ∧ 2 ≤ b.2.2.2.2.2) := splS_8 (by omega)
 have hn : ¬ (b.2.2.1 - b.1 + 1 = 1 ∧ b.2.2.2.1 - b.2.1 + 1 = 1 ∧ b.2.2.2.2.2 = 1) := fun ⟨q1, q2, q3⟩ => by
  unfold dc dN at h
  rw [if_pos hb, q1, q2, q3] at h
  revert h; decide
 unfold dF dG
 split
 ·rename_i hc
  refine ⟨?_, ?_, fun x y h ⟨k1, k2, k3⟩ => ?_⟩
  ·exact bL.2 ⟨by simp only; omega, hb6.2.1, hb6.2.2⟩
  ·exact bL.2 ⟨by simp only; omega, hb6.2.1, hb6.2.2⟩
  ·rcases Int.lt_or_le x (b.1 + (b.2.2.1 - b.1 + 1) / 2) with q | q
   ·exact .inl ⟨by simp only; omega, k2, k3⟩
   ·exact .inr ⟨by simp only; omega, k2, k3⟩
 ·split
  ·rename_i hc0 hc
   refine ⟨?_, ?_, fun x y h ⟨k1, k2, k3⟩ => ?_⟩
   ·exact bL.2 ⟨hb6.1, by simp only; omega, hb6.2.2⟩
   ·exact bL.2 ⟨hb6.1, by simp only; omega, hb6.2.2⟩
   ·rcases Int.lt_or_le y (b.2.1 + (b.2.2.2.1 - b.2.1 + 1) / 2) with q | q
    ·exact .inl ⟨k1, by simp only; omega, k3⟩
    ·exact .inr ⟨k1, by simp only; omega, k3⟩
  ·rename_i hc0 hc
   refine ⟨?_, ?_, fun x y h ⟨k1, k2, k3⟩ => ?_⟩
   ·exact bL.2 ⟨hb6.1, hb6.2.1, bH.2 (by simp only; omega)⟩
   ·exact bL.2 ⟨hb6.1, hb6.2.1, bH.2 (by simp only; omega)⟩
   ·unfold dP at k3
    rcases Int.lt_or_le ((h - b.2.2.2.2.1) % 256) (b.2.2.2.2.2 / 2) with q | q
    ·exact .inl ⟨k1, k2, by unfold dP; simp only; omega⟩
    ·exact .inr ⟨k1, k2, by unfold dP; simp only; omega⟩
def rfn (W Hh : Int) (xs : List Int) (s : List (Int × Int)) (g : Int) : Nat → List T6 → Nat → List T6 → List T6
 | 0, _, _, O => O
 | _ + 1, [], _, O => O
 | n + 1, b :: Q, k, O => if tOk W Hh xs b s g = true then (if 0 < k ∧ dc (tB W Hh xs b s g) = true then rfn W Hh xs s g n (Q ++ [dF (tB W Hh xs b s g), dG (tB W Hh xs b s g)]) (k - 1) O else rfn W Hh xs s g n Q k (O ++ [tB W Hh xs b s g])) else rfn W Hh xs s g n Q k O
def bE (W Hh : Int) (xs : List Int) (l : List T6) (s : List (Int × Int)) (g : Int) (k : Nat) : List T6 := rfn W Hh xs s g (l.length + 2 * k) l k []
theorem gD {W Hh : Int} {xs : List Int} {s : List (Int × Int)} {g : Int} (hW : 1 ≤ W ∧ W ≤ 64) (hH : 1 ≤ Hh ∧ Hh ≤ 64) : ∀ (n : Nat) (Q : List T6) (k : Nat) (O : List T6), n = Q.length + 2 * k → (∀ b ∈ Q, bD b = true) → (∀ b ∈ O, bD b = true) → (∀ b ∈ rfn W Hh xs s g n Q k O, bD b = true) ∧ (rfn W Hh xs s g n Q k O).length ≤ Q.length + k + O.length
 | 0, Q, k, O, hn, hQ, hO => ⟨hO, by unfold rfn; omega⟩
 | n + 1, [], k, O, hn, hQ, hO => ⟨hO, by unfold rfn; omega⟩
 | n + 1, b :: Q, k, O, hn, hQ, hO => by
  have hb := hQ b (List.mem_cons_self ..)
  have hQ' : ∀ b ∈ Q, bD b = true := fun c hc => hQ c (List.mem_cons_of_mem _ hc)
  rw [List.length_cons] at hn ⊢
  unfold rfn
  split
  ·rename_i ht
   have hb' := (tB_ok hW hH hb ht).1
   split
   ·rename_i h2
    have hs := spl_ok hb' h2.2
    have ih := gD hW hH (xs := xs) (s := s) (g := g) n (Q ++ [dF (tB W Hh xs b s g), dG (tB W Hh xs b s g)]) (k - 1) O (by rw [List.length_append]; simp only [List.length_cons, List.length_nil]; omega) (fun c hc => by
     rcases List.mem_append.1 hc with hc | hc
     ·exact hQ' c hc
     ·rcases List.mem_cons.1 hc with hc | hc
      ·rw [hc]; exact hs.1
      ·rw [List.mem_singleton.1 hc]; exact hs.2.1) hO
    refine ⟨ih.1, ?_⟩
    have := ih.2
    rw [List.length_append] at this
    simp only [List.length_cons, List.length_nil] at this
    omega
   ·have hO' : ∀ c ∈ O ++ [tB W Hh xs b s g], bD c = true := fun c hc => by
     rcases List.mem_append.1 hc with hc | hc
     ·exact hO c hc
     ·rw [List.mem_singleton.1 hc]; exact hb'
    rcases Nat.eq_zero_or_pos n with hn0 | hn0
    ·subst hn0
     refine ⟨hO', ?_⟩
     unfold rfn
     rw [List.length_append]; simp only [List.length_cons, List.length_nil]; omega
    ·have ih := gD hW hH (xs := xs) (s := s) (g := g) n Q k (O ++ [tB W Hh xs b s g]) (by omega) hQ' hO'
     refine ⟨ih.1, ?_⟩
     have := ih.2
     rw [List.length_append] at this
     simp only [List.length_cons, List.length_nil] at this
     omega
  ·have ih := gD hW hH (xs := xs) (s := s) (g := g) n Q k O (by omega) hQ' hO
   exact ⟨ih.1, by have := ih.2; omega⟩
theorem jD {W Hh : Int} {ks xs : List Int} {s : List (Int × Int)} {x y h g : Int} (hW : 1 ≤ W ∧ W ≤ 64) (hH : 1 ≤ Hh ∧ Hh ≤ 64) (hk : d5 ks xs) (hx : 0 ≤ x ∧ x ≤ 64 * W) (hy : 0 ≤ y ∧ y ≤ 64 * Hh) (hh : 0 ≤ h ∧ h ≤ 255) (hg : 1 ≤ g ∧ g ≤ 32) (hs : ∀ e ∈ s, dm e = true) (hP : ∀ e ∈ s, gx W Hh xs x y h g e) : ∀ (n : Nat) (Q : List T6) (k : Nat) (O : List T6), n = Q.length + 2 * k → (∀ b ∈ Q, bD b = true) → ((∃ b ∈ Q, InP b x y h) ∨ ∃ b ∈ O, InP b x y h) → ∃ b ∈ rfn W Hh ks s g n Q k O, InP b x y h
 | 0, Q, k, O, hn, hQ, hI => by
  have : Q = [] := List.eq_nil_of_length_eq_zero (by omega)
  subst this
  exact hI.resolve_left (by simp)
 | n + 1, [], k, O, hn, hQ, hI => hI.resolve_left (by simp)
 | n + 1, b :: Q, k, O, hn, hQ, hI => by
  have hb := hQ b (List.mem_cons_self ..)
  have hQ' : ∀ b ∈ Q, bD b = true := fun c hc => hQ c (List.mem_cons_of_mem _ hc)
  rw [List.length_cons] at hn
  have keep := fun hi => trim_keep hk hx hy hh hb hg hs hP hi
  unfold rfn
  split
  ·rename_i ht
   have hb' := (tB_ok hW hH hb ht).1
   split
   ·rename_i h2
    have hs2 := spl_ok hb' h2.2
    refine jD hW hH hk hx hy hh hg hs hP n (Q ++ [dF (tB W Hh ks b s g), dG (tB W Hh ks b s g)]) (k - 1) O (by rw [List.length_append]; simp only [List.length_cons, List.length_nil]; omega) (fun c hc => by
     rcases List.mem_append.1 hc with hc | hc
     ·exact hQ' c hc
     ·rcases List.mem_cons.1 hc with hc | hc
      ·rw [hc]; exact hs2.1
      ·rw [List.mem_singleton.1 hc]; exact hs2.2.1) ?_
    rcases hI with ⟨c, hc, hi⟩ | hI
    ·rcases List.mem_cons.1 hc with hc | hc
     ·rw [hc] at hi
      rcases hs2.2.2 x y h (keep hi).2 with q | q
      ·exact .inl ⟨_, List.mem_append_right _ (List.mem_cons_self ..), q⟩
      ·exact .inl ⟨_, List.mem_append_right _ (List.mem_cons_of_mem _ (List.mem_singleton.2 rfl)), q⟩
     ·exact .inl ⟨c, List.mem_append_left _ hc, hi⟩
    ·exact .inr hI
   ·have hI' : (∃ b ∈ Q, InP b x y h) ∨ ∃ c ∈ O ++ [tB W Hh ks b s g], InP c x y h := by
     rcases hI with ⟨c, hc, hi⟩ | ⟨c, hc, hi⟩
     ·rcases List.mem_cons.1 hc with hc | hc
      ·rw [hc] at hi
       exact .inr ⟨_, List.mem_append_right _ (List.mem_singleton.2 rfl), (keep hi).2⟩
      ·exact .inl ⟨c, hc, hi⟩
     ·exact .inr ⟨c, List.mem_append_left _ hc, hi⟩
    exact jD hW hH hk hx hy hh hg hs hP n Q k _ (by omega) hQ' hI'
  ·rename_i ht
   refine jD hW hH hk hx hy hh hg hs hP n Q k O (by omega) hQ' ?_
   rcases hI with ⟨c, hc, hi⟩ | hI
   ·rcases List.mem_cons.1 hc with hc | hc
    ·rw [hc] at hi
     exact absurd (keep hi).1 ht
    ·exact .inl ⟨c, hc, hi⟩
   ·exact .inr hI
theorem wF {W Hh : Int} {ks xs : List Int} {l : List T6} {sc : List (Int × Int)} {g x y h : Int} (hR : db W Hh ks l sc g = true) (hk : d5 ks xs) (hV : bW W Hh xs = true) (hB : ∀ i, i < xs.length → 1 ≤ gi xs i ∧ gi xs i ≤ 2) (hc : CovP l x y h) (hP : ∀ e ∈ sc, gx W Hh xs x y h g e) : ∃ o, lnO W Hh ks l sc g = some o ∧ d5 o xs := by
 obtain ⟨hVk, hl0, hS, hsB, hg⟩ := e7.1 hR
 have hv := bM.1 hV
 obtain ⟨b, hb, hx, hy, j, hj, rfl⟩ := hc
 unfold lnO
 by_cases ht : ez l = true
 ·rw [if_pos ht]
  obtain ⟨q, hq, hqB⟩ := rm (t := xs) (W := W) (H := Hh) hv.len (l := ba W Hh l sc g) (o := ks) (fun c hc => by
   obtain ⟨-, hin, e, he, hp⟩ := (mem_all hR).1 hc
   refine ⟨hin, ?_⟩
   have hlt := np hv.len hin
   have hne : ¬ atI W Hh xs c.1 c.2 = 2 := fun hw => by
    have k2 := psC_pt hS hb hx hy hj hp
    have k1 : sqBf x y (aZ (gi (mkB b) j) e.1) (aE e.2 g) c = false := by
     by_cases hr : e.2 = -1
     ·have e1 : aE e.2 g = 1024 - g := if_pos hr
      rw [e1] at k2 ⊢
      rw [← Bool.not_eq_true]
      intro hbf
      have q := (hP e he).2 hr c hw
      have p := dM hbf
      obtain ⟨n, m, a1, a2, a3, a4⟩ := p.2.2
      have : eK x y (aZ (gi (mkB b) j) e.1) 0 (1024 - g) c = true := lN p.1 p.2.1 ⟨n, m, a1, a2, Int.le_of_lt a3, a4⟩
      rw [this] at q; cases q
     ·have e1 : aE e.2 g = e.2 - g := if_neg hr
      rw [e1]
      exact ((hP e he).1 hr).1 c hw
    rw [k2] at k1; cases k1
   have hb12 := hB _ hlt
   rw [at_in hin] at hne ⊢
   omega) hk
  rw [hq]
  obtain ⟨q2, hq2, hqB2⟩ := rn (t := xs) (W := W) (H := Hh) hv.len (l := gM l sc g) (o := q) (fun s hs => by
   obtain ⟨e, he, rfl⟩ := List.mem_map.1 hs
   obtain ⟨he1, he2⟩ := List.mem_filter.1 he
   have hr1 : ¬ e.2 = -1 := by simpa using he2
   have hbe := e6.1 ((da.1 hsB).2 e he1)
   obtain ⟨-, c, hcW, hc2, hcm⟩ := (hP e he1).1 hr1
   exact ⟨c, sus_pt hS ht (by omega) hg hb hx hy hj hcW hcm, hc2⟩) hqB
  exact ⟨q2, hq2, hqB2⟩
 ·rw [if_neg ht]
  exact ⟨ks, rfl, hk⟩
open Go.RowKit
theorem lwD_pos {n d : Int} (hd : 0 < d) : 0 < lwD n d := by
 have hg := kM (n := n) hd
 unfold lwD
 obtain ⟨b, hb⟩ : (Int.gcd n d : Int) ∣ d := Int.gcd_dvd_right ..
 generalize (Int.gcd n d : Int) = g at *
 subst hb
 rw [Int.mul_ediv_cancel_left _ (by omega)]
 rcases Int.lt_or_le 0 b with h | h
 ·exact h
 ·have := Int.mul_nonpos_of_nonneg_of_nonpos (show 0 ≤ g by omega) h; omega
def peS (px py vx vy : Int) (c : Int × Int) : Fr2 × Fr2 := thS px py vx vy (c.1 * 64) (c.2 * 64) (c.1 * 64 + 64) (c.2 * 64 + 64)
def peN (px py vx vy vd : Int) (c : Int × Int) : Int := lwN ((peS px py vx vy c).1.1 * vd) (peS px py vx vy c).1.2
def peD (px py vx vy vd : Int) (c : Int × Int) : Int := lwD ((peS px py vx vy c).1.1 * vd) (peS px py vx vy c).1.2
def peC (px py vx vy vd : Int) (c : Int × Int) : Int × Int := (peN px py vx vy vd c, peD px py vx vy vd c)
def onC (px py vx vy vd : Int) (c : Int × Int) : Bool := thO px py vx vy vd (c.1 * 64) (c.2 * 64) (c.1 * 64 + 64) (c.2 * 64 + 64)
def wlB (W Hh : Int) (xs : List Int) (c : Int × Int) : Bool := atI W Hh xs c.1 c.2 == 2
theorem gl {px py vx vy : Int} {c : Int × Int} : 0 < (peS px py vx vy c).1.2 := gC.1
theorem nt {px py vx vy vd : Int} (c : Int × Int) : 0 < (peC px py vx vy vd c).2 := lwD_pos gl
theorem on_nn {px py vx vy vd : Int} {c : Int × Int} (h : onC px py vx vy vd c = true) : 0 ≤ (peS px py vx vy c).1.1 ∧ dk px py vx vy (c.1 * 64) (c.2 * 64) (c.1 * 64 + 64) (c.2 * 64 + 64) (peS px py vx vy c).1.1 (peS px py vx vy c).1.2 := by
 obtain ⟨hg, hb⟩ := iP h
 have k := (kJ gC.1 hb).1 (th_lo (eF hg).2 hb)
 exact ⟨k.1.1, k.2⟩
theorem kR {px py vx vy vd : Int} {c : Int × Int} (h : onC px py vx vy vd c = true) : 0 ≤ peN px py vx vy vd c ∧ 0 < peD px py vx vy vd c ∧ peD px py vx vy vd c ≤ 67108864 ∧ (0 ≤ (peS px py vx vy c).1.1 ∧ (peS px py vx vy c).1.1 ≤ 8388608) ∧ 0 < (peS px py vx vy c).1.2 ∧ (peS px py vx vy c).1.2 ≤ 67108864 := by
 obtain ⟨hg, hb⟩ := iP h
 have n0 := (on_nn h).1
 have hv := bh.1 (cA.1 hg).2.1
 obtain ⟨⟨b1, b2⟩, b3, b4⟩ := (kh hg).2.1
 have hp : 0 < (peS px py vx vy c).1.2 := gl
 have n1 : (peS px py vx vy c).1.1 ≤ 8388608 := b2
 have n2 : (peS px py vx vy c).1.2 ≤ 67108864 := b4
 have m1 := bS (a := (peS px py vx vy c).1.1) (b := vd) (A := 8388608) (B := 67108864) (by omega) (by omega)
 have m2 := Int.mul_nonneg n0 (show 0 ≤ vd by omega)
 have k := lw_bd (n := (peS px py vx vy c).1.1 * vd) (d := (peS px py vx vy c).1.2) (B := 562949953421312) (by omega) hp
 exact ⟨k.1.1, k.2.1, Int.le_trans k.2.2 n2, ⟨n0, n1⟩, hp, n2⟩
theorem me_on {x y hi : Int} {v : Int × Int × Int} {c : Int × Int} (h : eK x y v 0 hi c = true) : onC x y v.1 v.2.1 v.2.2 c = true ∧ peN x y v.1 v.2.1 v.2.2 c ≤ hi * peD x y v.1 v.2.1 v.2.2 c := by
 unfold eK dD ga at h
 simp only [Bool.and_eq_true, decide_eq_true_eq] at h
 obtain ⟨-, -, -, hg, hb, -, hl⟩ := h
 refine ⟨?_, (lw_le gl).1.2 hl⟩
 unfold onC thO; rw [hg, hb]; rfl
theorem on_me {x y lo hi : Int} {v : Int × Int × Int} {c : Int × Int} (h : onC x y v.1 v.2.1 v.2.2 c = true) (h0 : 0 ≤ lo ∧ lo ≤ hi ∧ hi ≤ 65536) (h1 : lo * peD x y v.1 v.2.1 v.2.2 c ≤ peN x y v.1 v.2.1 v.2.2 c) (h2 : peN x y v.1 v.2.1 v.2.2 c ≤ hi * peD x y v.1 v.2.1 v.2.2 c) : eK x y v lo hi c = true := by
 have k := on_nn h
 exact dA.2 ⟨h0, (iP h).1, _, _, k.1, gl, (lw_le gl).2.1 h1, (lw_le gl).1.1 h2, k.2⟩
theorem bf_on {x y far : Int} {v : Int × Int × Int} {c : Int × Int} (h : sqBf x y v far c = true) : onC x y v.1 v.2.1 v.2.2 c = true ∧ peN x y v.1 v.2.1 v.2.2 c < far * peD x y v.1 v.2.1 v.2.2 c ∧ 0 ≤ far := by
 unfold sqBf c6 bfrB at h
 simp only [Bool.and_eq_true, decide_eq_true_eq] at h
 obtain ⟨h0, -, hg, hb, hl⟩ := h
 refine ⟨?_, (lw_lt gl).2 hl, h0⟩
 unfold onC thO; rw [hg, hb]; rfl
theorem ray_near {px py vx vy vd hi x0 y0 x1 y1 n m : Int} (hn : 0 ≤ n) (hm : 0 < m) (h : n * vd ≤ hi * m) (hx : -vd ≤ vx ∧ vx ≤ vd) (hy : -vd ≤ vy ∧ vy ≤ vd) (hr : dk px py vx vy x0 y0 x1 y1 n m) : (x0 ≤ px + hi ∧ px - hi ≤ x1) ∧ y0 ≤ py + hi ∧ py - hi ≤ y1 := by
 have one : ∀ {p v a b : Int}, -vd ≤ v ∧ v ≤ vd → m * a ≤ m * p + n * v → m * p + n * v ≤ m * b → a ≤ p + hi ∧ p - hi ≤ b := fun {p v a b} hv k1 k2 => by
  have a1 := Int.mul_le_mul_of_nonneg_left hv.2 hn
  have a2 := Int.mul_le_mul_of_nonneg_left hv.1 hn
  have e0 : n * -vd = -(n * vd) := Int.mul_neg _ _
  have e1 : m * (p + hi) = m * p + hi * m := by grind
  have e2 : m * (p - hi) = m * p - hi * m := by grind
  exact ⟨Int.le_of_mul_le_mul_left (by omega) hm, Int.le_of_mul_le_mul_left (by omega) hm⟩
 exact ⟨one hx hr.1.1 hr.1.2, one hy hr.2.1 hr.2.2⟩
theorem nu {x y hi lo : Int} {v : Int × Int × Int} {c : Int × Int} (h : eK x y v lo hi c = true) : (c.1 * 64 ≤ x + hi ∧ x - hi ≤ c.1 * 64 + 64) ∧ c.2 * 64 ≤ y + hi ∧ y - hi ≤ c.2 * 64 + 64 := by
 obtain ⟨-, hg, n, m, k1, k2, -, k4, k5⟩ := dA.1 h
 have hv := bh.1 (cA.1 hg).2.1
 exact ray_near k1 k2 k4 (by omega) (by omega) k5
theorem gm {x y most : Int} {v : Int × Int × Int} {c : Int × Int} (hx : -1048576 ≤ x ∧ x ≤ 1048576) (hy : -1048576 ≤ y ∧ y ≤ 1048576) (hv : cZ v.1 v.2.1 v.2.2 = true) (hm : 0 ≤ most ∧ most ≤ 2048) : c ∈ trL x y v.1 v.2.1 v.2.2 0 most ↔ eK x y v 0 most c = true := by
 rw [(trE_0 (ge.2 ⟨hx, hy⟩) hv ⟨Int.le_refl _, hm.1, hm.2⟩).2, iC (by omega) (by omega) hv ⟨Int.le_refl _, hm.1, hm.2⟩]
 constructor
 ·intro h
  have hc := swp_bd h
  unfold cz dS at h
  simp only [Bool.and_eq_true, bN] at h
  obtain ⟨⟨k1, -, k3⟩, k4⟩ := h
  obtain ⟨-, -, n, m, q1, q2, q3, q4, q5⟩ := dA.1 k4
  exact dA.2 ⟨by omega, cA.2 ⟨dj.2 (by omega), hv, bN.2 (by omega)⟩, n, m, q1, q2, q3, q4, ray_sh.2 q5⟩
 ·intro h
  have hn := nu h
  obtain ⟨-, -, n, m, q1, q2, q3, q4, q5⟩ := dA.1 h
  unfold cz dS
  simp only [Bool.and_eq_true]
  exact ⟨⟨bN.2 (by omega), bN.2 (by omega), bN.2 (by omega)⟩, dA.2 ⟨by omega, cA.2 ⟨dj.2 (by omega), hv, bN.2 (by omega)⟩, n, m, q1, q2, q3, q4, ray_sh.1 q5⟩⟩
def fpA (W Hh : Int) (xs : List Int) (px py vx vy vd most : Int) (i : Nat) : Option (Int × Int) := fsF (wlB W Hh xs) (peC px py vx vy vd) ((trL px py vx vy vd 0 most).take i)
def fpZ (W Hh : Int) (xs : List Int) (px py vx vy vd most : Int) : Option (Int × Int) := fpA W Hh xs px py vx vy vd most (trL px py vx vy vd 0 most).length
def fpN (px py vx vy vd : Int) (s : Option (Int × Int)) : Int := match s with | none => 0 | some c => peN px py vx vy vd c
def fpD (px py vx vy vd : Int) (s : Option (Int × Int)) : Int := match s with | none => 0 | some c => peD px py vx vy vd c
theorem fpA_0 {W Hh : Int} {xs : List Int} {px py vx vy vd most : Int} : fpA W Hh xs px py vx vy vd most 0 = none := rfl
theorem fpA_s {W Hh : Int} {xs : List Int} {px py vx vy vd most : Int} {i : Nat} (hi : i < (trL px py vx vy vd 0 most).length) : fpA W Hh xs px py vx vy vd most (i + 1) = ee (wlB W Hh xs) (peC px py vx vy vd) (fpA W Hh xs px py vx vy vd most i) (g1 (trL px py vx vy vd 0 most) i, g2 (trL px py vx vy vd 0 most) i) := by
 unfold fpA fsF
 rw [List.take_succ_eq_append_getElem hi, List.foldl_append, ← cw hi]; rfl
theorem fpA_mem {W Hh : Int} {xs : List Int} {px py vx vy vd most : Int} {i : Nat} {b : Int × Int} (h : fpA W Hh xs px py vx vy vd most i = some b) : b ∈ trL px py vx vy vd 0 most ∧ atI W Hh xs b.1 b.2 = 2 := by
 obtain ⟨h1, h2, -⟩ := fs_some nt h
 exact ⟨List.mem_of_mem_take h1, by unfold wlB at h2; simpa using h2⟩
theorem lO {W Hh : Int} {xs : List Int} {px py vx vy vd most : Int} {b : Int × Int} (h : fpZ W Hh xs px py vx vy vd most = some b) : b ∈ trL px py vx vy vd 0 most ∧ atI W Hh xs b.1 b.2 = 2 ∧ ∀ c ∈ trL px py vx vy vd 0 most, atI W Hh xs c.1 c.2 = 2 → peN px py vx vy vd b * peD px py vx vy vd c ≤ peN px py vx vy vd c * peD px py vx vy vd b := by
 have k := fpA_mem h
 obtain ⟨-, -, h3⟩ := fs_some nt h
 rw [List.take_length] at h3
 exact ⟨k.1, k.2, fun c hc hw => h3 c hc (by unfold wlB; rw [hw]; rfl)⟩
theorem fpZ_none {W Hh : Int} {xs : List Int} {px py vx vy vd most : Int} (h : fpZ W Hh xs px py vx vy vd most = none) : ∀ c ∈ trL px py vx vy vd 0 most, ¬ atI W Hh xs c.1 c.2 = 2 := fun c hc hw => by
 have k := (fs_none nt).1 h c (by rw [List.take_length]; exact hc)
 unfold wlB at k
 rw [hw] at k; cases k
section
variable {W Hh : Int} {xs : List Int} {x y h m g z : Int} {c : Int × Int}
theorem me_mono {x y lo hi hi2 : Int} {v : Int × Int × Int} {c : Int × Int} (h : eK x y v lo hi c = true) (k : hi ≤ hi2 ∧ hi2 ≤ 65536) : eK x y v lo hi2 c = true := by
 obtain ⟨a, b, n, m, q1, q2, q3, q4, q5⟩ := dA.1 h
 have := Int.mul_le_mul_of_nonneg_right k.1 (show 0 ≤ m by omega)
 exact dA.2 ⟨by omega, b, n, m, q1, q2, q3, by omega, q5⟩
theorem bf_me {x y far : Int} {v : Int × Int × Int} {c : Int × Int} (h : sqBf x y v far c = true) : eK x y v 0 far c = true := by
 have p := dM h
 obtain ⟨n, m, a1, a2, a3, a4⟩ := p.2.2
 exact lN p.1 p.2.1 ⟨n, m, a1, a2, Int.le_of_lt a3, a4⟩
theorem fp_near {most far : Int} {v : Int × Int × Int} (hx : -1048576 ≤ x ∧ x ≤ 1048576) (hy : -1048576 ≤ y ∧ y ≤ 1048576) (hv : cZ v.1 v.2.1 v.2.2 = true) (hm : 0 ≤ most ∧ most ≤ 2048) (hf : fpZ W Hh xs x y v.1 v.2.1 v.2.2 most = some c) (h1 : far * peD x y v.1 v.2.1 v.2.2 c ≤ peN x y v.1 v.2.1 v.2.2 c) (hfm : far ≤ most) : ∀ c', atI W Hh xs c'.1 c'.2 = 2 → sqBf x y v far c' = false := fun c' hw => by
 rw [← Bool.not_eq_true]
 intro hb
 obtain ⟨hcm, -, hmin⟩ := lO hf
 obtain ⟨ho', hlt, h0⟩ := bf_on hb
 have hc' : c' ∈ trL x y v.1 v.2.1 v.2.2 0 most := (gm hx hy hv hm).2 (me_mono (bf_me hb) ⟨hfm, by omega⟩)
 have k := hmin c' hc' hw
 have ho := (me_on ((gm hx hy hv hm).1 hcm)).1
 have p := kR ho
 have p' := kR ho'
 have a1 := Int.mul_lt_mul_of_pos_right hlt p.2.1
 have a2 := Int.mul_le_mul_of_nonneg_right h1 (show 0 ≤ peD x y v.1 v.2.1 v.2.2 c' by omega)
 have e : far * peD x y v.1 v.2.1 v.2.2 c' * peD x y v.1 v.2.1 v.2.2 c = far * peD x y v.1 v.2.1 v.2.2 c * peD x y v.1 v.2.1 v.2.2 c' := by grind
 omega
theorem fp_no {most far : Int} {v : Int × Int × Int} (hx : -1048576 ≤ x ∧ x ≤ 1048576) (hy : -1048576 ≤ y ∧ y ≤ 1048576) (hv : cZ v.1 v.2.1 v.2.2 = true) (hm : 0 ≤ most ∧ most ≤ 2048) (hf : fpZ W Hh xs x y v.1 v.2.1 v.2.2 most = none) (hfm : far ≤ most) : ∀ c', atI W Hh xs c'.1 c'.2 = 2 → eK x y v 0 far c' = false := fun c' hw => by
 rw [← Bool.not_eq_true]
 intro hb
 exact fpZ_none hf c' ((gm hx hy hv hm).2 (me_mono hb ⟨hfm, by omega⟩)) hw
theorem plau_some {most : Int} (hx : 0 ≤ x ∧ x ≤ 4096) (hy : 0 ≤ y ∧ y ≤ 4096) (hz : 0 ≤ z ∧ z ≤ 1024) (hg : 1 ≤ g ∧ g ≤ 32) (hm : 0 ≤ most ∧ most ≤ 1056) (hzm : z - g ≤ most) (hf : fpZ W Hh xs x y (aZ h m).1 (aZ h m).2.1 (aZ h m).2.2 most = some c) (h1 : (z - g) * peD x y (aZ h m).1 (aZ h m).2.1 (aZ h m).2.2 c ≤ peN x y (aZ h m).1 (aZ h m).2.1 (aZ h m).2.2 c) (h2 : peN x y (aZ h m).1 (aZ h m).2.1 (aZ h m).2.2 c ≤ (z + g) * peD x y (aZ h m).1 (aZ h m).2.1 (aZ h m).2.2 c) : gx W Hh xs x y h g (m, z) := by
 obtain ⟨hcm, hw, -⟩ := lO hf
 have hme := (gm (v := aZ h m) (by omega) (by omega) (ic _ _) ⟨hm.1, by omega⟩).1 hcm
 have ho := (me_on hme).1
 have hn := nu hme
 have p := kR ho
 refine ⟨fun _ => ⟨fp_near (v := aZ h m) (by omega) (by omega) (ic _ _) ⟨hm.1, by omega⟩ hf h1 hzm, c, by omega, hw, ?_⟩, fun e => by have e : z = -1 := e; omega⟩
 refine on_me (v := aZ h m) ho ?_ ?_ h2
 ·show 0 ≤ dT z g ∧ dT z g ≤ z + g ∧ z + g ≤ 65536
  unfold dT; split <;> omega
 ·show dT z g * _ ≤ _
  unfold dT; split
  ·exact h1
  ·rw [Int.zero_mul]; exact p.1
theorem plau_none (hc : ∀ c', atI W Hh xs c'.1 c'.2 = 2 → eK x y (aZ h m) 0 (1024 - g) c' = false) : gx W Hh xs x y h g (m, -1) := ⟨fun e => absurd rfl e, fun _ => hc⟩
def lkS (W Hh : Int) (xs : List Int) (x y h m most : Int) : Option (Int × Int) := fpZ W Hh xs x y (aZ h m).1 (aZ h m).2.1 (aZ h m).2.2 most
def lkN (W Hh : Int) (xs : List Int) (x y h m most : Int) : Int := fpN x y (aZ h m).1 (aZ h m).2.1 (aZ h m).2.2 (lkS W Hh xs x y h m most)
def lkD (W Hh : Int) (xs : List Int) (x y h m most : Int) : Int := fpD x y (aZ h m).1 (aZ h m).2.1 (aZ h m).2.2 (lkS W Hh xs x y h m most)
theorem lk_bd {most : Int} (hx : -1048576 ≤ x ∧ x ≤ 1048576) (hy : -1048576 ≤ y ∧ y ≤ 1048576) (hm : 0 ≤ most ∧ most ≤ 2048) (hf : lkS W Hh xs x y h m most = some c) : (0 ≤ lkN W Hh xs x y h m most ∧ lkN W Hh xs x y h m most ≤ most * lkD W Hh xs x y h m most) ∧ 0 < lkD W Hh xs x y h m most ∧ lkD W Hh xs x y h m most ≤ 67108864 := by
 obtain ⟨hcm, -, -⟩ := lO hf
 obtain ⟨ho, hl⟩ := me_on ((gm (v := aZ h m) hx hy (ic _ _) hm).1 hcm)
 have p := kR ho
 unfold lkN lkD
 rw [hf]
 exact ⟨⟨p.1, hl⟩, p.2.1, p.2.2.1⟩
end
set_option linter.unusedSimpArgs false
set_option linter.unusedVariables false
open Go.RowKit
open Go.RowKit
def ow (i : Nat) : Bool := match i with
 | 0 => false
 | _ + 1 => true
open Go.RowKit
open Go.RowKit
open Go.RowKit
open Go.RowKit
open Go.RowKit
open Go.RowKit
theorem mark_in2 {bf bc ah t e tu : Int} (hb : cd bf bc = true) (hi : dP bf bc ah) (ha : 0 ≤ ah ∧ ah ≤ 255) (ht : 0 ≤ tu ∧ tu ≤ 8) (he : -tu ≤ e ∧ e ≤ tu) : nhI ah t e ∈ gI bf bc t tu := by
 have hbi := bH.1 hb
 unfold dP at hi
 unfold gI bl
 rw [List.mem_map]
 by_cases hc : 256 ≤ bc + 2 * tu
 ·have e1 : 256 ≤ cp bc + 2 * tu := by unfold cp; split <;> omega
  have e2 : grC (cp bc) tu = 256 := if_pos e1
  have e3 : grF (shF bf bc t) (cp bc) tu = 0 := if_pos e1
  refine ⟨(nhI ah t e).toNat, List.mem_range.2 ?_, ?_⟩
  ·rw [e2]; unfold nhI; omega
  ·rw [e3]; unfold nhI; omega
 ·have e0 : cp bc = bc := if_neg (by omega)
  have e2 : grC (cp bc) tu = bc + 2 * tu := by rw [e0]; exact if_neg hc
  have e4 : shF bf bc t = (bf + (((t % 256).toNat : Nat) : Int)) % 256 := if_neg (by omega)
  have e3 : grF (shF bf bc t) (cp bc) tu = (shF bf bc t - tu) % 256 := by rw [e0]; exact if_neg hc
  refine ⟨(tu + e + (ah - bf) % 256).toNat, List.mem_range.2 ?_, ?_⟩
  ·rw [e2]; omega
  ·rw [e3, e4]; unfold nhI; clear e0 e2 e3 e4 hc; omega
open Go.RowKit
abbrev T4 := Int × Int × Int × Int
def rqA (f le h : Int) : Int := cE h (mxI (f - le) 0)
def rqB (f le h : Int) : Int := cE h (mxI (f + le) 0)
def rqC (f le h : Int) : Int := cF h (mxI (f - le) 0)
def rqD (f le h : Int) : Int := cF h (mxI (f + le) 0)
def rqR (f le sl h : Int) : T4 := if f = 0 then (0, 0, 0, 0) else (mnI (rqA f le h) (rqB f le h) - sl, mnI (rqC f le h) (rqD f le h) - sl, mxI (rqA f le h) (rqB f le h) + sl, mxI (rqC f le h) (rqD f le h) + sl)
def rcS (f le sl : Int) (L : List Int) : Nat → T4
 | 0 => (0, 0, 0, 0)
 | n + 1 => (mnI (if n = 0 then (rqR f le sl (gi L n)).1 else (rcS f le sl L n).1) (rqR f le sl (gi L n)).1, mnI (if n = 0 then (rqR f le sl (gi L n)).2.1 else (rcS f le sl L n).2.1) (rqR f le sl (gi L n)).2.1, mxI (if n = 0 then (rqR f le sl (gi L n)).2.2.1 else (rcS f le sl L n).2.2.1) (rqR f le sl (gi L n)).2.2.1, mxI (if n = 0 then (rqR f le sl (gi L n)).2.2.2 else (rcS f le sl L n).2.2.2) (rqR f le sl (gi L n)).2.2.2)
theorem ei {a b : Int} : mnI a b ≤ a ∧ mnI a b ≤ b ∧ (mnI a b = a ∨ mnI a b = b) := by unfold mnI; split <;> omega
theorem ej {a b : Int} : a ≤ mxI a b ∧ b ≤ mxI a b ∧ (mxI a b = a ∨ mxI a b = b) := by unfold mxI; split <;> omega
theorem rqR_bd {f le sl h : Int} (hf : 0 ≤ f ∧ f ≤ 32) (hl : 0 ≤ le ∧ le ≤ 16) (hs : 0 ≤ sl ∧ sl ≤ 8) : (-64 ≤ (rqR f le sl h).1 ∧ (rqR f le sl h).1 ≤ (rqR f le sl h).2.2.1 ∧ (rqR f le sl h).2.2.1 ≤ 64) ∧ -64 ≤ (rqR f le sl h).2.1 ∧ (rqR f le sl h).2.1 ≤ (rqR f le sl h).2.2.2 ∧ (rqR f le sl h).2.2.2 ≤ 64 := by
 unfold rqR
 split
 ·exact ⟨by decide, by decide⟩
 ·have m1 : 0 ≤ mxI (f - le) 0 ∧ mxI (f - le) 0 ≤ 48 := by unfold mxI; split <;> omega
  have m2 : 0 ≤ mxI (f + le) 0 ∧ mxI (f + le) 0 ≤ 48 := by unfold mxI; split <;> omega
  have w1 := ke h m1.1
  have w2 := ke h m2.1
  have e1 : rqA f le h = cE h (mxI (f - le) 0) := rfl
  have e2 : rqB f le h = cE h (mxI (f + le) 0) := rfl
  have e3 : rqC f le h = cF h (mxI (f - le) 0) := rfl
  have e4 : rqD f le h = cF h (mxI (f + le) 0) := rfl
  have n1 := ei (a := rqA f le h) (b := rqB f le h)
  have n2 := ei (a := rqC f le h) (b := rqD f le h)
  have x1 := ej (a := rqA f le h) (b := rqB f le h)
  have x2 := ej (a := rqC f le h) (b := rqD f le h)
  simp only
  omega
theorem rcS_bd {f le sl : Int} {L : List Int} (hf : 0 ≤ f ∧ f ≤ 32) (hl : 0 ≤ le ∧ le ≤ 16) (hs : 0 ≤ sl ∧ sl ≤ 8) : ∀ n : Nat, (-64 ≤ (rcS f le sl L n).1 ∧ (rcS f le sl L n).1 ≤ (rcS f le sl L n).2.2.1 ∧ (rcS f le sl L n).2.2.1 ≤ 64) ∧ -64 ≤ (rcS f le sl L n).2.1 ∧ (rcS f le sl L n).2.1 ≤ (rcS f le sl L n).2.2.2 ∧ (rcS f le sl L n).2.2.2 ≤ 64
 | 0 => by unfold rcS; exact ⟨by decide, by decide⟩
 | n + 1 => by
  have r := rqR_bd (h := gi L n) hf hl hs
  have ih := rcS_bd (L := L) hf hl hs n
  unfold rcS
  simp only
  by_cases h0 : n = 0
  ·rw [if_pos h0, if_pos h0, if_pos h0, if_pos h0]
   have n1 := ei (a := (rqR f le sl (gi L n)).1) (b := (rqR f le sl (gi L n)).1)
   have n2 := ei (a := (rqR f le sl (gi L n)).2.1) (b := (rqR f le sl (gi L n)).2.1)
   have x1 := ej (a := (rqR f le sl (gi L n)).2.2.1) (b := (rqR f le sl (gi L n)).2.2.1)
   have x2 := ej (a := (rqR f le sl (gi L n)).2.2.2) (b := (rqR f le sl (gi L n)).2.2.2)
   omega
  ·rw [if_neg h0, if_neg h0, if_neg h0, if_neg h0]
   have n1 := ei (a := (rcS f le sl L n).1) (b := (rqR f le sl (gi L n)).1)
   have n2 := ei (a := (rcS f le sl L n).2.1) (b := (rqR f le sl (gi L n)).2.1)
   have x1 := ej (a := (rcS f le sl L n).2.2.1) (b := (rqR f le sl (gi L n)).2.2.1)
   have x2 := ej (a := (rcS f le sl L n).2.2.2) (b := (rqR f le sl (gi L n)).2.2.2)
   omega
theorem rcS_has {f le sl : Int} {L : List Int} {j : Nat} : ∀ {n : Nat}, j < n → ((rcS f le sl L n).1 ≤ (rqR f le sl (gi L j)).1 ∧ (rqR f le sl (gi L j)).2.2.1 ≤ (rcS f le sl L n).2.2.1) ∧ (rcS f le sl L n).2.1 ≤ (rqR f le sl (gi L j)).2.1 ∧ (rqR f le sl (gi L j)).2.2.2 ≤ (rcS f le sl L n).2.2.2
 | n + 1, h => by
  unfold rcS
  simp only
  have n1 := ei (a := if n = 0 then (rqR f le sl (gi L n)).1 else (rcS f le sl L n).1) (b := (rqR f le sl (gi L n)).1)
  have n2 := ei (a := if n = 0 then (rqR f le sl (gi L n)).2.1 else (rcS f le sl L n).2.1) (b := (rqR f le sl (gi L n)).2.1)
  have x1 := ej (a := if n = 0 then (rqR f le sl (gi L n)).2.2.1 else (rcS f le sl L n).2.2.1) (b := (rqR f le sl (gi L n)).2.2.1)
  have x2 := ej (a := if n = 0 then (rqR f le sl (gi L n)).2.2.2 else (rcS f le sl L n).2.2.2) (b := (rqR f le sl (gi L n)).2.2.2)
  rcases Nat.lt_or_ge j n with q | q
  ·have ih := rcS_has (f := f) (le := le) (sl := sl) (L := L) q
   have h0 : ¬ n = 0 := by omega
   rw [if_neg h0] at n1 n2 x1 x2
   rw [if_neg h0, if_neg h0, if_neg h0, if_neg h0]
   omega
  ·obtain rfl : j = n := by omega
   omega
def imR (b : T6) (t f tu le sl : Int) : T4 := rcS f le sl (gI b.2.2.2.2.1 b.2.2.2.2.2 t tu) (gI b.2.2.2.2.1 b.2.2.2.2.2 t tu).length
def imB (b : T6) (t f tu le sl : Int) : T6 := (b.1 + (imR b t f tu le sl).1, b.2.1 + (imR b t f tu le sl).2.1, b.2.2.1 + (imR b t f tu le sl).2.2.1, b.2.2.2.1 + (imR b t f tu le sl).2.2.2, grF (shF b.2.2.2.2.1 b.2.2.2.2.2 t) (cp b.2.2.2.2.2) tu, grC (cp b.2.2.2.2.2) tu)
def imO (b : T6) (t f tu le sl : Int) : Bool := !([(imB b t f tu le sl).1, (imB b t f tu le sl).2.2.1, (imB b t f tu le sl).2.1, (imB b t f tu le sl).2.2.2.1].any offB)
def imE (b : T6) (t f tu le sl : Int) : Int := if imO b t f tu le sl = true then 0 else 2
theorem imB_ok {b : T6} {t f tu le sl : Int} (hb : bD b = true) (hf : 0 ≤ f ∧ f ≤ 32) (hu : 0 ≤ tu ∧ tu ≤ 8) (hl : 0 ≤ le ∧ le ≤ 16) (hs : 0 ≤ sl ∧ sl ≤ 8) (h : imO b t f tu le sl = true) : bD (imB b t f tu le sl) = true := by
 have hb6 := bL.1 hb
 have r := rcS_bd (L := gI b.2.2.2.2.1 b.2.2.2.2.2 t tu) hf hl hs (gI b.2.2.2.2.1 b.2.2.2.2.2 t tu).length
 have e : imR b t f tu le sl = rcS f le sl (gI b.2.2.2.2.1 b.2.2.2.2.2 t tu) (gI b.2.2.2.2.1 b.2.2.2.2.2 t tu).length := rfl
 rw [← e] at r
 unfold imO offB at h
 simp only [List.any_cons, List.any_nil, Bool.or_false, Bool.not_eq_true', Bool.or_eq_false_iff, decide_eq_false_iff_not] at h
 refine bL.2 ⟨?_, ?_, ?_⟩
 ·unfold imB at *; simp only at *; omega
 ·unfold imB at *; simp only at *; omega
 ·have ka := bH.1 hb6.2.2
  show cd (grF _ _ _) (grC _ _) = true
  exact i9 (by unfold cp; split <;> omega)
def imS (l : List T6) (t f tu le sl : Int) : Nat → List T6
 | 0 => []
 | n + 1 => imS l t f tu le sl n ++ [imB (g6 l n) t f tu le sl]
def imA (l : List T6) (t f tu le sl : Int) : Bool := l.all fun b => imO b t f tu le sl
theorem dI {l : List T6} {t f tu le sl : Int} : ∀ n : Nat, (imS l t f tu le sl n).length = n
 | 0 => rfl
 | n + 1 => by rw [imS, List.length_append, dI n]; rfl
theorem nv {l : List T6} {t f tu le sl : Int} {b : T6} : ∀ {n : Nat}, b ∈ imS l t f tu le sl n ↔ ∃ j : Nat, j < n ∧ b = imB (g6 l j) t f tu le sl
 | 0 => by simp [imS]
 | n + 1 => by
  rw [imS, List.mem_append, List.mem_singleton, nv]
  constructor
  ·rintro (⟨j, h1, h2⟩ | h)
   ·exact ⟨j, by omega, h2⟩
   ·exact ⟨n, by omega, h⟩
  ·rintro ⟨j, h1, h2⟩
   rcases Nat.lt_or_ge j n with q | q
   ·exact .inl ⟨j, q, h2⟩
   ·obtain rfl : j = n := by omega
    exact .inr h2
open Go.RowKit
theorem rq {x : Int → Bool} {s : Int} {i : Nat} (hx : x ((s + (i : Int)) % 256) = true) : ∀ n : Nat, i < n → (i : Int) < dQ x s n
 | 0, h => by omega
 | n + 1, h => by
  rw [dQ]
  split
  ·omega
  ·rename_i hn
   rcases Nat.lt_or_ge i n with q | q
   ·exact rq hx n q
   ·obtain rfl : i = n := by omega
    exact absurd hx hn
theorem hullA_in {f c f' c' m : Int} (h : cd f c = true) (h' : cd f' c' = true) (hm : 0 ≤ m ∧ m ≤ 255) (k : dP f c m ∨ dP f' c' m) : dP (cG f c f' c').1 (cG f c f' c').2 m := by
 rw [← hull_eq h h']
 have hs := kg (x := f0 f c f' c') 256 (Nat.le_refl _)
 unfold dP
 rcases hs with ⟨e, -⟩ | ⟨-, e2, e3, -⟩
 ·rw [e]; simp only; omega
 ·generalize d7 (f0 f c f' c') 256 = p at e2 e3 ⊢
  obtain ⟨i, hi⟩ : ∃ i : Nat, (i : Int) = (m - p.1) % 256 := ⟨((m - p.1) % 256).toNat, by omega⟩
  have hx : f0 f c f' c' ((p.1 + (i : Int)) % 256) = true := by
   rw [show (p.1 + (i : Int)) % 256 = m by omega, nj]; exact k
  have := rq hx 256 (by omega)
  rw [e3] at this
  omega
theorem hulB_in {a b : T6} {x y h : Int} (ha : bD a = true) (hb : bD b = true) (hh : 0 ≤ h ∧ h ≤ 255) (k : InP a x y h ∨ InP b x y h) : InP (ey a b) x y h := by
 have ka := bL.1 ha
 have kb := bL.1 hb
 have n1 := ei (a := a.1) (b := b.1)
 have n2 := ei (a := a.2.1) (b := b.2.1)
 have x1 := ej (a := a.2.2.1) (b := b.2.2.1)
 have x2 := ej (a := a.2.2.2.1) (b := b.2.2.2.1)
 have q := hullA_in (m := h) ka.2.2 kb.2.2 hh (k.imp (·.2.2) (·.2.2))
 unfold InP at k ⊢
 unfold ey
 simp only
 refine ⟨⟨by omega, by omega⟩, ⟨by omega, by omega⟩, q⟩
abbrev C4 := Int × Int × Int × T6
def chN (l : List T6) (i j : Nat) : Int := dN (ey (g6 l i) (g6 l j)) - dN (g6 l i) - dN (g6 l j)
def chU (l : List T6) (i k : Nat) (s : C4) : C4 := if s.1 < 0 ∨ chN l i (i + 1 + k) < s.2.2.1 then ((i : Int), (i : Int) + 1 + (k : Int), chN l i (i + 1 + k), ey (g6 l i) (g6 l (i + 1 + k))) else s
def chR (l : List T6) (i : Nat) (s : C4) : Nat → C4
 | 0 => s
 | k + 1 => chU l i k (chR l i s k)
def chO (l : List T6) : Nat → C4
 | 0 => (-1, -1, 0, (0, 0, 0, 0, 0, 0))
 | n + 1 => chR l n (chO l n) (l.length - (n + 1))
def chP (l : List T6) (s : C4) : Prop := ∃ i j : Nat, i < j ∧ j < l.length ∧ s.1 = (i : Int) ∧ s.2.1 = (j : Int) ∧ s.2.2.2 = ey (g6 l i) (g6 l j)
theorem jf (b : T6) : 0 ≤ dN b ∧ dN b ≤ 1125906929254400 := by
 unfold dN
 split
 ·rename_i h
  have hb := bL.1 h
  have ha := bH.1 hb.2.2
  have m1 := bS (a := b.2.2.1 - b.1 + 1) (b := b.2.2.2.1 - b.2.1 + 1) (A := 2097153) (B := 2097153) (by omega) (by omega)
  have p1 : 0 ≤ (b.2.2.1 - b.1 + 1) * (b.2.2.2.1 - b.2.1 + 1) := Int.mul_nonneg (by omega) (by omega)
  have m2 := bS (a := (b.2.2.1 - b.1 + 1) * (b.2.2.2.1 - b.2.1 + 1)) (b := b.2.2.2.2.2) (A := 4398050705409) (B := 256) (by omega) (by omega)
  have p2 : 0 ≤ (b.2.2.1 - b.1 + 1) * (b.2.2.2.1 - b.2.1 + 1) * b.2.2.2.2.2 := Int.mul_nonneg p1 (by omega)
  omega
 ·omega
theorem chN_bd (l : List T6) (i j : Nat) : -2251813858508800 ≤ chN l i j ∧ chN l i j ≤ 1125906929254400 := by
 have h1 := jf (ey (g6 l i) (g6 l j))
 have h2 := jf (g6 l i)
 have h3 := jf (g6 l j)
 unfold chN; omega
theorem chU_c (l : List T6) (i k : Nat) (s : C4) : (chU l i k s = ((i : Int), (i : Int) + 1 + (k : Int), chN l i (i + 1 + k), ey (g6 l i) (g6 l (i + 1 + k))) ∧ (s.1 < 0 ∨ chN l i (i + 1 + k) < s.2.2.1)) ∨ (chU l i k s = s ∧ ¬ s.1 < 0 ∧ ¬ chN l i (i + 1 + k) < s.2.2.1) := by
 unfold chU
 split
 ·rename_i h; exact .inl ⟨rfl, h⟩
 ·rename_i h; exact .inr ⟨rfl, fun q => h (.inl q), fun q => h (.inr q)⟩
def chI (l : List T6) (s : C4) : Prop := (s.1 = -1 ∧ s.2.1 = -1 ∧ s.2.2.1 = 0) ∨ (chP l s ∧ -2251813858508800 ≤ s.2.2.1 ∧ s.2.2.1 ≤ 1125906929254400)
theorem chU_i {l : List T6} {i k : Nat} {s : C4} (h : chI l s) (hk : i + 1 + k < l.length) : chI l (chU l i k s) ∧ ¬ (chU l i k s).1 < 0 := by
 have e : ((i : Int) + 1 + (k : Int)) = ((i + 1 + k : Nat) : Int) := by omega
 rcases chU_c l i k s with ⟨q, -⟩ | ⟨q, h1, h2⟩
 ·rw [q]
  exact ⟨.inr ⟨⟨i, i + 1 + k, by omega, hk, rfl, e, rfl⟩, chN_bd l i (i + 1 + k)⟩, by simp only; omega⟩
 ·rw [q]; exact ⟨h, h1⟩
theorem chR_i {l : List T6} {i : Nat} {s : C4} (h : chI l s) : ∀ k : Nat, k ≤ l.length - (i + 1) → chI l (chR l i s k) ∧ (0 < k → ¬ (chR l i s k).1 < 0) ∧ (¬ s.1 < 0 → ¬ (chR l i s k).1 < 0)
 | 0, _ => ⟨h, fun q => by omega, fun q => q⟩
 | k + 1, hk => by
  have ih := chR_i (i := i) h k (by omega)
  have u := chU_i (k := k) (i := i) ih.1 (by omega)
  exact ⟨u.1, fun _ => u.2, fun _ => u.2⟩
theorem chO_i (l : List T6) : ∀ n : Nat, n ≤ l.length → chI l (chO l n) ∧ (0 < n → 2 ≤ l.length → ¬ (chO l n).1 < 0)
 | 0, _ => ⟨.inl ⟨rfl, rfl, rfl⟩, fun q => by omega⟩
 | n + 1, hn => by
  have ih := chO_i l n (by omega)
  have r := chR_i (i := n) ih.1 (l.length - (n + 1)) (Nat.le_refl _)
  refine ⟨r.1, fun _ h2 => ?_⟩
  rcases Nat.eq_zero_or_pos n with h0 | h0
  ·exact r.2.1 (by omega)
  ·exact r.2.2 (ih.2 h0 h2)
theorem chO_p {l : List T6} (h : 2 ≤ l.length) : chP l (chO l l.length) := by
 have k := chO_i l l.length (Nat.le_refl _)
 have k2 := k.2 (by omega) h
 rcases k.1 with ⟨q, -⟩ | ⟨q, -⟩
 ·omega
 ·exact q
theorem chO_bd {l : List T6} {n : Nat} (h : n ≤ l.length) : (-1 ≤ (chO l n).1 ∧ (chO l n).1 ≤ (l.length : Int)) ∧ -2251813858508800 ≤ (chO l n).2.2.1 ∧ (chO l n).2.2.1 ≤ 1125906929254400 := by
 rcases (chO_i l n h).1 with ⟨a, b, c⟩ | ⟨⟨i, j, h1, h2, a, b, c⟩, d⟩ <;> omega
theorem chR_bd {l : List T6} {n k : Nat} (h : n ≤ l.length) (hk : k ≤ l.length - (n + 1)) : (-1 ≤ (chR l n (chO l n) k).1 ∧ (chR l n (chO l n) k).1 ≤ (l.length : Int)) ∧ -2251813858508800 ≤ (chR l n (chO l n) k).2.2.1 ∧ (chR l n (chO l n) k).2.2.1 ≤ 1125906929254400 := by
 rcases (chR_i (i := n) (chO_i l n h).1 k hk).1 with ⟨a, b, c⟩ | ⟨⟨i, j, h1, h2, a, b, c⟩, d⟩ <;> omega
def cpA (l : List T6) : List T6 := l.set (chO l l.length).1.toNat (chO l l.length).2.2.2
def cpS (l : List T6) : List T6 := (cpA l).take (chO l l.length).2.1.toNat ++ (cpA l).drop ((chO l l.length).2.1.toNat + 1)
def cpI : Nat → List T6 → List T6
 | 0, l => l
 | n + 1, l => cpI n (cpS l)
def cpL (l : List T6) : List T6 := cpI (l.length - 16) l
theorem cpA_len (l : List T6) : (cpA l).length = l.length := List.length_set
theorem nw {l : List T6} (h : 2 ≤ l.length) : (cpS l).length = l.length - 1 := by
 obtain ⟨i, j, h1, h2, a, b, c⟩ := chO_p h
 unfold cpS
 rw [List.length_append, List.length_take, List.length_drop, cpA_len, b]
 omega
theorem cpS_mem {l : List T6} (h : 2 ≤ l.length) : ∃ i j : Nat, i < j ∧ j < l.length ∧ ey (g6 l i) (g6 l j) ∈ cpS l ∧ (∀ b ∈ cpS l, b ∈ l ∨ b = ey (g6 l i) (g6 l j)) ∧ ∀ n : Nat, n < l.length → n ≠ i → n ≠ j → g6 l n ∈ cpS l := by
 obtain ⟨i, j, h1, h2, a, b, c⟩ := chO_p h
 have eA : cpA l = l.set i (ey (g6 l i) (g6 l j)) := by unfold cpA; rw [a, c]; rfl
 have eS : cpS l = (l.set i (ey (g6 l i) (g6 l j))).take j ++ (l.set i (ey (g6 l i) (g6 l j))).drop (j + 1) := by unfold cpS; rw [eA, b]; rfl
 have hin : ∀ n : Nat, (hn : n < (l.set i (ey (g6 l i) (g6 l j))).length) → n ≠ j → (l.set i (ey (g6 l i) (g6 l j)))[n] ∈ cpS l := fun n hn hne => by
  rw [eS]
  rcases Nat.lt_or_ge n j with q | q
  ·refine List.mem_append_left _ (List.mem_iff_getElem.2 ⟨n, by rw [List.length_take]; omega, ?_⟩)
   rw [List.getElem_take]
  ·refine List.mem_append_right _ (List.mem_iff_getElem.2 ⟨n - (j + 1), by rw [List.length_drop]; omega, ?_⟩)
   rw [List.getElem_drop]
   congr 1; omega
 refine ⟨i, j, h1, h2, ?_, fun b hb => ?_, fun n hn hi hj => ?_⟩
 ·have := hin i (by rw [List.length_set]; omega) (by omega)
  rwa [List.getElem_set_self] at this
 ·rw [eS] at hb
  have hb' : b ∈ l.set i (ey (g6 l i) (g6 l j)) := by
   rcases List.mem_append.1 hb with q | q
   ·exact List.mem_of_mem_take q
   ·exact List.mem_of_mem_drop q
  exact (List.mem_or_eq_of_mem_set hb').imp id id
 ·have := hin n (by rw [List.length_set]; exact hn) hj
  rw [List.getElem_set_ne (fun q => hi q.symm)] at this
  rw [show g6 l n = l[n] from gu hn]; exact this
theorem cpS_ok {l : List T6} (h : 2 ≤ l.length) (hv : ∀ b ∈ l, bD b = true) : ∀ b ∈ cpS l, bD b = true := fun b hb => by
 obtain ⟨i, j, h1, h2, -, k, -⟩ := cpS_mem h
 rcases k b hb with q | q
 ·exact hv b q
 ·rw [q]; exact hulB_ok (hv _ (cL (by omega))) (hv _ (cL h2))
theorem cpS_in {l : List T6} {x y m : Int} (h : 2 ≤ l.length) (hv : ∀ b ∈ l, bD b = true) (hm : 0 ≤ m ∧ m ≤ 255) (hc : ∃ b ∈ l, InP b x y m) : ∃ b ∈ cpS l, InP b x y m := by
 obtain ⟨i, j, h1, h2, k1, k2, k3⟩ := cpS_mem h
 obtain ⟨b, hb, hi⟩ := hc
 obtain ⟨n, hn, rfl⟩ := List.mem_iff_getElem.1 hb
 rw [← show g6 l n = l[n] from gu hn] at hi
 by_cases e1 : n = i
 ·subst e1; exact ⟨_, k1, hulB_in (hv _ (cL hn)) (hv _ (cL h2)) hm (.inl hi)⟩
 ·by_cases e2 : n = j
  ·subst e2; exact ⟨_, k1, hulB_in (hv _ (cL (by omega))) (hv _ (cL hn)) hm (.inr hi)⟩
  ·exact ⟨_, k3 n hn e1 e2, hi⟩
theorem cpI_ok : ∀ (n : Nat) (l : List T6), n + 1 ≤ l.length → (∀ b ∈ l, bD b = true) → (∀ b ∈ cpI n l, bD b = true) ∧ (cpI n l).length = l.length - n
 | 0, l, _, hv => ⟨hv, rfl⟩
 | n + 1, l, h, hv => by
  have e := nw (l := l) (by omega)
  have ih := cpI_ok n (cpS l) (by omega) (cpS_ok (by omega) hv)
  exact ⟨ih.1, by rw [cpI, ih.2, e]; omega⟩
theorem cpI_in {x y m : Int} (hm : 0 ≤ m ∧ m ≤ 255) : ∀ (n : Nat) (l : List T6), n + 1 ≤ l.length → (∀ b ∈ l, bD b = true) → (∃ b ∈ l, InP b x y m) → ∃ b ∈ cpI n l, InP b x y m
 | 0, l, _, hv, hc => hc
 | n + 1, l, h, hv, hc => cpI_in hm n (cpS l) (by have e := nw (l := l) (by omega); omega) (cpS_ok (by omega) hv) (cpS_in (by omega) hv hm hc)
theorem mZ {l : List T6} (h0 : 0 < l.length) (hv : ∀ b ∈ l, bD b = true) : bP (cpL l) = true ∧ 0 < (cpL l).length := by
 have k := cpI_ok (l.length - 16) l (by omega) hv
 refine ⟨bU.2 ⟨?_, k.1⟩, ?_⟩
 ·show (cpI (l.length - 16) l).length ≤ 16; rw [k.2]; omega
 ·show 0 < (cpI (l.length - 16) l).length; rw [k.2]; omega
theorem cpL_in {l : List T6} {x y m : Int} (hm : 0 ≤ m ∧ m ≤ 255) (h0 : 0 < l.length) (hv : ∀ b ∈ l, bD b = true) (hc : ∃ b ∈ l, InP b x y m) : ∃ b ∈ cpL l, InP b x y m := cpI_in hm _ l (by omega) hv hc
open Go.RowKit
open Go.RowKit
set_option maxHeartbeats 4000000
set_option maxRecDepth 100000
open Go.RowKit
open Go.RowKit
theorem wd {x y h : Int} : fL x y h = (ptB x y && btw h 0 255) := by rw [Bool.eq_iff_iff, fc, Bool.and_eq_true]
theorem tm_a (h : Int) : (Int.tmod h 256 = h % 256 ∧ (0 ≤ h ∨ h % 256 = 0)) ∨ (Int.tmod h 256 = h % 256 - 256 ∧ h < 0) := by
 rcases Int.lt_or_le h 0 with k | k
 ·have e : Int.tmod h 256 = -((-h) % 256) := by
   have := Int.neg_tmod (-h) 256
   rw [Int.neg_neg] at this
   rw [this, Int.tmod_eq_emod_of_nonneg (by omega)]
  rw [e]; omega
 ·left; exact ⟨Int.tmod_eq_emod_of_nonneg k, .inl k⟩
theorem trn (h : Int) : Int.tmod (Int.tmod h 256 + 256) 256 = (((h % 256).toNat : Nat) : Int) := by
 have a := tm_a h
 rw [Int.tmod_eq_emod_of_nonneg (by omega)]
 omega
theorem ddown_c (H : ac) (a : Int) (b : Int) (hb : 0 < b) (hw : -4611686018427387904 ≤ a ∧ a ≤ 4611686018427387904) : ACalls Tryz.prog 79 [.int .i64 a, .int .i64 b] H (fun v H' => v = .int .i64 (a / b) ∧ H' = H) := by
 have htd := fX (a := a) (b := b) hb hw
 refine AcT true Tryz.func79 ?_; intro hbel Q hQ
 refine aY ?_
 refine ai (fun h1 => ?_) (fun h1 => ?_)
 ·have h1d := bsT h1
  have hfinq : Int.tdiv a b - 1 = a / b := by rw [← iv hb, if_pos h1d]
  have g'1 := (jn @h1 @h1d)
  refine aa g'1 ?_
  exact hQ _ _ (aF (.inl rfl) hbel (x := .int .i64 ((Int.tdiv a b) - 1)) (ag Tryz.results79) rfl ⟨congrArg (AV.int .i64) hfinq, rfl⟩)
 ·have h1d := bsT h1
  have hfinq : Int.tdiv a b = a / b := by rw [← iv hb, if_neg (by omega)]
  have g'2 := (jn @h1 @h1d)
  refine aa g'2 ?_
  exact hQ _ _ (aF (.inl rfl) hbel (x := .int .i64 (Int.tdiv a b)) (ag Tryz.results79) rfl ⟨congrArg (AV.int .i64) hfinq, rfl⟩)
theorem dvpt_c (H : ac) (x : Int) (y : Int) : ACalls Tryz.prog 75 [.agg [.int .i64 x, .int .i64 y]] H (fun v H' => v = .bool (ptB x y) ∧ H' = H) := by
 refine AcT true Tryz.func75 ?_; intro hbel Q hQ
 refine aY ?_
 refine af (by kernel_rfl) (fA _ x 1048576 (by decide)) ?_
 refine aY ?_
 refine aj (fun h1 => ?_) (fun h1 => ?_)
 ·have h1d := bsT h1
  have g'3 := (jn @h1 @h1d)
  refine aa g'3 ?_
  refine af (by kernel_rfl) (fA _ y 1048576 (by decide)) ?_
  refine aa g'3 ?_
  exact hQ _ _ (ae (.inl rfl) hbel (x := .bool (bZ y 1048576)) (ag Tryz.results75) rfl ⟨by simp [ptB, h1d], rfl⟩)
 ·have h1d := bsT h1
  have g'4 := (jn @h1 @h1d)
  refine aa g'4 ?_
  exact hQ _ _ (ae (.inl rfl) hbel (x := .bool false) (ag Tryz.results75) rfl ⟨by simp [ptB, h1d], rfl⟩)
theorem dplace_c (H : ac) (x : Int) (y : Int) (h : Int) : ACalls Tryz.prog 76 [.agg [.int .i64 x, .int .i64 y, .int .i64 h]] H (fun v H' => v = .agg [.int .i64 x, .int .i64 y] ∧ H' = H) := by
 refine AcT true Tryz.func76 ?_; intro hbel Q hQ
 refine aY ?_
 exact hQ _ _ (ae (.inl rfl) hbel (x := .agg [.int .i64 x, .int .i64 y]) (ag Tryz.results76) rfl ⟨rfl, rfl⟩)
theorem dvps_c (H : ac) (x : Int) (y : Int) (h : Int) : ACalls Tryz.prog 45 [.agg [.int .i64 x, .int .i64 y, .int .i64 h]] H (fun v H' => v = .bool (fL x y h) ∧ H' = H) := by
 refine AcT true Tryz.func45 ?_; intro hbel Q hQ
 refine aY ?_
 refine af (by kernel_rfl) (dplace_c _ x y h) ?_
 refine aY ?_
 refine af (by kernel_rfl) (dvpt_c _ x y) ?_
 refine aY ?_
 refine aj (fun h1 => ?_) (fun h1 => ?_)
 ·have h1d := bsT h1
  have g'5 := (jn @h1 @h1d)
  refine aa g'5 ?_
  refine af (by kernel_rfl) (dY _ h 0 255) ?_
  refine aa g'5 ?_
  exact hQ _ _ (ae (.inl rfl) hbel (x := .bool (btw h 0 255)) (ag Tryz.results45) rfl ⟨by rw [wd]; simp [h1d], rfl⟩)
 ·have h1d := bsT h1
  have g'6 := (jn @h1 @h1d)
  refine aa g'6 ?_
  exact hQ _ _ (ae (.inl rfl) hbel (x := .bool false) (ag Tryz.results45) rfl ⟨by rw [wd]; simp [h1d], rfl⟩)
theorem dturn_c (H : ac) (h : Int) (hh : -1000 ≤ h ∧ h ≤ 1000) : ACalls Tryz.prog 49 [.int .i64 h] H (fun v H' => v = .int .i64 (((h % 256).toNat : Nat) : Int) ∧ H' = H) := by
 have htm := tm_a h
 have htr := trn h
 refine AcT true Tryz.func49 ?_; intro hbel Q hQ
 have g'7 := @htr
 refine aa g'7 ?_
 exact hQ _ _ (aF (.inl rfl) hbel (x := .int .i64 (((h % 256).toNat : Nat) : Int)) (ag Tryz.results49) rfl ⟨rfl, rfl⟩)
theorem cm (H : ac) (h : Int) (n : Int) (hn : -1000 ≤ n ∧ n ≤ 1000) : ACalls Tryz.prog 50 [.int .i64 h, .int .i64 n] H (fun v H' => v = .agg [.int .i64 (cE h (mxI n 0)), .int .i64 (cF h (mxI n 0))] ∧ H' = H) := by
 have hz : (if 0 < n then n else 0) = mxI n 0 := by unfold mxI; split <;> split <;> omega
 have hzb : 0 ≤ mxI n 0 ∧ mxI n 0 ≤ 1000 := by unfold mxI; split <;> omega
 have hdv := dq.1 (fW h)
 have hm1 := bS (a := mxI n 0) (b := (cB h).1) (A := 1000) (B := 8065) (by omega) (by omega)
 have hm2 := bS (a := mxI n 0) (b := (cB h).2.1) (A := 1000) (B := 8065) (by omega) (by omega)
 refine AcT true Tryz.func50 ?_; intro hbel Q hQ
 have g'8 := @hz
 refine aa g'8 ?_
 refine af (by kernel_rfl) (dir_c _ h) ?_
 refine aa g'8 ?_
 refine aK (by kernel_rfl) (ddown_c _ ((mxI n 0) * ((cB h).1)) ((cB h).2.2) (by omega) (by omega)) ?_
 refine aa g'8 ?_
 refine aK (by kernel_rfl) (ddown_c _ ((mxI n 0) * ((cB h).2.1)) ((cB h).2.2) (by omega) (by omega)) ?_
 refine aa g'8 ?_
 exact hQ _ _ (ae (.inl rfl) hbel (x := .agg [.int .i64 (((mxI n 0) * ((cB h).1)) / ((cB h).2.2)), .int .i64 (((mxI n 0) * ((cB h).2.1)) / ((cB h).2.2))]) (ag Tryz.results50) rfl ⟨rfl, rfl⟩)
open Go.RowKit
def cqX (x0 x1 : Int) : Nat → Int
 | 0 => x0
 | 1 => x1
 | 2 => x0
 | _ => x1
def cqY (y0 y1 : Int) : Nat → Int
 | 0 => y0
 | 1 => y0
 | 2 => y1
 | _ => y1
def h4K (op : Bool) (x0 y0 x1 y1 vx vy vd far cx cy : Int) : Nat → Bool
 | 0 => true
 | n + 1 => h4K op x0 y0 x1 y1 vx vy vd far cx cy n && hcB op (cqX x0 x1 n) (cqY y0 y1 n) vx vy vd far cx cy
theorem h4K_4 {op : Bool} {x0 y0 x1 y1 vx vy vd far cx cy : Int} : h4K op x0 y0 x1 y1 vx vy vd far cx cy 4 = h4B op x0 y0 x1 y1 vx vy vd far cx cy := by
 simp only [h4K, h4B, cqX, cqY, Bool.true_and, Bool.and_assoc]
theorem hcB_t {op : Bool} (h : op = true) {x y vx vy vd far cx cy : Int} : hcB op x y vx vy vd far cx cy = c6 x y vx vy vd far (cx * 64) (cy * 64) ((cx + 1) * 64) ((cy + 1) * 64) := by unfold hcB; rw [h]; rfl
theorem hcB_f {op : Bool} (h : op = false) {x y vx vy vd far cx cy : Int} : hcB op x y vx vy vd far cx cy = dD x y vx vy vd 0 far (cx * 64) (cy * 64) ((cx + 1) * 64) ((cy + 1) * 64) := by unfold hcB; rw [h]; rfl
def ad4 (x0 y0 x1 y1 : Int) : Nat → Int
 | 0 => x0
 | 1 => y0
 | 2 => x1
 | _ => y1
theorem m5 {α : Type} {p : α → Bool} {l : List α} (h : ∀ j : Nat, (hj : j < l.length) → p l[j] = false) : l.any p = false := List.any_eq_false.2 fun c hc => by
 obtain ⟨j, hj, rfl⟩ := List.mem_iff_getElem.1 hc
 rw [h j hj]; decide
theorem dH (H : ac) (n : Int) (lo : Int) (hi : Int) : ACalls Tryz.prog 88 [.int .i64 n, .int .i64 lo, .int .i64 hi] H (fun v H' => v = .bool (btw n lo hi) ∧ H' = H) := by
 refine AcT true Tryz.func88 ?_; intro hbel Q hQ
 refine aY ?_
 refine aj (fun h1 => ?_) (fun h1 => ?_)
 ·have h1d := bsT h1
  have g'1 := (jn @h1 @h1d)
  refine aa g'1 ?_
  exact hQ _ _ (aF (.inl rfl) hbel (x := .bool (decide (n ≤ hi))) (ag Tryz.results88) rfl ⟨by simp [btw, h1d], rfl⟩)
 ·have h1d := bsT h1
  have g'2 := (jn @h1 @h1d)
  refine aa g'2 ?_
  exact hQ _ _ (aF (.inl rfl) hbel (x := .bool false) (ag Tryz.results88) rfl ⟨by simp [btw, h1d], rfl⟩)
theorem cvb_c (H : ac) (m : Int) (r : Int) : ACalls Tryz.prog 164 [.agg [.int .i64 m, .int .i64 r]] H (fun v H' => v = .bool (df m r) ∧ H' = H) := by
 refine AcT true Tryz.func164 ?_; intro hbel Q hQ
 refine aY ?_
 refine af (by kernel_rfl) (dH _ m 0 255) ?_
 refine aY ?_
 refine aj (fun h1 => ?_) (fun h1 => ?_)
 ·have h1d := bsT h1
  have g'3 := (jn @h1 @h1d)
  refine aa g'3 ?_
  refine af (by kernel_rfl) (dH _ r (-1) 1024) ?_
  refine aa g'3 ?_
  exact hQ _ _ (ae (.inl rfl) hbel (x := .bool (btw r (-1) 1024)) (ag Tryz.results164) rfl ⟨by simp [df, h1d], rfl⟩)
 ·have h1d := bsT h1
  have g'4 := (jn @h1 @h1d)
  refine aa g'4 ?_
  exact hQ _ _ (ae (.inl rfl) hbel (x := .bool false) (ag Tryz.results164) rfl ⟨by simp [df, h1d], rfl⟩)
theorem cvs_c (H : ac) (q : AV) (sc : List (Int × Int)) (hq : Sl H 2 q sc.length (prs sc)) (hl : sc.length ≤ 1000000000) : ACalls Tryz.prog 122 [q] H (fun v H' => v = .bool (ct sc) ∧ H' = H) := by
 obtain ⟨bq, oq, cq, rfl, hbq⟩ := hq
 have hblq := getElem?_lt hbq
 have hb0q := fun l => aw (l := l) hbq
 refine AcT true Tryz.func122 ?_; intro hbel Q hQ
 have g'5 := (jn @hbq @hb0q)
 refine aa g'5 ?_
 refine go_loop try_mixed (by kernel_rfl) (fun k F Hx => ∃ i : Nat, i + k = sc.length ∧ (∀ j : Nat, j < i → df (g1 sc j) (g2 sc j) = true) ∧ F = [(0, .sl (some (bq, 0)) sc.length cq), (5, .sl (some (bq, 0)) sc.length cq), (6, .int .i64 ((sc.length : Nat) : Int)), (7, .int .i64 ((i : Nat) : Int))] ∧ H = Hx) (sc.length) ?_ ?_
 ·refine ⟨_, _, _, ⟨0, by omega, (fun j h => by omega), rfl, rfl⟩, Abs.by0 hbel ?_⟩
  exact be
 ·rintro k0 F Hx ⟨i, hm0, hal, rfl, rfl⟩ J0 hJ0
  refine aa g'5 ?_
  refine ai (fun h1 => ?_) (fun h1 => ?_)
  ·have h1d := bsT h1
   have hlt : i < sc.length := by omega
   have q2 := cI (l := sc) (j := i) (by omega)
   have g'6 := (jn @h1 (jn @h1d (jn @q2 g'5)))
   refine aa g'6 ?_
   refine af (by kernel_rfl) (cvb_c _ (g1 sc i) (g2 sc i)) ?_
   refine aa g'6 ?_
   refine ai (fun h3 => ?_) (fun h3 => ?_)
   ·have h3d := bsT h3
    have hfinS : ct sc = false := by
     rw [← Bool.not_eq_true]; intro k
     have q := (da.1 k).2 _ (List.getElem_mem hlt)
     rw [← cw hlt] at q
     exact absurd (q.symm.trans h3d) (by decide)
    have g'7 := (jn @h3 (jn @h3d g'6))
    refine aa g'7 ?_
    exact hQ _ _ (ae (.inl rfl) hbel (x := .bool false) (ag Tryz.results122) rfl ⟨by first | (rw [hfinS]; done) | (rw [hfinS]; rfl), rfl⟩)
   ·have h3d := bsT h3
    have hbk := h3d
    have g'8 := (jn @h3 (jn @h3d g'6))
    refine aa g'8 ?_
    refine hJ0 _ _ ⟨k0 - 1, by omega, _, _, _, ⟨i + 1, by omega, fun j hj => by
          rcases Nat.lt_or_ge j i with h | h
          ·exact hal j h
          ·rw [show j = i by omega]; exact hbk, rfl, rfl⟩, Abs.byN hbel ?_⟩
    exact be
  ·have h1d := bsT h1
   obtain rfl : i = sc.length := by omega
   have hfinS : ct sc = decide (((sc.length : Nat) : Int) ≤ 32) := by
    unfold ct
    rw [m5 (fun j hj => by rw [← cw hj]; show (!df _ _) = false; rw [hal j hj]; rfl)]; simp
   have g'9 := (jn @h1 (jn @h1d g'5))
   refine aa g'9 ?_
   exact hQ _ _ (aF (.inl rfl) hbel (x := .bool (decide (((sc.length : Nat) : Int) ≤ 32))) (ag Tryz.results122) rfl ⟨by first | (rw [hfinS]; done) | (rw [hfinS]; rfl), rfl⟩)
theorem cadm_c (H : ac) (x0 : Int) (y0 : Int) (x1 : Int) (y1 : Int) : ACalls Tryz.prog 165 [.agg [.int .i64 x0, .int .i64 y0, .int .i64 x1, .int .i64 y1]] H (fun v H' => v = .bool (d6 x0 y0 x1 y1) ∧ H' = H) := by
 refine AcT true Tryz.func165 ?_; intro hbel Q hQ
 refine aY ?_
 refine go_loop try_mixed (by kernel_rfl) (fun k F Hx => ∃ i : Nat, i + k = 4 ∧ (∀ j : Nat, j < i → btw (ad4 x0 y0 x1 y1 j) (-1048576) 1048576 = true) ∧ F = [(1, .ptr (some (H.length, 0))), (13, .agg [.int .i64 x0, .int .i64 y0, .int .i64 x1, .int .i64 y1]), (14, .int .i64 ((i : Nat) : Int))] ∧ Hx = H ++ [.cells true 0 [.int .i64 x0, .int .i64 y0, .int .i64 x1, .int .i64 y1]]) (4) ?_ ?_
 ·refine ⟨_, _, _, ⟨0, by omega, (fun j h => by omega), rfl, rfl⟩, Abs.byG hbel [] rfl [0] (by decide) ?_⟩
  exact be
 ·rintro k0 F Hx ⟨i, hm0, hal, rfl, rfl⟩ J0 hJ0
  refine aY ?_
  refine ai (fun h1 => ?_) (fun h1 => ?_)
  ·have h1d := bsT h1
   obtain rfl | rfl | rfl | rfl := (by omega : i = 0 ∨ i = 1 ∨ i = 2 ∨ i = 3)
   ·skip
    have g'10 := (jn @h1 @h1d)
    refine aa g'10 ?_
    refine af (by kernel_rfl) (dH _ x0 (-1048576) 1048576) ?_
    refine aa g'10 ?_
    refine ai (fun h2 => ?_) (fun h2 => ?_)
    ·have h2d := bsT h2
     have hfinA : d6 x0 y0 x1 y1 = false := by unfold d6; simp [h2d]
     have g'11 := (jn @h2 (jn @h2d g'10))
     refine aa g'11 ?_
     exact hQ _ _ (ae (.inl rfl) hbel (x := .bool false) (ag Tryz.results165) rfl ⟨by first | (rw [hfinA]; done) | (unfold d6; rw [hfa0, hfa1, hfa2, hfa3]; simp [h1d, h2d, hfinA]; done), rfl⟩)
    ·have h2d := bsT h2
     have hbk := h2d
     have g'12 := (jn @h2 (jn @h2d g'10))
     refine aa g'12 ?_
     refine hJ0 _ _ ⟨k0 - 1, by omega, _, _, _, ⟨0 + 1, by omega, fun j hj => by
           rcases Nat.lt_or_ge j 0 with h | h
           ·exact hal j h
           ·rw [show j = 0 by omega]; exact hbk, rfl, rfl⟩, Abs.byG hbel [] rfl [0] (by decide) ?_⟩
     exact be
   ·skip
    have g'13 := (jn @h1 @h1d)
    refine aa g'13 ?_
    refine af (by kernel_rfl) (dH _ y0 (-1048576) 1048576) ?_
    refine aa g'13 ?_
    refine ai (fun h3 => ?_) (fun h3 => ?_)
    ·have h3d := bsT h3
     have hfinA : d6 x0 y0 x1 y1 = false := by unfold d6; simp [h3d]
     have g'14 := (jn @h3 (jn @h3d g'13))
     refine aa g'14 ?_
     exact hQ _ _ (ae (.inl rfl) hbel (x := .bool false) (ag Tryz.results165) rfl ⟨by first | (rw [hfinA]; done) | (unfold d6; rw [hfa0, hfa1, hfa2, hfa3]; simp [h1d, h3d, hfinA]; done), rfl⟩)
    ·have h3d := bsT h3
     have hbk := h3d
     have g'15 := (jn @h3 (jn @h3d g'13))
     refine aa g'15 ?_
     refine hJ0 _ _ ⟨k0 - 1, by omega, _, _, _, ⟨1 + 1, by omega, fun j hj => by
           rcases Nat.lt_or_ge j 1 with h | h
           ·exact hal j h
           ·rw [show j = 1 by omega]; exact hbk, rfl, rfl⟩, Abs.byG hbel [] rfl [0] (by decide) ?_⟩
     exact be
   ·skip
    have g'16 := (jn @h1 @h1d)
    refine aa g'16 ?_
    refine af (by kernel_rfl) (dH _ x1 (-1048576) 1048576) ?_
    refine aa g'16 ?_
    refine ai (fun h4 => ?_) (fun h4 => ?_)
    ·have h4d := bsT h4
     have hfinA : d6 x0 y0 x1 y1 = false := by unfold d6; simp [h4d]
     have g'17 := (jn @h4 (jn @h4d g'16))
     refine aa g'17 ?_
     exact hQ _ _ (ae (.inl rfl) hbel (x := .bool false) (ag Tryz.results165) rfl ⟨by first | (rw [hfinA]; done) | (unfold d6; rw [hfa0, hfa1, hfa2, hfa3]; simp [h1d, h4d, hfinA]; done), rfl⟩)
    ·have h4d := bsT h4
     have hbk := h4d
     have g'18 := (jn @h4 (jn @h4d g'16))
     refine aa g'18 ?_
     refine hJ0 _ _ ⟨k0 - 1, by omega, _, _, _, ⟨2 + 1, by omega, fun j hj => by
           rcases Nat.lt_or_ge j 2 with h | h
           ·exact hal j h
           ·rw [show j = 2 by omega]; exact hbk, rfl, rfl⟩, Abs.byG hbel [] rfl [0] (by decide) ?_⟩
     exact be
   ·skip
    have g'19 := (jn @h1 @h1d)
    refine aa g'19 ?_
    refine af (by kernel_rfl) (dH _ y1 (-1048576) 1048576) ?_
    refine aa g'19 ?_
    refine ai (fun h5 => ?_) (fun h5 => ?_)
    ·have h5d := bsT h5
     have hfinA : d6 x0 y0 x1 y1 = false := by unfold d6; simp [h5d]
     have g'20 := (jn @h5 (jn @h5d g'19))
     refine aa g'20 ?_
     exact hQ _ _ (ae (.inl rfl) hbel (x := .bool false) (ag Tryz.results165) rfl ⟨by first | (rw [hfinA]; done) | (unfold d6; rw [hfa0, hfa1, hfa2, hfa3]; simp [h1d, h5d, hfinA]; done), rfl⟩)
    ·have h5d := bsT h5
     have hbk := h5d
     have g'21 := (jn @h5 (jn @h5d g'19))
     refine aa g'21 ?_
     refine hJ0 _ _ ⟨k0 - 1, by omega, _, _, _, ⟨3 + 1, by omega, fun j hj => by
           rcases Nat.lt_or_ge j 3 with h | h
           ·exact hal j h
           ·rw [show j = 3 by omega]; exact hbk, rfl, rfl⟩, Abs.byG hbel [] rfl [0] (by decide) ?_⟩
     exact be
  ·have h1d := bsT h1
   obtain rfl : i = 4 := by omega
   have hfa0 : btw x0 (-1048576) 1048576 = true := hal 0 (by omega)
   have hfa1 : btw y0 (-1048576) 1048576 = true := hal 1 (by omega)
   have hfa2 : btw x1 (-1048576) 1048576 = true := hal 2 (by omega)
   have hfa3 : btw y1 (-1048576) 1048576 = true := hal 3 (by omega)
   have hxb := bu.1 hfa0
   have hyb := bu.1 hfa1
   have hxc := bu.1 hfa2
   have hyc := bu.1 hfa3
   have g'22 := (jn @h1 @h1d)
   refine aa g'22 ?_
   refine af (by kernel_rfl) (dH _ (x1 - x0) 0 1024) ?_
   refine aa g'22 ?_
   refine aj (fun h6 => ?_) (fun h6 => ?_)
   ·have h6d := bsT h6
    have g'23 := (jn @h6 (jn @h6d g'22))
    refine aa g'23 ?_
    refine af (by kernel_rfl) (dH _ (y1 - y0) 0 1024) ?_
    refine aa g'23 ?_
    exact hQ _ _ (ae (.inl rfl) hbel (x := .bool (btw (y1 - y0) 0 1024)) (ag Tryz.results165) rfl ⟨by first | (rw [hfinA]; done) | (unfold d6; rw [hfa0, hfa1, hfa2, hfa3]; simp [h1d, h6d]; done), rfl⟩)
   ·have h6d := bsT h6
    have g'24 := (jn @h6 (jn @h6d g'22))
    refine aa g'24 ?_
    exact hQ _ _ (ae (.inl rfl) hbel (x := .bool false) (ag Tryz.results165) rfl ⟨by first | (rw [hfinA]; done) | (unfold d6; rw [hfa0, hfa1, hfa2, hfa3]; simp [h1d, h6d]; done), rfl⟩)
theorem cright_c (H : ac) (W : Int) (Hh : Int) (pp : AV) (xs : List Int) (q : AV) (sc : List (Int × Int)) (g : Int) (hpp : Sl H 1 pp xs.length (ints .u8 xs)) (hq : Sl H 2 q sc.length (prs sc)) (hsc : sc.length ≤ 1000000000) : ACalls Tryz.prog 87 [.agg [.int .i64 W, .int .i64 Hh, pp], q, .int .i64 g] H (fun v H' => v = .bool (bW W Hh xs && (ct sc && btw g 1 32)) ∧ H' = H) := by
 obtain ⟨bpp, opp, cpp, rfl, hbpp⟩ := hpp
 have hblpp := getElem?_lt hbpp
 have hb0pp := fun l => aw (l := l) hbpp
 obtain ⟨bq, oq, cq, rfl, hbq⟩ := hq
 have hblq := getElem?_lt hbq
 have hb0q := fun l => aw (l := l) hbq
 refine AcT true Tryz.func87 ?_; intro hbel Q hQ
 have g'25 := (jn @hbpp (jn @hb0pp (jn @hbq @hb0q)))
 refine aa g'25 ?_
 refine af (by kernel_rfl) (gb _ W Hh _ xs (.inr ⟨_, _, _, rfl, by first | exact hb0pp _ | exact hbpp⟩)) ?_
 refine aa g'25 ?_
 refine aj (fun h1 => ?_) (fun h1 => ?_)
 ·have h1d := bsT h1
  have g'26 := (jn @h1 (jn @h1d g'25))
  refine aa g'26 ?_
  refine af (by kernel_rfl) (cvs_c _ _ sc ⟨_, _, _, rfl, by first | exact hb0q _ | exact hbq⟩ (by first | omega | simp)) ?_
  refine aa g'26 ?_
  refine aj (fun h2 => ?_) (fun h2 => ?_)
  ·have h2d := bsT h2
   have g'27 := (jn @h2 (jn @h2d g'26))
   refine aa g'27 ?_
   refine af (by kernel_rfl) (dH _ g 1 32) ?_
   refine aa g'27 ?_
   exact hQ _ _ (ae (.inl rfl) hbel (x := .bool (btw g 1 32)) (ag Tryz.results87) rfl ⟨by first | (simp [h1d, h2d]; done) | (simp only [h1, h2]; rfl), rfl⟩)
  ·have h2d := bsT h2
   have g'28 := (jn @h2 (jn @h2d g'26))
   refine aa g'28 ?_
   exact hQ _ _ (ae (.inl rfl) hbel (x := .bool false) (ag Tryz.results87) rfl ⟨by first | (simp [h1d, h2d]; done) | (simp only [h1, h2]; rfl), rfl⟩)
 ·have h1d := bsT h1
  have g'29 := (jn @h1 (jn @h1d g'25))
  refine aa g'29 ?_
  exact hQ _ _ (ae (.inl rfl) hbel (x := .bool false) (ag Tryz.results87) rfl ⟨by first | (simp [h1d]; done) | (simp only [h1]; rfl), rfl⟩)
end Go.Proofs.YtojbkljfioegkaaGreat
