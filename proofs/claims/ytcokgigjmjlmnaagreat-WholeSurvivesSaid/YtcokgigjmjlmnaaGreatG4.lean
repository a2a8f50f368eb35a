/- Parts of the proof: walks and plain facts. Conditions: as each theorem states. -/
import Derived.Test.YtcokgigjmjlmnaaGreatG3
import Derived.Test.YtcokgigjmjlmnaaGreatG2
namespace Go.Proofs.YtcokgigjmjlmnaaGreat
set_option linter.unusedSimpArgs false
set_option linter.unusedVariables false
open Go.RowKit
/-- The direction with the sum of two angles. -/
def turV (a b : Vec) : Vec := lowV (a.1 * b.1 - a.2.1 * b.2.1) (a.1 * b.2.1 + a.2.1 * b.1) (a.2.2 * b.2.2)
/-- The direction of a beam. -/
def beamV (h m : Int) : Vec := turV (dirV h) (dirV m)
/-- A valid vector in lowest terms. -/
def vecB (x y d : Int) : Bool := decide (1 ≤ d) && (decide (d ≤ 67108864) && (decide (-d ≤ x) && (decide (x ≤ d) && (decide (-d ≤ y) && (decide (y ≤ d) && decide (x * x + y * y = d * d))))))
theorem vecB_iff {x y d : Int} : vecB x y d = true ↔ (1 ≤ d ∧ d ≤ 67108864) ∧ (-d ≤ x ∧ x ≤ d) ∧ (-d ≤ y ∧ y ≤ d) ∧ x * x + y * y = d * d := by
  unfold vecB
  simp only [Bool.and_eq_true, decide_eq_true_eq]
  exact ⟨fun ⟨a, b, c, d, e, f, g⟩ => ⟨⟨a, b⟩, ⟨c, d⟩, ⟨e, f⟩, g⟩, fun ⟨⟨a, b⟩, ⟨c, d⟩, ⟨e, f⟩, g⟩ => ⟨a, b, c, d, e, f, g⟩⟩
theorem sq_le_of {x y d : Int} (hd : 0 ≤ d) (h : x * x + y * y = d * d) : (-d ≤ x ∧ x ≤ d) ∧ -d ≤ y ∧ y ≤ d := by
  have k : ∀ a b : Int, a * a + b * b = d * d → -d ≤ a ∧ a ≤ d := fun a b e => by
    have hb : 0 ≤ b * b := by
      rcases Int.le_total 0 b with q | q
      · exact Int.mul_nonneg q q
      · exact Int.mul_nonneg_of_nonpos_of_nonpos q q
    constructor
    · rcases Int.lt_or_le a (-d) with q | q
      · have t1 := Int.mul_le_mul_of_nonneg_left (show d ≤ -a by omega) hd
        have t2 := Int.mul_lt_mul_of_pos_right (show d < -a by omega) (show 0 < -a by omega)
        rw [Int.neg_mul_neg] at t2; omega
      · exact q
    · rcases Int.lt_or_le d a with q | q
      · have t1 := Int.mul_le_mul_of_nonneg_left (show d ≤ a by omega) hd
        have t2 := Int.mul_lt_mul_of_pos_right (show d < a by omega) (show 0 < a by omega)
        omega
      · exact q
  exact ⟨k x y h, k y x (by omega)⟩
theorem tur_ok {a b : Vec} (ha : vecOK a = true) (hb : vecOK b = true) : vecB (turV a b).1 (turV a b).2.1 (turV a b).2.2 = true := by
  obtain ⟨⟨a1, a2⟩, ⟨a3, a4⟩, ⟨a5, a6⟩, a7⟩ := vecOK_iff.1 ha
  obtain ⟨⟨b1, b2⟩, ⟨b3, b4⟩, ⟨b5, b6⟩, b7⟩ := vecOK_iff.1 hb
  unfold turV
  have hd : 0 < a.2.2 * b.2.2 := Int.mul_pos (by omega) (by omega)
  have hD : a.2.2 * b.2.2 ≤ 8065 * 8065 := Int.mul_le_mul a2 b2 (by omega) (by omega)
  obtain ⟨g, hg, e1, e2, e3⟩ := lowV_mul (x := a.1 * b.1 - a.2.1 * b.2.1) (y := a.1 * b.2.1 + a.2.1 * b.1) (show a.2.2 * b.2.2 ≠ 0 by omega)
  have q : (a.1 * b.1 - a.2.1 * b.2.1) * (a.1 * b.1 - a.2.1 * b.2.1) + (a.1 * b.2.1 + a.2.1 * b.1) * (a.1 * b.2.1 + a.2.1 * b.1) = (a.2.2 * b.2.2) * (a.2.2 * b.2.2) := by
    have z1 : (a.1 * b.1 - a.2.1 * b.2.1) * (a.1 * b.1 - a.2.1 * b.2.1) + (a.1 * b.2.1 + a.2.1 * b.1) * (a.1 * b.2.1 + a.2.1 * b.1) = (a.1 * a.1 + a.2.1 * a.2.1) * (b.1 * b.1 + b.2.1 * b.2.1) := by grind
    rw [z1, a7, b7]; grind
  generalize lowV (a.1 * b.1 - a.2.1 * b.2.1) (a.1 * b.2.1 + a.2.1 * b.1) (a.2.2 * b.2.2) = v at *
  rw [e1, e2, e3] at q
  rw [e3] at hd hD
  have vp : 0 < v.2.2 := by
    rcases Int.lt_or_le 0 v.2.2 with k | k
    · exact k
    · have := Int.mul_nonpos_of_nonpos_of_nonneg k (show 0 ≤ g by omega)
      omega
  have vl : v.2.2 ≤ v.2.2 * g := by
    have := Int.mul_le_mul_of_nonneg_left (show 1 ≤ g by omega) (show 0 ≤ v.2.2 by omega)
    omega
  have s : v.1 * v.1 + v.2.1 * v.2.1 = v.2.2 * v.2.2 := by
    have z : (v.1 * v.1 + v.2.1 * v.2.1) * (g * g) = v.2.2 * v.2.2 * (g * g) := by grind
    exact Int.eq_of_mul_eq_mul_right (show g * g ≠ 0 by have := Int.mul_pos hg hg; omega) z
  have r := sq_le_of (show 0 ≤ v.2.2 by omega) s
  exact vecB_iff.2 ⟨⟨by omega, by omega⟩, r.1, r.2, s⟩
theorem beam_ok (h m : Int) : vecB (beamV h m).1 (beamV h m).2.1 (beamV h m).2.2 = true := tur_ok (dirV_ok h) (dirV_ok m)
theorem vecOK_B {v : Vec} (h : vecOK v = true) : vecB v.1 v.2.1 v.2.2 = true := by
  obtain ⟨a, b, c, d⟩ := vecOK_iff.1 h
  exact vecB_iff.2 ⟨by omega, b, c, d⟩
theorem vec_nz {x y d : Int} (h : vecB x y d = true) : ¬ (x = 0 ∧ y = 0) := fun k => by
  obtain ⟨⟨h1, -⟩, -, -, h⟩ := vecB_iff.1 h
  rw [k.1, k.2] at h
  have := Int.mul_pos (show 0 < d by omega) (show 0 < d by omega)
  omega
open Go.RowKit
/-- Fractions n/d with d above 0, as pairs. -/
abbrev Fr2 := Int × Int
theorem fr_trans {a b c d e f : Int} (hb : 0 < b) (hd : 0 < d) (hf : 0 < f) (h1 : a * d ≤ c * b) (h2 : c * f ≤ e * d) : a * f ≤ e * b := by
  have k1 := Int.mul_le_mul_of_nonneg_right h1 (show 0 ≤ f by omega)
  have k2 := Int.mul_le_mul_of_nonneg_right h2 (show 0 ≤ b by omega)
  have e1 : a * d * f = a * f * d := by grind
  have e2 : c * b * f = c * f * b := by grind
  have e3 : e * d * b = e * b * d := by grind
  rw [e1, e2] at k1
  rw [e3] at k2
  exact Int.le_of_mul_le_mul_right (Int.le_trans k1 k2) hd
theorem fr_trans_lt {a b c d e f : Int} (hb : 0 < b) (hd : 0 < d) (hf : 0 < f) (h1 : a * d ≤ c * b) (h2 : c * f < e * d) : a * f < e * b := by
  have k1 := Int.mul_le_mul_of_nonneg_right h1 (show 0 ≤ f by omega)
  have k2 := Int.mul_lt_mul_of_pos_right h2 hb
  have e1 : a * d * f = a * f * d := by grind
  have e2 : c * b * f = c * f * b := by grind
  have e3 : e * d * b = e * b * d := by grind
  rw [e1, e2] at k1
  rw [e3] at k2
  exact Int.lt_of_mul_lt_mul_right (Int.lt_of_le_of_lt k1 k2) (show 0 ≤ d by omega)
/-- The greater of two fractions, and the less. -/
def mxF (s l : Fr2) : Fr2 := if s.1 * l.2 < l.1 * s.2 then l else s
def mnF (s h : Fr2) : Fr2 := if h.1 * s.2 < s.1 * h.2 then h else s
theorem mxF_pos {s l : Fr2} (hs : 0 < s.2) (hl : 0 < l.2) : 0 < (mxF s l).2 := by unfold mxF; split <;> assumption
theorem mnF_pos {s h : Fr2} (hs : 0 < s.2) (hh : 0 < h.2) : 0 < (mnF s h).2 := by unfold mnF; split <;> assumption
theorem mxF_le {s l : Fr2} {n m : Int} (hs : 0 < s.2) (hl : 0 < l.2) (hm : 0 < m) : (mxF s l).1 * m ≤ n * (mxF s l).2 ↔ s.1 * m ≤ n * s.2 ∧ l.1 * m ≤ n * l.2 := by
  unfold mxF
  split
  · rename_i h
    exact ⟨fun k => ⟨fr_trans hs hl hm (by omega) k, k⟩, fun k => k.2⟩
  · rename_i h
    exact ⟨fun k => ⟨k, fr_trans hl hs hm (by omega) k⟩, fun k => k.1⟩
theorem mnF_le {s h : Fr2} {n m : Int} (hs : 0 < s.2) (hh : 0 < h.2) (hm : 0 < m) : n * (mnF s h).2 ≤ (mnF s h).1 * m ↔ n * s.2 ≤ s.1 * m ∧ n * h.2 ≤ h.1 * m := by
  unfold mnF
  split
  · rename_i g
    exact ⟨fun k => ⟨fr_trans hm hh hs k (by omega), k⟩, fun k => k.2⟩
  · rename_i g
    exact ⟨fun k => ⟨k, fr_trans hm hs hh k (by omega)⟩, fun k => k.1⟩
/-- The parameters at which a coordinate that begins at p and grows by d (not 0) is from a to b. -/
def sbL (p d a b : Int) : Fr2 := if d < 0 then (p - b, -d) else (a - p, d)
def sbH (p d a b : Int) : Fr2 := if d < 0 then (p - a, -d) else (b - p, d)
theorem sb_pos {p d a b : Int} (hd : ¬ d = 0) : 0 < (sbL p d a b).2 ∧ 0 < (sbH p d a b).2 := by
  unfold sbL sbH; split <;> exact ⟨by simp only; omega, by simp only; omega⟩
theorem sb_in {p d a b n m : Int} : ((sbL p d a b).1 * m ≤ n * (sbL p d a b).2 ∧ n * (sbH p d a b).2 ≤ (sbH p d a b).1 * m) ↔ (m * a ≤ m * p + n * d ∧ m * p + n * d ≤ m * b) := by
  unfold sbL sbH
  split
  · simp only
    have e1 : (p - b) * m = m * p - m * b := by grind
    have e2 : (p - a) * m = m * p - m * a := by grind
    have e3 : n * -d = -(n * d) := by grind
    omega
  · simp only
    have e1 : (a - p) * m = m * a - m * p := by grind
    have e2 : (b - p) * m = m * b - m * p := by grind
    omega
/-- A ray's point at the parameter n/m is in a rectangle. -/
def RayP (px py vx vy x0 y0 x1 y1 n m : Int) : Prop := (m * x0 ≤ m * px + n * vx ∧ m * px + n * vx ≤ m * x1) ∧ m * y0 ≤ m * py + n * vy ∧ m * py + n * vy ≤ m * y1
/-- A span narrowed by a coordinate: whether there is anything left, and what. -/
def slabV (s : Fr2 × Fr2) (p d a b : Int) : Fr2 × Fr2 := if d = 0 then s else (mxF s.1 (sbL p d a b), mnF s.2 (sbH p d a b))
def slabB (s : Fr2 × Fr2) (p d a b : Int) : Bool := if d = 0 then decide (a ≤ p) && decide (p ≤ b) else !decide ((slabV s p d a b).2.1 * (slabV s p d a b).1.2 < (slabV s p d a b).1.1 * (slabV s p d a b).2.2)
def okS (s : Fr2 × Fr2) : Prop := 0 < s.1.2 ∧ 0 < s.2.2
def inS (s : Fr2 × Fr2) (n m : Int) : Prop := s.1.1 * m ≤ n * s.1.2 ∧ n * s.2.2 ≤ s.2.1 * m
theorem slab_ok {s : Fr2 × Fr2} {p d a b : Int} (h : okS s) : okS (slabV s p d a b) := by
  unfold slabV; split
  · exact h
  · rename_i hd
    exact ⟨mxF_pos h.1 (sb_pos hd).1, mnF_pos h.2 (sb_pos hd).2⟩
theorem slab_in {s : Fr2 × Fr2} {p d a b n m : Int} (h : okS s) (hm : 0 < m) (hd0 : d = 0 → a ≤ p ∧ p ≤ b) : inS (slabV s p d a b) n m ↔ inS s n m ∧ m * a ≤ m * p + n * d ∧ m * p + n * d ≤ m * b := by
  unfold slabV; split
  · rename_i hd
    have hh := hd0 hd
    have k1 := Int.mul_le_mul_of_nonneg_left hh.1 (show 0 ≤ m by omega)
    have k2 := Int.mul_le_mul_of_nonneg_left hh.2 (show 0 ≤ m by omega)
    rw [hd, Int.mul_zero, Int.add_zero]
    exact ⟨fun k => ⟨k, k1, k2⟩, fun k => k.1⟩
  · rename_i hd
    unfold inS
    simp only
    rw [mxF_le h.1 (sb_pos hd).1 hm, mnF_le h.2 (sb_pos hd).2 hm, ← sb_in]
    exact ⟨fun k => ⟨⟨k.1.1, k.2.1⟩, k.1.2, k.2.2⟩, fun k => ⟨⟨k.1.1, k.2.1⟩, k.1.2, k.2.2⟩⟩
/-- A span is empty exactly if its ends are in the wrong order. -/
theorem inS_lo {s : Fr2 × Fr2} (h : okS s) : inS s s.1.1 s.1.2 ↔ ¬ s.2.1 * s.1.2 < s.1.1 * s.2.2 := by
  unfold inS
  exact ⟨fun k => by have := k.2; omega, fun k => ⟨by omega, by omega⟩⟩
theorem inS_ord {s : Fr2 × Fr2} {n m : Int} (h : okS s) (hm : 0 < m) (k : inS s n m) : ¬ s.2.1 * s.1.2 < s.1.1 * s.2.2 := by
  have := fr_trans h.1 hm h.2 k.1 k.2; omega
/-- What the program keeps of a ray in a rectangle. -/
def thS0 : Fr2 × Fr2 := ((0, 1), (8388608, 1))
def thS (px py vx vy x0 y0 x1 y1 : Int) : Fr2 × Fr2 := slabV (slabV thS0 px vx x0 x1) py vy y0 y1
def thB (px py vx vy x0 y0 x1 y1 : Int) : Bool := slabB thS0 px vx x0 x1 && slabB (slabV thS0 px vx x0 x1) py vy y0 y1
theorem thS0_ok : okS thS0 := ⟨by decide, by decide⟩
theorem thS_ok {px py vx vy x0 y0 x1 y1 : Int} : okS (thS px py vx vy x0 y0 x1 y1) := slab_ok (slab_ok thS0_ok)
theorem thS0_in {n m : Int} : inS thS0 n m ↔ 0 ≤ n ∧ n ≤ 8388608 * m := by
  unfold inS thS0; simp only; omega
/-- The bound 2^23 takes nothing away: a direction moves by at least 1. -/
theorem ray_far {px py vx vy x0 y0 x1 y1 n m : Int} (hv : ¬ (vx = 0 ∧ vy = 0)) (hx : px - x0 ≤ 8388608 ∧ x1 - px ≤ 8388608) (hy : py - y0 ≤ 8388608 ∧ y1 - py ≤ 8388608) (hn : 0 ≤ n) (hm : 0 < m) (h : RayP px py vx vy x0 y0 x1 y1 n m) : n ≤ 8388608 * m := by
  obtain ⟨⟨h1, h2⟩, h3, h4⟩ := h
  have one : ∀ {p v a b : Int}, ¬ v = 0 → p - a ≤ 8388608 → b - p ≤ 8388608 → m * a ≤ m * p + n * v → m * p + n * v ≤ m * b → n ≤ 8388608 * m := fun {p v a b} hv ha hb k1 k2 => by
    rcases (by omega : 1 ≤ v ∨ v ≤ -1) with h | h
    · have a1 := Int.mul_le_mul_of_nonneg_left h hn
      have a2 := Int.mul_le_mul_of_nonneg_left hb (show 0 ≤ m by omega)
      have e : m * (b - p) = m * b - m * p := by grind
      omega
    · have a1 := Int.mul_le_mul_of_nonneg_left h hn
      have a2 := Int.mul_le_mul_of_nonneg_left ha (show 0 ≤ m by omega)
      have e : m * (p - a) = m * p - m * a := by grind
      omega
  by_cases hx0 : vx = 0
  · exact one (fun h0 => hv ⟨hx0, h0⟩) hy.1 hy.2 h3 h4
  · exact one hx0 hx.1 hx.2 h1 h2
theorem slabB_iff {s : Fr2 × Fr2} {p d a b : Int} (h : okS s) : slabB s p d a b = true ↔ (d = 0 → a ≤ p ∧ p ≤ b) ∧ (¬ d = 0 → inS (slabV s p d a b) (slabV s p d a b).1.1 (slabV s p d a b).1.2) := by
  unfold slabB
  split
  · rename_i hd
    simp only [Bool.and_eq_true, decide_eq_true_eq]
    exact ⟨fun k => ⟨fun _ => k, fun h => absurd hd h⟩, fun k => k.1 hd⟩
  · rename_i hd
    rw [inS_lo (slab_ok h)]
    simp only [Bool.not_eq_true', decide_eq_false_iff_not]
    exact ⟨fun k => ⟨fun h => absurd h hd, fun _ => k⟩, fun k => k.2 hd⟩
/-- The program's span holds exactly the parameters at which the ray is in the rectangle, and there are such exactly if it says so. -/
theorem th_in {px py vx vy x0 y0 x1 y1 n m : Int} (hm : 0 < m) (hb : thB px py vx vy x0 y0 x1 y1 = true) : inS (thS px py vx vy x0 y0 x1 y1) n m ↔ (0 ≤ n ∧ n ≤ 8388608 * m) ∧ RayP px py vx vy x0 y0 x1 y1 n m := by
  unfold thB at hb
  rw [Bool.and_eq_true, slabB_iff thS0_ok, slabB_iff (slab_ok thS0_ok)] at hb
  unfold thS RayP
  rw [slab_in (slab_ok thS0_ok) hm hb.2.1, slab_in thS0_ok hm hb.1.1, thS0_in]
  exact ⟨fun k => ⟨k.1.1, k.1.2, k.2⟩, fun k => ⟨⟨k.1, k.2.1⟩, k.2.2⟩⟩
theorem th_lo {px py vx vy x0 y0 x1 y1 : Int} (hv : ¬ (vx = 0 ∧ vy = 0)) (hb : thB px py vx vy x0 y0 x1 y1 = true) : inS (thS px py vx vy x0 y0 x1 y1) (thS px py vx vy x0 y0 x1 y1).1.1 (thS px py vx vy x0 y0 x1 y1).1.2 := by
  have hb' := hb
  unfold thB at hb
  rw [Bool.and_eq_true, slabB_iff thS0_ok, slabB_iff (slab_ok thS0_ok)] at hb
  by_cases hy : vy = 0
  · have hx : ¬ vx = 0 := fun h => hv ⟨h, hy⟩
    have e : thS px py vx vy x0 y0 x1 y1 = slabV thS0 px vx x0 x1 := if_pos hy
    rw [e]; exact hb.1.2 hx
  · exact hb.2.2 hy
theorem th_none {px py vx vy x0 y0 x1 y1 n m : Int} (hm : 0 < m) (hb : thB px py vx vy x0 y0 x1 y1 = false) (hn : 0 ≤ n ∧ n ≤ 8388608 * m) : ¬ RayP px py vx vy x0 y0 x1 y1 n m := fun k => by
  have : thB px py vx vy x0 y0 x1 y1 = true := by
    have hx : vx = 0 → x0 ≤ px ∧ px ≤ x1 := fun h => by
      have k1 := k.1
      rw [h, Int.mul_zero, Int.add_zero] at k1
      exact ⟨Int.le_of_mul_le_mul_left k1.1 hm, Int.le_of_mul_le_mul_left k1.2 hm⟩
    have hy : vy = 0 → y0 ≤ py ∧ py ≤ y1 := fun h => by
      have k1 := k.2
      rw [h, Int.mul_zero, Int.add_zero] at k1
      exact ⟨Int.le_of_mul_le_mul_left k1.1 hm, Int.le_of_mul_le_mul_left k1.2 hm⟩
    have i1 : inS (slabV thS0 px vx x0 x1) n m := (slab_in thS0_ok hm hx).2 ⟨thS0_in.2 hn, k.1⟩
    have i2 : inS (slabV (slabV thS0 px vx x0 x1) py vy y0 y1) n m := (slab_in (slab_ok thS0_ok) hm hy).2 ⟨i1, k.2⟩
    unfold thB
    rw [Bool.and_eq_true, slabB_iff thS0_ok, slabB_iff (slab_ok thS0_ok)]
    exact ⟨⟨hx, fun _ => (inS_lo (slab_ok thS0_ok)).2 (inS_ord (slab_ok thS0_ok) hm i1)⟩, hy, fun _ => (inS_lo (slab_ok (slab_ok thS0_ok))).2 (inS_ord (slab_ok (slab_ok thS0_ok)) hm i2)⟩
  rw [hb] at this; cases this
/-- The program's Before: some parameter n/m has a distance below hi. -/
def bfrB (px py vx vy vd hi x0 y0 x1 y1 : Int) : Bool := thB px py vx vy x0 y0 x1 y1 && decide ((thS px py vx vy x0 y0 x1 y1).1.1 * vd < hi * (thS px py vx vy x0 y0 x1 y1).1.2)
/-- The program's Meets: some parameter n/m has a distance from lo to hi. -/
def meeB (px py vx vy vd lo hi x0 y0 x1 y1 : Int) : Bool := thB px py vx vy x0 y0 x1 y1 && (decide (lo * (thS px py vx vy x0 y0 x1 y1).2.2 ≤ (thS px py vx vy x0 y0 x1 y1).2.1 * vd) && decide ((thS px py vx vy x0 y0 x1 y1).1.1 * vd ≤ hi * (thS px py vx vy x0 y0 x1 y1).1.2))
theorem bef_iff {px py vx vy vd hi x0 y0 x1 y1 : Int} (hd : 0 < vd) (hv : ¬ (vx = 0 ∧ vy = 0)) (hx : px - x0 ≤ 8388608 ∧ x1 - px ≤ 8388608) (hy : py - y0 ≤ 8388608 ∧ y1 - py ≤ 8388608) :
    bfrB px py vx vy vd hi x0 y0 x1 y1 = true ↔ ∃ n m : Int, 0 ≤ n ∧ 0 < m ∧ n * vd < hi * m ∧ RayP px py vx vy x0 y0 x1 y1 n m := by
  unfold bfrB
  rw [Bool.and_eq_true, decide_eq_true_eq]
  constructor
  · rintro ⟨hb, h⟩
    have hl := (th_in thS_ok.1 hb).1 (th_lo hv hb)
    exact ⟨_, _, hl.1.1, thS_ok.1, h, hl.2⟩
  · rintro ⟨n, m, hn, hm, h, hr⟩
    have hf := ray_far hv hx hy hn hm hr
    have hb : thB px py vx vy x0 y0 x1 y1 = true := by
      cases hq : thB px py vx vy x0 y0 x1 y1
      · exact absurd hr (th_none hm hq ⟨hn, hf⟩)
      · rfl
    have hi' := (th_in hm hb).2 ⟨⟨hn, hf⟩, hr⟩
    refine ⟨hb, ?_⟩
    have hp : 0 < (thS px py vx vy x0 y0 x1 y1).1.2 := thS_ok.1
    have h1 := hi'.1
    generalize (thS px py vx vy x0 y0 x1 y1).1.1 = a at *
    generalize (thS px py vx vy x0 y0 x1 y1).1.2 = b at *
    have k := fr_trans_lt (a := a) (b := b) (c := n) (d := m) (e := hi) (f := vd) hp hm hd h1 h
    exact k
theorem mee_iff {px py vx vy vd lo hi x0 y0 x1 y1 : Int} (hd : 0 < vd) (hv : ¬ (vx = 0 ∧ vy = 0)) (hx : px - x0 ≤ 8388608 ∧ x1 - px ≤ 8388608) (hy : py - y0 ≤ 8388608 ∧ y1 - py ≤ 8388608) (h0 : 0 ≤ lo) (hlh : lo ≤ hi) :
    meeB px py vx vy vd lo hi x0 y0 x1 y1 = true ↔ ∃ n m : Int, 0 ≤ n ∧ 0 < m ∧ lo * m ≤ n * vd ∧ n * vd ≤ hi * m ∧ RayP px py vx vy x0 y0 x1 y1 n m := by
  unfold meeB
  rw [Bool.and_eq_true, Bool.and_eq_true, decide_eq_true_eq, decide_eq_true_eq]
  constructor
  · rintro ⟨hb, h1, h2⟩
    have hl := th_lo hv hb
    have hp : okS (thS px py vx vy x0 y0 x1 y1) := thS_ok
    have hin : ∀ n m : Int, 0 < m → inS (thS px py vx vy x0 y0 x1 y1) n m → (0 ≤ n ∧ n ≤ 8388608 * m) ∧ RayP px py vx vy x0 y0 x1 y1 n m := fun n m hm => (th_in hm hb).1
    generalize thS px py vx vy x0 y0 x1 y1 = s at *
    by_cases hc : lo * s.1.2 ≤ s.1.1 * vd
    · have k := hin _ _ hp.1 hl
      exact ⟨_, _, k.1.1, hp.1, hc, h2, k.2⟩
    · have i : inS s lo vd := by
        refine ⟨by omega, ?_⟩
        omega
      have k := hin _ _ hd i
      have m1 := Int.mul_le_mul_of_nonneg_right hlh (show 0 ≤ vd by omega)
      exact ⟨_, _, k.1.1, hd, by omega, by omega, k.2⟩
  · rintro ⟨n, m, hn, hm, h1, h2, hr⟩
    have hf := ray_far hv hx hy hn hm hr
    have hb : thB px py vx vy x0 y0 x1 y1 = true := by
      cases hq : thB px py vx vy x0 y0 x1 y1
      · exact absurd hr (th_none hm hq ⟨hn, hf⟩)
      · rfl
    have hi' := (th_in hm hb).2 ⟨⟨hn, hf⟩, hr⟩
    have hp : okS (thS px py vx vy x0 y0 x1 y1) := thS_ok
    refine ⟨hb, ?_, ?_⟩
    · generalize thS px py vx vy x0 y0 x1 y1 = s at *
      have k := fr_trans (a := lo) (b := vd) (c := n) (d := m) (e := s.2.1) (f := s.2.2) hd hm hp.2 h1 hi'.2
      exact k
    · generalize thS px py vx vy x0 y0 x1 y1 = s at *
      have k := fr_trans (a := s.1.1) (b := s.1.2) (c := n) (d := m) (e := hi) (f := vd) hp.1 hm hd hi'.1 h2
      exact k
/-- Lowest terms compare the same. -/
theorem low_lt {g n d k : Int} (hg : 0 < g) (h1 : g ∣ n) (h2 : g ∣ d) : n / g < k * (d / g) ↔ n < k * d := by
  obtain ⟨a, rfl⟩ := h1
  obtain ⟨b, rfl⟩ := h2
  rw [Int.mul_ediv_cancel_left _ (by omega), Int.mul_ediv_cancel_left _ (by omega)]
  have e : k * (g * b) = g * (k * b) := by grind
  rw [e]
  exact (Int.mul_lt_mul_left hg).symm
theorem low_le {g n d k : Int} (hg : 0 < g) (h1 : g ∣ n) (h2 : g ∣ d) : (n / g ≤ k * (d / g) ↔ n ≤ k * d) ∧ (k * (d / g) ≤ n / g ↔ k * d ≤ n) := by
  obtain ⟨a, rfl⟩ := h1
  obtain ⟨b, rfl⟩ := h2
  rw [Int.mul_ediv_cancel_left _ (by omega), Int.mul_ediv_cancel_left _ (by omega)]
  have e : k * (g * b) = g * (k * b) := by grind
  rw [e]
  exact ⟨(Int.mul_le_mul_left hg).symm, (Int.mul_le_mul_left hg).symm⟩
/-- How far a coordinate moves at distances from lo to hi, in whole numbers around it. -/
theorem reach_bd {v D lo hi n m mn mx : Int} (hD : 0 < D) (hm : 0 < m) (h1 : lo * m ≤ n * D) (h2 : n * D ≤ hi * m) (k1 : mn ≤ lo * v) (k2 : mn ≤ hi * v) (k3 : lo * v ≤ mx) (k4 : hi * v ≤ mx) : m * (mn / D) ≤ n * v ∧ n * v ≤ m * (mx / D + 1) := by
  have q1 : D * (mn / D) ≤ mn := Int.mul_ediv_self_le (by omega)
  have q2 : mx < D * (mx / D + 1) := by
    have := Int.lt_mul_ediv_self_add (x := mx) hD
    have e : D * (mx / D + 1) = D * (mx / D) + D := by grind
    omega
  have w1 : m * mn ≤ n * v * D ∧ n * v * D ≤ m * mx := by
    have a1 := Int.mul_le_mul_of_nonneg_left k1 (show 0 ≤ m by omega)
    have a2 := Int.mul_le_mul_of_nonneg_left k2 (show 0 ≤ m by omega)
    have a3 := Int.mul_le_mul_of_nonneg_left k3 (show 0 ≤ m by omega)
    have a4 := Int.mul_le_mul_of_nonneg_left k4 (show 0 ≤ m by omega)
    rcases Int.le_total 0 v with hv | hv
    · have b1 := Int.mul_le_mul_of_nonneg_right h1 hv
      have b2 := Int.mul_le_mul_of_nonneg_right h2 hv
      have e1 : lo * m * v = m * (lo * v) := by grind
      have e2 : n * D * v = n * v * D := by grind
      have e3 : hi * m * v = m * (hi * v) := by grind
      omega
    · have b1 := Int.mul_le_mul_of_nonpos_right h1 hv
      have b2 := Int.mul_le_mul_of_nonpos_right h2 hv
      have e1 : lo * m * v = m * (lo * v) := by grind
      have e2 : n * D * v = n * v * D := by grind
      have e3 : hi * m * v = m * (hi * v) := by grind
      omega
  constructor
  · have a1 := Int.mul_le_mul_of_nonneg_left q1 (show 0 ≤ m by omega)
    have e : m * (D * (mn / D)) = m * (mn / D) * D := by grind
    exact Int.le_of_mul_le_mul_right (show m * (mn / D) * D ≤ n * v * D by omega) hD
  · have a1 := Int.mul_le_mul_of_nonneg_left (show mx ≤ D * (mx / D + 1) by omega) (show 0 ≤ m by omega)
    have e : m * (D * (mx / D + 1)) = m * (mx / D + 1) * D := by grind
    exact Int.le_of_mul_le_mul_right (show n * v * D ≤ m * (mx / D + 1) * D by omega) hD
/-- A cell that is met from a rectangle lies in the program's range of columns (or rows). -/
theorem met_in {v D lo hi n m mn mx c X0 X1 : Int} (hD : 0 < D) (hm : 0 < m) (h1 : lo * m ≤ n * D) (h2 : n * D ≤ hi * m) (k1 : mn ≤ lo * v) (k2 : mn ≤ hi * v) (k3 : lo * v ≤ mx) (k4 : hi * v ≤ mx)
    (hr : m * (c * 64 - X1) ≤ m * 0 + n * v ∧ m * 0 + n * v ≤ m * (c * 64 + 64 - X0)) : X0 + mn / D ≤ c * 64 + 64 ∧ c * 64 ≤ X1 + mx / D + 1 := by
  have q := reach_bd hD hm h1 h2 k1 k2 k3 k4
  rw [Int.mul_zero, Int.zero_add] at hr
  have a := Int.le_of_mul_le_mul_left (Int.le_trans q.1 hr.2) hm
  have b := Int.le_of_mul_le_mul_left (Int.le_trans hr.1 q.2) hm
  omega
/-- What is met before a distance is met up to it. -/
theorem bef_mee {px py vx vy vd hi x0 y0 x1 y1 : Int} (h : ∃ n m : Int, 0 ≤ n ∧ 0 < m ∧ n * vd < hi * m ∧ RayP px py vx vy x0 y0 x1 y1 n m) (hd : 0 < vd) : ∃ n m : Int, 0 ≤ n ∧ 0 < m ∧ 0 * m ≤ n * vd ∧ n * vd ≤ hi * m ∧ RayP px py vx vy x0 y0 x1 y1 n m := by
  obtain ⟨n, m, hn, hm, h, hr⟩ := h
  have := Int.mul_nonneg hn (show 0 ≤ vd by omega)
  exact ⟨n, m, hn, hm, by omega, by omega, hr⟩
/-- From a point, or from the origin with the point taken off. -/
theorem ray_sh {px py vx vy x0 y0 x1 y1 n m : Int} : RayP px py vx vy x0 y0 x1 y1 n m ↔ RayP 0 0 vx vy (x0 - px) (y0 - py) (x1 - px) (y1 - py) n m := by
  unfold RayP
  have e1 : m * (x0 - px) = m * x0 - m * px := by grind
  have e2 : m * (x1 - px) = m * x1 - m * px := by grind
  have e3 : m * (y0 - py) = m * y0 - m * py := by grind
  have e4 : m * (y1 - py) = m * y1 - m * py := by grind
  rw [e1, e2, e3, e4]
  omega
/-- The cells of a set of corners: if each corner's ray is before hi in the square, then so is the ray of each point of the box (used by KnownLess: a part of the box). -/
theorem ray_conv {px qx py vx vy x0 y0 x1 y1 n m n' m' a T vd hi : Int} (hT : 0 < T) (ha : 0 ≤ a ∧ a ≤ T) (hn : 0 ≤ n) (hm : 0 < m) (hn' : 0 ≤ n') (hm' : 0 < m') (hb : n * vd < hi * m) (hb' : n' * vd < hi * m') (h : RayP px py vx vy x0 y0 x1 y1 n m) (h' : RayP qx py vx vy x0 y0 x1 y1 n' m')
    {rx : Int} (hx : T * rx = (T - a) * px + a * qx) : ∃ k l : Int, 0 ≤ k ∧ 0 < l ∧ k * vd < hi * l ∧ RayP rx py vx vy x0 y0 x1 y1 k l := by
  obtain ⟨⟨a1, a2⟩, a3, a4⟩ := h
  obtain ⟨⟨b1, b2⟩, b3, b4⟩ := h'
  -- the point (T-a)*(n/m) + a*(n'/m') over T
  have hTa : 0 ≤ T - a := by omega
  have A : 0 ≤ (T - a) * m' := Int.mul_nonneg hTa (by omega)
  have B : 0 ≤ a * m := Int.mul_nonneg ha.1 (by omega)
  have Tmm : 0 < T * m * m' := Int.mul_pos (Int.mul_pos hT hm) hm'
  refine ⟨(T - a) * m' * n + a * m * n', T * m * m', by have := Int.mul_nonneg A hn; have := Int.mul_nonneg B hn'; omega, Tmm, ?_, ⟨?_, ?_⟩, ?_, ?_⟩
  · have s : 0 < (T - a) * m' ∨ 0 < a * m := by
      rcases (by omega : 0 < T - a ∨ 0 < a) with h | h
      · exact .inl (Int.mul_pos h hm')
      · exact .inr (Int.mul_pos h hm)
    have e1 : ((T - a) * m' * n + a * m * n') * vd = (T - a) * m' * (n * vd) + a * m * (n' * vd) := by grind
    have e2 : hi * (T * m * m') = (T - a) * m' * (hi * m) + a * m * (hi * m') := by grind
    rw [e1, e2]
    rcases s with s | s
    · have p1 := Int.mul_lt_mul_of_pos_left hb s
      have p2 := Int.mul_le_mul_of_nonneg_left (Int.le_of_lt hb') B
      omega
    · have p1 := Int.mul_le_mul_of_nonneg_left (Int.le_of_lt hb) A
      have p2 := Int.mul_lt_mul_of_pos_left hb' s
      omega
  · have p1 := Int.mul_le_mul_of_nonneg_left a1 A
    have p2 := Int.mul_le_mul_of_nonneg_left b1 B
    have e : T * m * m' * rx + ((T - a) * m' * n + a * m * n') * vx = (T - a) * m' * (m * px + n * vx) + a * m * (m' * qx + n' * vx) := by grind
    have e2 : T * m * m' * x0 = (T - a) * m' * (m * x0) + a * m * (m' * x0) := by grind
    omega
  · have p1 := Int.mul_le_mul_of_nonneg_left a2 A
    have p2 := Int.mul_le_mul_of_nonneg_left b2 B
    have e : T * m * m' * rx + ((T - a) * m' * n + a * m * n') * vx = (T - a) * m' * (m * px + n * vx) + a * m * (m' * qx + n' * vx) := by grind
    have e2 : T * m * m' * x1 = (T - a) * m' * (m * x1) + a * m * (m' * x1) := by grind
    omega
  · have p1 := Int.mul_le_mul_of_nonneg_left a3 A
    have p2 := Int.mul_le_mul_of_nonneg_left b3 B
    have e : T * m * m' * py + ((T - a) * m' * n + a * m * n') * vy = (T - a) * m' * (m * py + n * vy) + a * m * (m' * py + n' * vy) := by grind
    have e2 : T * m * m' * y0 = (T - a) * m' * (m * y0) + a * m * (m' * y0) := by grind
    omega
  · have p1 := Int.mul_le_mul_of_nonneg_left a4 A
    have p2 := Int.mul_le_mul_of_nonneg_left b4 B
    have e : T * m * m' * py + ((T - a) * m' * n + a * m * n') * vy = (T - a) * m' * (m * py + n * vy) + a * m * (m' * py + n' * vy) := by grind
    have e2 : T * m * m' * y1 = (T - a) * m' * (m * y1) + a * m * (m' * y1) := by grind
    omega
theorem ray_swap {px py vx vy x0 y0 x1 y1 n m : Int} : RayP px py vx vy x0 y0 x1 y1 n m ↔ RayP py px vy vx y0 x0 y1 x1 n m := ⟨fun h => ⟨h.2, h.1⟩, fun h => ⟨h.2, h.1⟩⟩
/-- Some parameter before hi. -/
def BefP (px py vx vy vd hi x0 y0 x1 y1 : Int) : Prop := ∃ n m : Int, 0 ≤ n ∧ 0 < m ∧ n * vd < hi * m ∧ RayP px py vx vy x0 y0 x1 y1 n m
theorem bef_swap {px py vx vy vd hi x0 y0 x1 y1 : Int} : BefP px py vx vy vd hi x0 y0 x1 y1 ↔ BefP py px vy vx vd hi y0 x0 y1 x1 :=
  ⟨fun ⟨n, m, a, b, c, d⟩ => ⟨n, m, a, b, c, ray_swap.1 d⟩, fun ⟨n, m, a, b, c, d⟩ => ⟨n, m, a, b, c, ray_swap.2 d⟩⟩
theorem bef_line {ax bx py vx vy vd hi x0 y0 x1 y1 rx : Int} (hr : ax ≤ rx ∧ rx ≤ bx) (h : BefP ax py vx vy vd hi x0 y0 x1 y1) (k : BefP bx py vx vy vd hi x0 y0 x1 y1) : BefP rx py vx vy vd hi x0 y0 x1 y1 := by
  by_cases e : ax = bx
  · rw [show rx = ax by omega]; exact h
  · obtain ⟨n, m, h1, h2, h3, h4⟩ := h
    obtain ⟨n', m', k1, k2, k3, k4⟩ := k
    exact ray_conv (T := bx - ax) (a := rx - ax) (by omega) (by omega) h1 h2 k1 k2 h3 k3 h4 k4 (by grind)
/-- What all four corners of a box meet before hi, each of its points does. -/
theorem bef_box {ax ay bx by' vx vy vd hi x0 y0 x1 y1 rx ry : Int} (hx : ax ≤ rx ∧ rx ≤ bx) (hy : ay ≤ ry ∧ ry ≤ by') (h1 : BefP ax ay vx vy vd hi x0 y0 x1 y1) (h2 : BefP bx ay vx vy vd hi x0 y0 x1 y1) (h3 : BefP ax by' vx vy vd hi x0 y0 x1 y1) (h4 : BefP bx by' vx vy vd hi x0 y0 x1 y1) : BefP rx ry vx vy vd hi x0 y0 x1 y1 :=
  bef_swap.1 (bef_line hy (bef_swap.1 (bef_line hx h1 h2)) (bef_swap.1 (bef_line hx h3 h4)))
/-- A point of a box sees a square at distances at which the box's sweep meets it. -/
theorem mee_box {ax ay bx by' vx vy vd lo hi x0 y0 x1 y1 rx ry : Int} (hx : ax ≤ rx ∧ rx ≤ bx) (hy : ay ≤ ry ∧ ry ≤ by') (h : ∃ n m : Int, 0 ≤ n ∧ 0 < m ∧ lo * m ≤ n * vd ∧ n * vd ≤ hi * m ∧ RayP rx ry vx vy x0 y0 x1 y1 n m) :
    ∃ n m : Int, 0 ≤ n ∧ 0 < m ∧ lo * m ≤ n * vd ∧ n * vd ≤ hi * m ∧ RayP 0 0 vx vy (x0 - bx) (y0 - by') (x1 - ax) (y1 - ay) n m := by
  obtain ⟨n, m, h1, h2, h3, h4, ⟨a1, a2⟩, a3, a4⟩ := h
  refine ⟨n, m, h1, h2, h3, h4, ⟨?_, ?_⟩, ?_, ?_⟩
  · have := Int.mul_le_mul_of_nonneg_left hx.2 (show 0 ≤ m by omega)
    have e : m * (x0 - bx) = m * x0 - m * bx := by grind
    omega
  · have := Int.mul_le_mul_of_nonneg_left hx.1 (show 0 ≤ m by omega)
    have e : m * (x1 - ax) = m * x1 - m * ax := by grind
    omega
  · have := Int.mul_le_mul_of_nonneg_left hy.2 (show 0 ≤ m by omega)
    have e : m * (y0 - by') = m * y0 - m * by' := by grind
    omega
  · have := Int.mul_le_mul_of_nonneg_left hy.1 (show 0 ≤ m by omega)
    have e : m * (y1 - ay) = m * y1 - m * ay := by grind
    omega
/-- A cell that a corner's ray meets before far is among the cells that the ray from that corner meets up to far. -/
theorem bef_traced {px py vx vy vd far cx cy mnx mxx mny mxy : Int} (hd : 0 < vd) (hv : ¬ (vx = 0 ∧ vy = 0)) (hpx : -1048576 ≤ px ∧ px ≤ 1048576) (hpy : -1048576 ≤ py ∧ py ≤ 1048576) (hcx : -16384 ≤ cx ∧ cx ≤ 16384) (hcy : -16384 ≤ cy ∧ cy ≤ 16384) (hfar : 0 ≤ far)
    (x1 : mnx ≤ 0 * vx) (x2 : mnx ≤ far * vx) (x3 : 0 * vx ≤ mxx) (x4 : far * vx ≤ mxx) (y1 : mny ≤ 0 * vy) (y2 : mny ≤ far * vy) (y3 : 0 * vy ≤ mxy) (y4 : far * vy ≤ mxy)
    (h : bfrB px py vx vy vd far (cx * 64) (cy * 64) (cx * 64 + 64) (cy * 64 + 64) = true) :
    meeB 0 0 vx vy vd 0 far (cx * 64 - px) (cy * 64 - py) (cx * 64 + 64 - px) (cy * 64 + 64 - py) = true ∧ (px + mnx / vd ≤ cx * 64 + 64 ∧ cx * 64 ≤ px + mxx / vd + 1) ∧ py + mny / vd ≤ cy * 64 + 64 ∧ cy * 64 ≤ py + mxy / vd + 1 := by
  have q := bef_mee ((bef_iff hd hv (by omega) (by omega)).1 h) hd
  obtain ⟨n, m, hn, hm, h1, h2, hr⟩ := q
  have hs := ray_sh.1 hr
  refine ⟨(mee_iff hd hv (by omega) (by omega) (by omega) hfar).2 ⟨n, m, hn, hm, h1, h2, hs⟩, ?_, ?_⟩
  · exact met_in (X0 := px) (X1 := px) hd hm h1 h2 x1 x2 x3 x4 hs.1
  · exact met_in (X0 := py) (X1 := py) hd hm h1 h2 y1 y2 y3 y4 hs.2
/-- What a sweep from a rectangle meets lies in the program's range. -/
theorem mee_range {X0 Y0 X1 Y1 vx vy vd lo hi cx cy mnx mxx mny mxy : Int} (hd : 0 < vd) (hv : ¬ (vx = 0 ∧ vy = 0)) (hX : -1048576 ≤ X0 ∧ X1 ≤ 1048576 ∧ X0 ≤ X1) (hY : -1048576 ≤ Y0 ∧ Y1 ≤ 1048576 ∧ Y0 ≤ Y1) (hcx : -32768 ≤ cx ∧ cx ≤ 32768) (hcy : -32768 ≤ cy ∧ cy ≤ 32768) (hlo : 0 ≤ lo) (hlh : lo ≤ hi)
    (x1 : mnx ≤ lo * vx) (x2 : mnx ≤ hi * vx) (x3 : lo * vx ≤ mxx) (x4 : hi * vx ≤ mxx) (y1 : mny ≤ lo * vy) (y2 : mny ≤ hi * vy) (y3 : lo * vy ≤ mxy) (y4 : hi * vy ≤ mxy)
    (h : meeB 0 0 vx vy vd lo hi (cx * 64 - X1) (cy * 64 - Y1) (cx * 64 + 64 - X0) (cy * 64 + 64 - Y0) = true) :
    (X0 + mnx / vd ≤ cx * 64 + 64 ∧ cx * 64 ≤ X1 + mxx / vd + 1) ∧ Y0 + mny / vd ≤ cy * 64 + 64 ∧ cy * 64 ≤ Y1 + mxy / vd + 1 := by
  obtain ⟨n, m, hn, hm, h1, h2, hr⟩ := (mee_iff hd hv (by omega) (by omega) hlo hlh).1 h
  exact ⟨met_in hd hm h1 h2 x1 x2 x3 x4 hr.1, met_in hd hm h1 h2 y1 y2 y3 y4 hr.2⟩
open Go.RowKit
/-- A ray and a rectangle that are valid. -/
def thG (px py vx vy vd x0 y0 x1 y1 : Int) : Bool := lnP px py && (vecB vx vy vd && lnR x0 y0 x1 y1)
/-- The program's Meets and Before. -/
def smeB (px py vx vy vd lo hi x0 y0 x1 y1 : Int) : Bool := decide (0 ≤ lo) && (decide (lo ≤ hi) && (decide (hi ≤ 65536) && (thG px py vx vy vd x0 y0 x1 y1 && meeB px py vx vy vd lo hi x0 y0 x1 y1)))
def sbfB (px py vx vy vd hi x0 y0 x1 y1 : Int) : Bool := decide (0 ≤ hi) && (decide (hi ≤ 65536) && (thG px py vx vy vd x0 y0 x1 y1 && bfrB px py vx vy vd hi x0 y0 x1 y1))
theorem thG_iff {px py vx vy vd x0 y0 x1 y1 : Int} : thG px py vx vy vd x0 y0 x1 y1 = true ↔ lnP px py = true ∧ vecB vx vy vd = true ∧ lnR x0 y0 x1 y1 = true := by
  unfold thG; simp only [Bool.and_eq_true]
theorem thG_vec {px py vx vy vd x0 y0 x1 y1 : Int} (h : thG px py vx vy vd x0 y0 x1 y1 = true) : 0 < vd ∧ ¬ (vx = 0 ∧ vy = 0) := by
  have h := (thG_iff.1 h).2.1
  exact ⟨by have := (vecB_iff.1 h).1; omega, vec_nz h⟩
theorem thG_near {px py vx vy vd x0 y0 x1 y1 : Int} (h : thG px py vx vy vd x0 y0 x1 y1 = true) : (px - x0 ≤ 8388608 ∧ x1 - px ≤ 8388608) ∧ (py - y0 ≤ 8388608 ∧ y1 - py ≤ 8388608) := by
  obtain ⟨h1, -, h2⟩ := thG_iff.1 h
  have h1 := lnP_iff.1 h1
  have h2 := lnR_iff.1 h2
  omega
/-- How great the numbers of a span are. -/
def bdSp (s : Fr2 × Fr2) : Prop := ((-8388608 ≤ s.1.1 ∧ s.1.1 ≤ 8388608) ∧ 1 ≤ s.1.2 ∧ s.1.2 ≤ 67108864) ∧ (-8388608 ≤ s.2.1 ∧ s.2.1 ≤ 8388608) ∧ 1 ≤ s.2.2 ∧ s.2.2 ≤ 67108864
def bdF (f : Fr2) : Prop := (-8388608 ≤ f.1 ∧ f.1 ≤ 8388608) ∧ 1 ≤ f.2 ∧ f.2 ≤ 67108864
theorem mxF_bd {s l : Fr2} (hs : bdF s) (hl : bdF l) : bdF (mxF s l) := by unfold mxF; split <;> assumption
theorem mnF_bd {s l : Fr2} (hs : bdF s) (hl : bdF l) : bdF (mnF s l) := by unfold mnF; split <;> assumption
theorem sb_bd {p d a b : Int} (hp : -2097152 ≤ p ∧ p ≤ 2097152) (ha : -2097152 ≤ a ∧ a ≤ 2097152) (hb : -2097152 ≤ b ∧ b ≤ 2097152) (hd : -67108864 ≤ d ∧ d ≤ 67108864) (h0 : ¬ d = 0) : bdF (sbL p d a b) ∧ bdF (sbH p d a b) := by
  unfold sbL sbH bdF; split <;> (simp only; omega)
theorem slab_bd {s : Fr2 × Fr2} {p d a b : Int} (h : bdSp s) (hp : -2097152 ≤ p ∧ p ≤ 2097152) (ha : -2097152 ≤ a ∧ a ≤ 2097152) (hb : -2097152 ≤ b ∧ b ≤ 2097152) (hd : -67108864 ≤ d ∧ d ≤ 67108864) : bdSp (slabV s p d a b) := by
  unfold slabV; split
  · exact h
  · rename_i h0
    have k := sb_bd hp ha hb hd h0
    exact ⟨mxF_bd h.1 k.1, mnF_bd h.2 k.2⟩
theorem thS0_bd : bdSp thS0 := by unfold bdSp thS0; decide
theorem thS_bd {px py vx vy vd x0 y0 x1 y1 : Int} (h : thG px py vx vy vd x0 y0 x1 y1 = true) : bdSp (slabV thS0 px vx x0 x1) ∧ bdSp (thS px py vx vy x0 y0 x1 y1) := by
  obtain ⟨h1, h3, h2⟩ := thG_iff.1 h
  have h1 := lnP_iff.1 h1
  have h2 := lnR_iff.1 h2
  have h3 := vecB_iff.1 h3
  have k := slab_bd (a := x0) (b := x1) (p := px) (d := vx) thS0_bd (by omega) (by omega) (by omega) (by omega)
  exact ⟨k, slab_bd k (by omega) (by omega) (by omega) (by omega)⟩
/-- The rectangle of all differences is valid. -/
def mnsB (a0 b0 a1 b1 x0 y0 x1 y1 : Int) : Bool := lnR a0 b0 a1 b1 && (lnR x0 y0 x1 y1 && lnR (a0 - x1) (b0 - y1) (a1 - x0) (b1 - y0))
/-- A coordinate's range at distances from lo to hi. -/
def rchL (a n d lo hi : Int) : Int := a + (if hi * n < lo * n then hi * n else lo * n) / d
def rchH (b n d lo hi : Int) : Int := b + (if lo * n < hi * n then hi * n else lo * n) / d + 1
/-- A cell that the rays from a rectangle meet. -/
def swpP (x0 y0 x1 y1 vx vy vd lo hi : Int) (cx cy : Int) : Bool := mnsB (cx * 64) (cy * 64) (cx * 64 + 64) (cy * 64 + 64) x0 y0 x1 y1 && smeB 0 0 vx vy vd lo hi (cx * 64 - x1) (cy * 64 - y1) (cx * 64 + 64 - x0) (cy * 64 + 64 - y0)
def swpL (x0 y0 x1 y1 vx vy vd lo hi : Int) : List (Int × Int) := gridR (swpP x0 y0 x1 y1 vx vy vd lo hi) (spl (rchL x0 vx vd lo hi)) (celN (rchL x0 vx vd lo hi) (rchH x1 vx vd lo hi)) (spl (rchL y0 vy vd lo hi)) (celN (rchL y0 vy vd lo hi) (rchH y1 vy vd lo hi))
theorem rch_bd {a b n d lo hi : Int} (hd : 0 < d) (hn : -d ≤ n ∧ n ≤ d) (h0 : 0 ≤ lo) (hh : lo ≤ hi) (h1 : hi ≤ 2048) : (a - 2048 ≤ rchL a n d lo hi ∧ rchL a n d lo hi ≤ a + 2048) ∧ (b - 2047 ≤ rchH b n d lo hi ∧ rchH b n d lo hi ≤ b + 2049) ∧ (a ≤ b → rchL a n d lo hi ≤ rchH b n d lo hi) := by
  have k : ∀ m : Int, 0 ≤ m → m ≤ 2048 → -2048 * d ≤ m * n ∧ m * n ≤ 2048 * d := fun m m0 m1 => by
    have a1 := Int.mul_le_mul_of_nonneg_left hn.1 m0
    have a2 := Int.mul_le_mul_of_nonneg_left hn.2 m0
    have a3 := Int.mul_le_mul_of_nonneg_right m1 (show 0 ≤ d by omega)
    have e : m * -d = -(m * d) := Int.mul_neg _ _
    omega
  have q : ∀ m : Int, -2048 * d ≤ m → m ≤ 2048 * d → -2048 ≤ m / d ∧ m / d ≤ 2048 := fun m h h' => ⟨(Int.le_ediv_iff_mul_le hd).2 h, Int.ediv_le_of_le_mul hd h'⟩
  have k1 := k lo h0 (by omega)
  have k2 := k hi (by omega) h1
  have m1 : ∀ m : Int, m = (if hi * n < lo * n then hi * n else lo * n) → -2048 ≤ m / d ∧ m / d ≤ 2048 := fun m e => q m (by rw [e]; split <;> omega) (by rw [e]; split <;> omega)
  have m2 : ∀ m : Int, m = (if lo * n < hi * n then hi * n else lo * n) → -2048 ≤ m / d ∧ m / d ≤ 2048 := fun m e => q m (by rw [e]; split <;> omega) (by rw [e]; split <;> omega)
  have r1 := m1 _ rfl
  have r2 := m2 _ rfl
  have r3 : (if hi * n < lo * n then hi * n else lo * n) / d ≤ (if lo * n < hi * n then hi * n else lo * n) / d := Int.ediv_le_ediv hd (by split <;> split <;> omega)
  unfold rchL rchH
  omega
theorem cel_bd2 {a b : Int} (h : -1050624 ≤ a ∧ a ≤ b ∧ b ≤ 1050625) : (-16418 ≤ spl a ∧ spl a ≤ 16416) ∧ (-16417 ≤ sph b ∧ sph b ≤ 16416) ∧ spl a ≤ sph b ∧ spl a + (celN a b : Int) = sph b + 1 ∧ 1 ≤ celN a b ∧ celN a b ≤ 32900 := by
  unfold celN spl sph; omega
/-- What the rays of a sweep meet lies in the program's range. -/
theorem swp_range {x0 y0 x1 y1 vx vy vd lo hi cx cy : Int} (hx : -1048576 ≤ x0 ∧ x0 ≤ x1 ∧ x1 ≤ 1048576) (hy : -1048576 ≤ y0 ∧ y0 ≤ y1 ∧ y1 ≤ 1048576) (h : swpP x0 y0 x1 y1 vx vy vd lo hi cx cy = true) :
    (rchL x0 vx vd lo hi ≤ cx * 64 + 64 ∧ cx * 64 ≤ rchH x1 vx vd lo hi) ∧ rchL y0 vy vd lo hi ≤ cy * 64 + 64 ∧ cy * 64 ≤ rchH y1 vy vd lo hi := by
  unfold swpP smeB at h
  simp only [Bool.and_eq_true, decide_eq_true_eq] at h
  obtain ⟨hm, h0, hl, h6, hg, hmee⟩ := h
  unfold mnsB at hm
  simp only [Bool.and_eq_true, lnR_iff] at hm
  have hv := thG_vec hg
  have k := mee_range (X0 := x0) (Y0 := y0) (X1 := x1) (Y1 := y1) hv.1 hv.2 (by omega) (by omega) (cx := cx) (cy := cy) (by omega) (by omega) h0 hl
    (mnx := if hi * vx < lo * vx then hi * vx else lo * vx) (mxx := if lo * vx < hi * vx then hi * vx else lo * vx) (mny := if hi * vy < lo * vy then hi * vy else lo * vy) (mxy := if lo * vy < hi * vy then hi * vy else lo * vy)
    (by split <;> omega) (by split <;> omega) (by split <;> omega) (by split <;> omega) (by split <;> omega) (by split <;> omega) (by split <;> omega) (by split <;> omega) hmee
  unfold rchL rchH
  omega
theorem spl_le {a c : Int} : spl a ≤ c ↔ a ≤ c * 64 + 64 := by unfold spl; omega
theorem le_sph {b c : Int} : c ≤ sph b ↔ c * 64 ≤ b := by unfold sph; omega
/-- Fractions in lowest terms. -/
def lwN (n d : Int) : Int := n / (Int.gcd n d : Int)
def lwD (n d : Int) : Int := d / (Int.gcd n d : Int)
theorem gcd_pos {n d : Int} (hd : 0 < d) : 0 < (Int.gcd n d : Int) := by
  have : Int.gcd n d ≠ 0 := fun h => by have := (Int.gcd_eq_zero_iff.1 h).2; omega
  omega
theorem lw_lt {n d k : Int} (hd : 0 < d) : lwN n d < k * lwD n d ↔ n < k * d := low_lt (gcd_pos hd) (Int.gcd_dvd_left ..) (Int.gcd_dvd_right ..)
theorem lw_le {n d k : Int} (hd : 0 < d) : (lwN n d ≤ k * lwD n d ↔ n ≤ k * d) ∧ (k * lwD n d ≤ lwN n d ↔ k * d ≤ n) := low_le (gcd_pos hd) (Int.gcd_dvd_left ..) (Int.gcd_dvd_right ..)
theorem lw_bd {n d B : Int} (hn : 0 ≤ n ∧ n ≤ B) (hd : 0 < d) : (0 ≤ lwN n d ∧ lwN n d ≤ B) ∧ (0 < lwD n d ∧ lwD n d ≤ d) := by
  have hg := gcd_pos (n := n) hd
  unfold lwN lwD
  obtain ⟨a, ha⟩ : (Int.gcd n d : Int) ∣ n := Int.gcd_dvd_left ..
  obtain ⟨b, hb⟩ : (Int.gcd n d : Int) ∣ d := Int.gcd_dvd_right ..
  generalize (Int.gcd n d : Int) = g at *
  subst ha hb
  rw [Int.mul_ediv_cancel_left _ (by omega), Int.mul_ediv_cancel_left _ (by omega)]
  have hb : 0 < b := by
    rcases Int.lt_or_le 0 b with h | h
    · exact h
    · have := Int.mul_nonpos_of_nonneg_of_nonpos (show 0 ≤ g by omega) h; omega
  have ha : 0 ≤ a := by
    rcases Int.lt_or_le a 0 with h | h
    · have := Int.mul_neg_of_pos_of_neg hg h; omega
    · exact h
  have e1 := Int.mul_le_mul_of_nonneg_right (show 1 ≤ g by omega) ha
  have e2 := Int.mul_le_mul_of_nonneg_right (show 1 ≤ g by omega) (show 0 ≤ b by omega)
  omega
open Go.RowKit
theorem set_last {H : AHeap} {a b : ABlk} : (H ++ [a]).set H.length b = H ++ [b] := by
  rw [List.set_append_right _ _ (Nat.le_refl _), Nat.sub_self]; rfl
theorem end_own {P : Program} {fn : Func} {H l1 : AHeap} {b0 b1 : ABlk} {R : AV → AHeap → Prop} {F : Fr} {e : Exit} (he : e = .ret ∨ e = .normal) (hbel : HBel (H ++ [b0]).length (H ++ [b0])) (hb : b1.bel (H ++ [b0]).length = true) {x : AV} (hx : aResult P fn F (H ++ b1 :: l1) = some x) (hp : x.bel 0 = true) (hR : R x (H ++ [b1])) : AEnd P fn (H ++ [b0]).length R e F (H ++ b1 :: l1) := by
  have h := hbel.put H.length hb
  rw [set_last] at h
  have hl : (H ++ [b1]).length = (H ++ [b0]).length := by rw [List.length_append, List.length_append]; rfl
  have ha : (H ++ [b1]) ++ l1 = H ++ b1 :: l1 := by rw [List.append_assoc]; rfl
  have k : AEnd P fn (H ++ [b1]).length R e F ((H ++ [b1]) ++ l1) := end_plain he (by rw [hl]; exact h) (x := x) (by rw [ha]; exact hx) hp hR
  rw [hl, ha] at k; exact k
/-- A region that draws, by its orders, at the end of a piece. -/
theorem AW_special1 {P : Program} {N n : Nat} {Q : Exit → Fr → AHeap → Prop} {ops : Array Oper} {id : Nat} {F : Fr} {H : AHeap} (q : Bool) (hm : P.follows .mixedOrders = true) (reps : List (List Nat)) (hok : repsOk q false N ops reps = true) (I : Fr → AHeap → Prop)
    (h1 : ∀ τ ∈ reps, ∀ J : Fr → AHeap → Prop, (∀ F' H', (∃ σ F2 H2, I F2 H2 ∧ Abs n σ F' H' F2 H2) → J F' H') → AGo P N n q Q [.opsD H.length (pickL ops.toList τ), .inv J] F H) (h2 : ∀ F2 H2, I F2 H2 → Q .normal F2 H2) : AW P N n (.region id ops true) Q F H := by
  intro E w a k1 k2 k3 k4 k5
  have key := AW_reps (id := id) (q := q) (Q := AThen (fun F' H' => ∃ σ F2 H2, I F2 H2 ∧ Abs n σ F' H' F2 H2) Q) hm reps hok (.inl rfl) (fun τ hτ => h1 τ hτ (fun F' H' => ∃ σ F2 H2, I F2 H2 ∧ Abs n σ F' H' F2 H2) (fun _ _ h => h)) E w a k1 k2 k3 k4 k5
  refine wp_mono key fun e a w hh => ?_
  obtain ⟨E', F', H', hq, l, s, d, f, m⟩ := hh
  cases e with
  | normal =>
    obtain ⟨σ, F2, H2, hi, ab⟩ := hq
    obtain ⟨E2, l2, f2, m2⟩ := ab.emb l.n f m
    exact ⟨E2, F2, H2, h2 F2 H2 hi, l.trans l2, s, d, f2, m2⟩
  | _ => exact ⟨E', F', H', hq, l, s, d, f, m⟩
/-- A call of a function without results, by its text. -/
theorem AcN {P : Program} (q : Bool) {f : FuncId} {fn : Func} {args : List AV} {R : AV → AHeap → Prop} {H : AHeap} (hf : P.funcs[f]? = some fn) {c : Code} (h : HBel H.length H → ∀ Q : Exit → Fr → AHeap → Prop, (∀ F H', AEnd P fn H.length R .normal F H' → Q .normal F H') → AGo P fn.ntmps H.length q Q [.code c] (argF 0 args) H)
    (hb : fn.body = some c := by rfl) (hm : P.follows .mixedOrders = true := by exact try_mixed) (ha : args.length ≤ fn.ntmps := by exact Nat.le_of_ble_eq_true (by kernel_rfl)) (hc : codeOk fn.ntmps q c = true := by kernel_rfl) : ACalls P f args H R :=
  ACalls_run hm hf q _ rfl ha (by rw [hb]; exact congrArg some hc) fun hbel Q _ hQ c' hc' => by
    rw [hb] at hc'
    injection hc' with hc'
    subst hc'
    exact h hbel Q hQ
open Go.RowKit
set_option maxHeartbeats 4000000
set_option maxRecDepth 100000
def mkV (b : Bool) (n : Int) : Int := if b = true then n else 0
def thO (px py vx vy vd x0 y0 x1 y1 : Int) : Bool := thG px py vx vy vd x0 y0 x1 y1 && thB px py vx vy x0 y0 x1 y1
def thV (px py vx vy vd x0 y0 x1 y1 : Int) : Fr2 × Fr2 := if thO px py vx vy vd x0 y0 x1 y1 = true then thS px py vx vy x0 y0 x1 y1 else ((0, 0), (0, 0))
theorem thO_t {px py vx vy vd x0 y0 x1 y1 : Int} (h : thO px py vx vy vd x0 y0 x1 y1 = true) : thG px py vx vy vd x0 y0 x1 y1 = true ∧ thB px py vx vy x0 y0 x1 y1 = true := by unfold thO at h; rwa [Bool.and_eq_true] at h
theorem thO_me {px py vx vy vd x0 y0 x1 y1 lo hi : Int} (h : thO px py vx vy vd x0 y0 x1 y1 = false) : smeB px py vx vy vd lo hi x0 y0 x1 y1 = false ∧ sbfB px py vx vy vd hi x0 y0 x1 y1 = false := by
  unfold smeB sbfB meeB bfrB
  unfold thO at h
  cases hg : thG px py vx vy vd x0 y0 x1 y1
  · simp
  · rw [hg, Bool.true_and] at h; rw [h]; simp
theorem snear_c (H : AHeap) (n : Int) : ACalls Tryz.prog 283 [.int .i64 n] H (fun v H' => v = .bool (within n 2097152) ∧ H' = H) := by
  refine AcT true Tryz.func283 ?_; intro hbel Q hQ
  refine runT ?_
  refine gd_split (fun h1 => ?_) (fun h1 => ?_)
  · have h1d := bsT h1
    have g'1 := (jn @h1 @h1d)
    refine runTf g'1 ?_
    exact hQ _ _ (end_plain0 (.inl rfl) hbel (x := .bool (decide (n ≤ 2097152))) (resT Tryz.results283) rfl ⟨by simp [within, h1d], rfl⟩)
  · have h1d := bsT h1
    have g'2 := (jn @h1 @h1d)
    refine runTf g'2 ?_
    exact hQ _ _ (end_plain0 (.inl rfl) hbel (x := .bool false) (resT Tryz.results283) rfl ⟨by simp [within, h1d], rfl⟩)
theorem svpt_c (H : AHeap) (x : Int) (y : Int) : ACalls Tryz.prog 211 [.agg [.int .i64 x, .int .i64 y]] H (fun v H' => v = .bool (lnP x y) ∧ H' = H) := by
  refine AcT true Tryz.func211 ?_; intro hbel Q hQ
  refine runT ?_
  refine call_v (by kernel_rfl) (snear_c _ x) ?_
  refine runT ?_
  refine gd_split (fun h1 => ?_) (fun h1 => ?_)
  · have h1d := bsT h1
    have g'3 := (jn @h1 @h1d)
    refine runTf g'3 ?_
    refine call_v (by kernel_rfl) (snear_c _ y) ?_
    refine runTf g'3 ?_
    exact hQ _ _ (end_plain (.inl rfl) hbel (x := .bool (within y 2097152)) (resT Tryz.results211) rfl ⟨by simp [lnP, h1d], rfl⟩)
  · have h1d := bsT h1
    have g'4 := (jn @h1 @h1d)
    refine runTf g'4 ?_
    exact hQ _ _ (end_plain (.inl rfl) hbel (x := .bool false) (resT Tryz.results211) rfl ⟨by simp [lnP, h1d], rfl⟩)
theorem svv_c (H : AHeap) (x : Int) (y : Int) (d : Int) : ACalls Tryz.prog 404 [.agg [.int .i64 x, .int .i64 y, .int .i64 d]] H (fun v H' => v = .bool (vecB x y d) ∧ H' = H) := by
  refine AcT true Tryz.func404 ?_; intro hbel Q hQ
  refine runT ?_
  refine gd_split (fun h1 => ?_) (fun h1 => ?_)
  · have h1d := bsT h1
    have g'5 := (jn @h1 @h1d)
    refine runTf g'5 ?_
    refine gd_split (fun h2 => ?_) (fun h2 => ?_)
    · have h2d := bsT h2
      have g'6 := (jn @h2 (jn @h2d g'5))
      refine runTf g'6 ?_
      refine gd_split (fun h3 => ?_) (fun h3 => ?_)
      · have h3d := bsT h3
        have g'7 := (jn @h3 (jn @h3d g'6))
        refine runTf g'7 ?_
        refine gd_split (fun h4 => ?_) (fun h4 => ?_)
        · have h4d := bsT h4
          have g'8 := (jn @h4 (jn @h4d g'7))
          refine runTf g'8 ?_
          refine gd_split (fun h5 => ?_) (fun h5 => ?_)
          · have h5d := bsT h5
            have g'9 := (jn @h5 (jn @h5d g'8))
            refine runTf g'9 ?_
            refine cond_split (fun h6 => ?_) (fun h6 => ?_)
            · have h6d := bsT h6
              have g'10 := (jn @h6 (jn @h6d g'9))
              refine runTf g'10 ?_
              exact hQ _ _ (end_plain (.inl rfl) hbel (x := .bool false) (resT Tryz.results404) rfl ⟨by first | (refine congrArg AV.bool ?_; rw [Bool.eq_iff_iff, vecB_iff, beq_iff_eq]; exact ⟨fun e => ⟨⟨by omega, by omega⟩, ⟨by omega, by omega⟩, ⟨by omega, by omega⟩, e⟩, fun e => e.2.2.2⟩) | (refine congrArg AV.bool ?_; rw [Bool.eq_iff_iff, vecB_iff]; exact ⟨fun e => (by cases e), fun k => (by omega)⟩), rfl⟩)
            · have h6d := bsT h6
              have hm1 := mul_bd (a := x) (b := x) (A := 67108864) (B := 67108864) (by omega) (by omega)
              have hm2 := mul_bd (a := y) (b := y) (A := 67108864) (B := 67108864) (by omega) (by omega)
              have hm3 := mul_bd (a := d) (b := d) (A := 67108864) (B := 67108864) (by omega) (by omega)
              have g'11 := (jn @h6 (jn @h6d g'9))
              refine runTf g'11 ?_
              exact hQ _ _ (end_plain (.inl rfl) hbel (x := .bool (((x * x) + (y * y)) == (d * d))) (resT Tryz.results404) rfl ⟨by first | (refine congrArg AV.bool ?_; rw [Bool.eq_iff_iff, vecB_iff, beq_iff_eq]; exact ⟨fun e => ⟨⟨by omega, by omega⟩, ⟨by omega, by omega⟩, ⟨by omega, by omega⟩, e⟩, fun e => e.2.2.2⟩) | (refine congrArg AV.bool ?_; rw [Bool.eq_iff_iff, vecB_iff]; exact ⟨fun e => (by cases e), fun k => (by omega)⟩), rfl⟩)
          · have h5d := bsT h5
            have g'12 := (jn @h5 (jn @h5d g'8))
            refine runTf g'12 ?_
            exact hQ _ _ (end_plain (.inl rfl) hbel (x := .bool false) (resT Tryz.results404) rfl ⟨by first | (refine congrArg AV.bool ?_; rw [Bool.eq_iff_iff, vecB_iff, beq_iff_eq]; exact ⟨fun e => ⟨⟨by omega, by omega⟩, ⟨by omega, by omega⟩, ⟨by omega, by omega⟩, e⟩, fun e => e.2.2.2⟩) | (refine congrArg AV.bool ?_; rw [Bool.eq_iff_iff, vecB_iff]; exact ⟨fun e => (by cases e), fun k => (by omega)⟩), rfl⟩)
        · have h4d := bsT h4
          have g'13 := (jn @h4 (jn @h4d g'7))
          refine runTf g'13 ?_
          exact hQ _ _ (end_plain (.inl rfl) hbel (x := .bool false) (resT Tryz.results404) rfl ⟨by first | (refine congrArg AV.bool ?_; rw [Bool.eq_iff_iff, vecB_iff, beq_iff_eq]; exact ⟨fun e => ⟨⟨by omega, by omega⟩, ⟨by omega, by omega⟩, ⟨by omega, by omega⟩, e⟩, fun e => e.2.2.2⟩) | (refine congrArg AV.bool ?_; rw [Bool.eq_iff_iff, vecB_iff]; exact ⟨fun e => (by cases e), fun k => (by omega)⟩), rfl⟩)
      · have h3d := bsT h3
        have g'14 := (jn @h3 (jn @h3d g'6))
        refine runTf g'14 ?_
        exact hQ _ _ (end_plain (.inl rfl) hbel (x := .bool false) (resT Tryz.results404) rfl ⟨by first | (refine congrArg AV.bool ?_; rw [Bool.eq_iff_iff, vecB_iff, beq_iff_eq]; exact ⟨fun e => ⟨⟨by omega, by omega⟩, ⟨by omega, by omega⟩, ⟨by omega, by omega⟩, e⟩, fun e => e.2.2.2⟩) | (refine congrArg AV.bool ?_; rw [Bool.eq_iff_iff, vecB_iff]; exact ⟨fun e => (by cases e), fun k => (by omega)⟩), rfl⟩)
    · have h2d := bsT h2
      have g'15 := (jn @h2 (jn @h2d g'5))
      refine runTf g'15 ?_
      exact hQ _ _ (end_plain (.inl rfl) hbel (x := .bool false) (resT Tryz.results404) rfl ⟨by first | (refine congrArg AV.bool ?_; rw [Bool.eq_iff_iff, vecB_iff, beq_iff_eq]; exact ⟨fun e => ⟨⟨by omega, by omega⟩, ⟨by omega, by omega⟩, ⟨by omega, by omega⟩, e⟩, fun e => e.2.2.2⟩) | (refine congrArg AV.bool ?_; rw [Bool.eq_iff_iff, vecB_iff]; exact ⟨fun e => (by cases e), fun k => (by omega)⟩), rfl⟩)
  · have h1d := bsT h1
    have g'16 := (jn @h1 @h1d)
    refine runTf g'16 ?_
    exact hQ _ _ (end_plain (.inl rfl) hbel (x := .bool false) (resT Tryz.results404) rfl ⟨by first | (refine congrArg AV.bool ?_; rw [Bool.eq_iff_iff, vecB_iff, beq_iff_eq]; exact ⟨fun e => ⟨⟨by omega, by omega⟩, ⟨by omega, by omega⟩, ⟨by omega, by omega⟩, e⟩, fun e => e.2.2.2⟩) | (refine congrArg AV.bool ?_; rw [Bool.eq_iff_iff, vecB_iff]; exact ⟨fun e => (by cases e), fun k => (by omega)⟩), rfl⟩)
theorem svrc_c (H : AHeap) (x0 : Int) (y0 : Int) (x1 : Int) (y1 : Int) : ACalls Tryz.prog 212 [.agg [.int .i64 x0, .int .i64 y0, .int .i64 x1, .int .i64 y1]] H (fun v H' => v = .bool (lnR x0 y0 x1 y1) ∧ H' = H) := by
  refine AcT true Tryz.func212 ?_; intro hbel Q hQ
  refine runT ?_
  refine call_v (by kernel_rfl) (snear_c _ x0) ?_
  refine runT ?_
  refine gd_split (fun h1 => ?_) (fun h1 => ?_)
  · have h1d := bsT h1
    have wx0 := within_iff.1 h1d
    have g'17 := (jn @h1 @h1d)
    refine runTf g'17 ?_
    refine call_v (by kernel_rfl) (snear_c _ y0) ?_
    refine runTf g'17 ?_
    refine gd_split (fun h2 => ?_) (fun h2 => ?_)
    · have h2d := bsT h2
      have wy0 := within_iff.1 h2d
      have g'18 := (jn @h2 (jn @h2d g'17))
      refine runTf g'18 ?_
      refine call_v (by kernel_rfl) (snear_c _ x1) ?_
      refine runTf g'18 ?_
      refine gd_split (fun h3 => ?_) (fun h3 => ?_)
      · have h3d := bsT h3
        have wx1 := within_iff.1 h3d
        have g'19 := (jn @h3 (jn @h3d g'18))
        refine runTf g'19 ?_
        refine call_v (by kernel_rfl) (snear_c _ y1) ?_
        refine runTf g'19 ?_
        refine gd_split (fun h4 => ?_) (fun h4 => ?_)
        · have h4d := bsT h4
          have wy1 := within_iff.1 h4d
          have g'20 := (jn @h4 (jn @h4d g'19))
          refine runTf g'20 ?_
          refine gd_split (fun h5 => ?_) (fun h5 => ?_)
          · have h5d := bsT h5
            have g'21 := (jn @h5 (jn @h5d g'20))
            refine runTf g'21 ?_
            exact hQ _ _ (end_plain (.inl rfl) hbel (x := .bool (decide (y0 ≤ y1))) (resT Tryz.results212) rfl ⟨by first | (refine congrArg AV.bool ?_; rw [Bool.eq_iff_iff, lnR_iff, decide_eq_true_eq]; omega) | (refine congrArg AV.bool ?_; rw [Bool.eq_iff_iff, lnR_iff]; exact ⟨fun e => (by cases e), fun k => (by omega)⟩), rfl⟩)
          · have h5d := bsT h5
            have g'22 := (jn @h5 (jn @h5d g'20))
            refine runTf g'22 ?_
            exact hQ _ _ (end_plain (.inl rfl) hbel (x := .bool false) (resT Tryz.results212) rfl ⟨by first | (refine congrArg AV.bool ?_; rw [Bool.eq_iff_iff, lnR_iff, decide_eq_true_eq]; omega) | (refine congrArg AV.bool ?_; rw [Bool.eq_iff_iff, lnR_iff]; exact ⟨fun e => (by cases e), fun k => (by omega)⟩), rfl⟩)
        · have h4d := bsT h4
          have wy1 : ¬ (-2097152 ≤ y1 ∧ y1 ≤ 2097152) := mt within_iff.2 (by rw [h4d]; decide)
          have g'23 := (jn @h4 (jn @h4d g'19))
          refine runTf g'23 ?_
          exact hQ _ _ (end_plain (.inl rfl) hbel (x := .bool false) (resT Tryz.results212) rfl ⟨by first | (refine congrArg AV.bool ?_; rw [Bool.eq_iff_iff, lnR_iff, decide_eq_true_eq]; omega) | (refine congrArg AV.bool ?_; rw [Bool.eq_iff_iff, lnR_iff]; exact ⟨fun e => (by cases e), fun k => (by omega)⟩), rfl⟩)
      · have h3d := bsT h3
        have wx1 : ¬ (-2097152 ≤ x1 ∧ x1 ≤ 2097152) := mt within_iff.2 (by rw [h3d]; decide)
        have g'24 := (jn @h3 (jn @h3d g'18))
        refine runTf g'24 ?_
        exact hQ _ _ (end_plain (.inl rfl) hbel (x := .bool false) (resT Tryz.results212) rfl ⟨by first | (refine congrArg AV.bool ?_; rw [Bool.eq_iff_iff, lnR_iff, decide_eq_true_eq]; omega) | (refine congrArg AV.bool ?_; rw [Bool.eq_iff_iff, lnR_iff]; exact ⟨fun e => (by cases e), fun k => (by omega)⟩), rfl⟩)
    · have h2d := bsT h2
      have wy0 : ¬ (-2097152 ≤ y0 ∧ y0 ≤ 2097152) := mt within_iff.2 (by rw [h2d]; decide)
      have g'25 := (jn @h2 (jn @h2d g'17))
      refine runTf g'25 ?_
      exact hQ _ _ (end_plain (.inl rfl) hbel (x := .bool false) (resT Tryz.results212) rfl ⟨by first | (refine congrArg AV.bool ?_; rw [Bool.eq_iff_iff, lnR_iff, decide_eq_true_eq]; omega) | (refine congrArg AV.bool ?_; rw [Bool.eq_iff_iff, lnR_iff]; exact ⟨fun e => (by cases e), fun k => (by omega)⟩), rfl⟩)
  · have h1d := bsT h1
    have wx0 : ¬ (-2097152 ≤ x0 ∧ x0 ≤ 2097152) := mt within_iff.2 (by rw [h1d]; decide)
    have g'26 := (jn @h1 @h1d)
    refine runTf g'26 ?_
    exact hQ _ _ (end_plain (.inl rfl) hbel (x := .bool false) (resT Tryz.results212) rfl ⟨by first | (refine congrArg AV.bool ?_; rw [Bool.eq_iff_iff, lnR_iff, decide_eq_true_eq]; omega) | (refine congrArg AV.bool ?_; rw [Bool.eq_iff_iff, lnR_iff]; exact ⟨fun e => (by cases e), fun k => (by omega)⟩), rfl⟩)
theorem sless_c (H : AHeap) (p1 : Int) (p2 : Int) (q1 : Int) (q2 : Int) (k1 : -8388608 ≤ p1 ∧ p1 ≤ 8388608) (k2 : 1 ≤ p2 ∧ p2 ≤ 67108864) (k3 : -8388608 ≤ q1 ∧ q1 ≤ 8388608) (k4 : 1 ≤ q2 ∧ q2 ≤ 67108864) : ACalls Tryz.prog 411 [.agg [.int .i64 p1, .int .i64 p2], .agg [.int .i64 q1, .int .i64 q2]] H (fun v H' => v = .bool (decide (p1 * q2 < q1 * p2)) ∧ H' = H) := by
  have hm1 := mul_bd (a := p1) (b := q2) (A := 8388608) (B := 67108864) (by omega) (by omega)
  have hm2 := mul_bd (a := q1) (b := p2) (A := 8388608) (B := 67108864) (by omega) (by omega)
  refine AcT true Tryz.func411 ?_; intro hbel Q hQ
  refine runT ?_
  exact hQ _ _ (end_plain (.inl rfl) hbel (x := .bool (decide ((p1 * q2) < (q1 * p2)))) (resT Tryz.results411) rfl ⟨rfl, rfl⟩)
theorem slab_c (H : AHeap) (S : Fr2 × Fr2) (p : Int) (d : Int) (a : Int) (b : Int) (hS : bdSp S) (hp : -2097152 ≤ p ∧ p ≤ 2097152) (hd : -67108864 ≤ d ∧ d ≤ 67108864) (ha : -2097152 ≤ a ∧ a ≤ 2097152) (hb : -2097152 ≤ b ∧ b ≤ 2097152) : ACalls Tryz.prog 405 [.ptr (some (H.length, 0)), .int .i64 p, .int .i64 d, .int .i64 a, .int .i64 b] (H ++ [.cells true 0 [.int .i64 S.1.1, .int .i64 S.1.2, .int .i64 S.2.1, .int .i64 S.2.2]]) (fun v H' => v = .bool (slabB S p d a b) ∧ H' = H ++ [.cells true 0 [.int .i64 ((slabV S p d a b).1.1), .int .i64 ((slabV S p d a b).1.2), .int .i64 ((slabV S p d a b).2.1), .int .i64 ((slabV S p d a b).2.2)]]) := by
  obtain ⟨⟨hS1, hS2⟩, hS3, hS4⟩ := id hS
  refine AcT true Tryz.func405 ?_; intro hbel Q hQ
  refine runT ?_
  refine cond_split (fun h1 => ?_) (fun h1 => ?_)
  · have h1d := bsT h1
    have h1n := bnT h1
    have hd0 : d = 0 := by simpa using h1d
    have g'27 := (jn @h1 (jn @h1n (jn @int_bne @int_beq)))
    refine runTf g'27 ?_
    refine gd_split (fun h2 => ?_) (fun h2 => ?_)
    · have h2d := bsT h2
      have g'28 := (jn @h2 (jn @h2d g'27))
      refine runTf g'28 ?_
      exact hQ _ _ (end_own (b1 := .cells true 0 [.int .i64 S.1.1, .int .i64 S.1.2, .int .i64 S.2.1, .int .i64 S.2.2]) (.inl rfl) hbel (by simp only [ABlk.bel, AV.bels, AV.bel, Bool.true_and]) (x := .bool (decide (p ≤ b))) (resT Tryz.results405) rfl ⟨by (try simp only [Int.zero_sub] at *); first | (simp [slabB, slabV, hd0, h2d, h1d]; done) | (simp [slabB, slabV, mxF, mnF, sbL, sbH, hd0, h2d, h1d]; done) | skip, by (try simp only [Int.zero_sub] at *); first | (simp [slabB, slabV, hd0, h2d, h1d]; done) | (simp [slabB, slabV, mxF, mnF, sbL, sbH, hd0, h2d, h1d]; done) | skip⟩)
    · have h2d := bsT h2
      have g'29 := (jn @h2 (jn @h2d g'27))
      refine runTf g'29 ?_
      exact hQ _ _ (end_own (b1 := .cells true 0 [.int .i64 S.1.1, .int .i64 S.1.2, .int .i64 S.2.1, .int .i64 S.2.2]) (.inl rfl) hbel (by simp only [ABlk.bel, AV.bels, AV.bel, Bool.true_and]) (x := .bool false) (resT Tryz.results405) rfl ⟨by (try simp only [Int.zero_sub] at *); first | (simp [slabB, slabV, hd0, h2d, h1d]; done) | (simp [slabB, slabV, mxF, mnF, sbL, sbH, hd0, h2d, h1d]; done) | skip, by (try simp only [Int.zero_sub] at *); first | (simp [slabB, slabV, hd0, h2d, h1d]; done) | (simp [slabB, slabV, mxF, mnF, sbL, sbH, hd0, h2d, h1d]; done) | skip⟩)
  · have h1d := bsT h1
    have h1n := bnT h1
    have hd0 : ¬ d = 0 := by simpa using h1d
    have g'30 := (jn @h1 (jn @h1n (jn @int_bne @int_beq)))
    refine runTf g'30 ?_
    refine cond_split (fun h3 => ?_) (fun h3 => ?_)
    · have h3d := bsT h3
      have g'31 := (jn @h3 (jn @h3d g'30))
      refine runTf g'31 ?_
      refine call_d (by kernel_rfl) (sless_c _ S.1.1 S.1.2 (p - b) (0 - d) (by omega) (by omega) (by omega) (by omega)) ?_
      refine runTf g'31 ?_
      refine cond_split (fun h4 => ?_) (fun h4 => ?_)
      · have h4d := bsT h4
        have g'32 := (jn @h4 (jn @h4d g'31))
        refine runTf g'32 ?_
        refine call_d (by kernel_rfl) (sless_c _ (p - a) (0 - d) S.2.1 S.2.2 (by omega) (by omega) (by omega) (by omega)) ?_
        refine runTf g'32 ?_
        refine cond_split (fun h5 => ?_) (fun h5 => ?_)
        · have h5d := bsT h5
          have g'33 := (jn @h5 (jn @h5d g'32))
          refine runTf g'33 ?_
          refine call_d (by kernel_rfl) (sless_c _ (p - a) (0 - d) (p - b) (0 - d) (by omega) (by omega) (by omega) (by omega)) ?_
          refine runTf g'33 ?_
          exact hQ _ _ (end_own (b1 := .cells true 0 [.int .i64 (p - b), .int .i64 (0 - d), .int .i64 (p - a), .int .i64 (0 - d)]) (.inl rfl) hbel (by simp only [ABlk.bel, AV.bels, AV.bel, Bool.true_and]) (x := .bool (!(decide ((p - a) * (0 - d) < (p - b) * (0 - d))))) (resT Tryz.results405) rfl ⟨by (try simp only [Int.zero_sub] at *); first | (simp [slabB, slabV, hd0, h3d, h4d, h5d, h1d]; done) | (simp [slabB, slabV, mxF, mnF, sbL, sbH, hd0, h3d, h4d, h5d, h1d]; done) | skip, by (try simp only [Int.zero_sub] at *); first | (simp [slabB, slabV, hd0, h3d, h4d, h5d, h1d]; done) | (simp [slabB, slabV, mxF, mnF, sbL, sbH, hd0, h3d, h4d, h5d, h1d]; done) | skip⟩)
        · have h5d := bsT h5
          have g'34 := (jn @h5 (jn @h5d g'32))
          refine runTf g'34 ?_
          refine call_d (by kernel_rfl) (sless_c _ S.2.1 S.2.2 (p - b) (0 - d) (by omega) (by omega) (by omega) (by omega)) ?_
          refine runTf g'34 ?_
          exact hQ _ _ (end_own (b1 := .cells true 0 [.int .i64 (p - b), .int .i64 (0 - d), .int .i64 S.2.1, .int .i64 S.2.2]) (.inl rfl) hbel (by simp only [ABlk.bel, AV.bels, AV.bel, Bool.true_and]) (x := .bool (!(decide (S.2.1 * (0 - d) < (p - b) * S.2.2)))) (resT Tryz.results405) rfl ⟨by (try simp only [Int.zero_sub] at *); first | (simp [slabB, slabV, hd0, h3d, h4d, h5d, h1d]; done) | (simp [slabB, slabV, mxF, mnF, sbL, sbH, hd0, h3d, h4d, h5d, h1d]; done) | skip, by (try simp only [Int.zero_sub] at *); first | (simp [slabB, slabV, hd0, h3d, h4d, h5d, h1d]; done) | (simp [slabB, slabV, mxF, mnF, sbL, sbH, hd0, h3d, h4d, h5d, h1d]; done) | skip⟩)
      · have h4d := bsT h4
        have g'35 := (jn @h4 (jn @h4d g'31))
        refine runTf g'35 ?_
        refine call_d (by kernel_rfl) (sless_c _ (p - a) (0 - d) S.2.1 S.2.2 (by omega) (by omega) (by omega) (by omega)) ?_
        refine runTf g'35 ?_
        refine cond_split (fun h6 => ?_) (fun h6 => ?_)
        · have h6d := bsT h6
          have g'36 := (jn @h6 (jn @h6d g'35))
          refine runTf g'36 ?_
          refine call_d (by kernel_rfl) (sless_c _ (p - a) (0 - d) S.1.1 S.1.2 (by omega) (by omega) (by omega) (by omega)) ?_
          refine runTf g'36 ?_
          exact hQ _ _ (end_own (b1 := .cells true 0 [.int .i64 S.1.1, .int .i64 S.1.2, .int .i64 (p - a), .int .i64 (0 - d)]) (.inl rfl) hbel (by simp only [ABlk.bel, AV.bels, AV.bel, Bool.true_and]) (x := .bool (!(decide ((p - a) * S.1.2 < S.1.1 * (0 - d))))) (resT Tryz.results405) rfl ⟨by (try simp only [Int.zero_sub] at *); first | (simp [slabB, slabV, hd0, h3d, h4d, h6d, h1d]; done) | (simp [slabB, slabV, mxF, mnF, sbL, sbH, hd0, h3d, h4d, h6d, h1d]; done) | skip, by (try simp only [Int.zero_sub] at *); first | (simp [slabB, slabV, hd0, h3d, h4d, h6d, h1d]; done) | (simp [slabB, slabV, mxF, mnF, sbL, sbH, hd0, h3d, h4d, h6d, h1d]; done) | skip⟩)
        · have h6d := bsT h6
          have g'37 := (jn @h6 (jn @h6d g'35))
          refine runTf g'37 ?_
          refine call_d (by kernel_rfl) (sless_c _ S.2.1 S.2.2 S.1.1 S.1.2 (by omega) (by omega) (by omega) (by omega)) ?_
          refine runTf g'37 ?_
          exact hQ _ _ (end_own (b1 := .cells true 0 [.int .i64 S.1.1, .int .i64 S.1.2, .int .i64 S.2.1, .int .i64 S.2.2]) (.inl rfl) hbel (by simp only [ABlk.bel, AV.bels, AV.bel, Bool.true_and]) (x := .bool (!(decide (S.2.1 * S.1.2 < S.1.1 * S.2.2)))) (resT Tryz.results405) rfl ⟨by (try simp only [Int.zero_sub] at *); first | (simp [slabB, slabV, hd0, h3d, h4d, h6d, h1d]; done) | (simp [slabB, slabV, mxF, mnF, sbL, sbH, hd0, h3d, h4d, h6d, h1d]; done) | skip, by (try simp only [Int.zero_sub] at *); first | (simp [slabB, slabV, hd0, h3d, h4d, h6d, h1d]; done) | (simp [slabB, slabV, mxF, mnF, sbL, sbH, hd0, h3d, h4d, h6d, h1d]; done) | skip⟩)
    · have h3d := bsT h3
      have g'38 := (jn @h3 (jn @h3d g'30))
      refine runTf g'38 ?_
      refine call_d (by kernel_rfl) (sless_c _ S.1.1 S.1.2 (a - p) d (by omega) (by omega) (by omega) (by omega)) ?_
      refine runTf g'38 ?_
      refine cond_split (fun h7 => ?_) (fun h7 => ?_)
      · have h7d := bsT h7
        have g'39 := (jn @h7 (jn @h7d g'38))
        refine runTf g'39 ?_
        refine call_d (by kernel_rfl) (sless_c _ (b - p) d S.2.1 S.2.2 (by omega) (by omega) (by omega) (by omega)) ?_
        refine runTf g'39 ?_
        refine cond_split (fun h8 => ?_) (fun h8 => ?_)
        · have h8d := bsT h8
          have g'40 := (jn @h8 (jn @h8d g'39))
          refine runTf g'40 ?_
          refine call_d (by kernel_rfl) (sless_c _ (b - p) d (a - p) d (by omega) (by omega) (by omega) (by omega)) ?_
          refine runTf g'40 ?_
          exact hQ _ _ (end_own (b1 := .cells true 0 [.int .i64 (a - p), .int .i64 d, .int .i64 (b - p), .int .i64 d]) (.inl rfl) hbel (by simp only [ABlk.bel, AV.bels, AV.bel, Bool.true_and]) (x := .bool (!(decide ((b - p) * d < (a - p) * d)))) (resT Tryz.results405) rfl ⟨by (try simp only [Int.zero_sub] at *); first | (simp [slabB, slabV, hd0, h3d, h7d, h8d, h1d]; done) | (simp [slabB, slabV, mxF, mnF, sbL, sbH, hd0, h3d, h7d, h8d, h1d]; done) | skip, by (try simp only [Int.zero_sub] at *); first | (simp [slabB, slabV, hd0, h3d, h7d, h8d, h1d]; done) | (simp [slabB, slabV, mxF, mnF, sbL, sbH, hd0, h3d, h7d, h8d, h1d]; done) | skip⟩)
        · have h8d := bsT h8
          have g'41 := (jn @h8 (jn @h8d g'39))
          refine runTf g'41 ?_
          refine call_d (by kernel_rfl) (sless_c _ S.2.1 S.2.2 (a - p) d (by omega) (by omega) (by omega) (by omega)) ?_
          refine runTf g'41 ?_
          exact hQ _ _ (end_own (b1 := .cells true 0 [.int .i64 (a - p), .int .i64 d, .int .i64 S.2.1, .int .i64 S.2.2]) (.inl rfl) hbel (by simp only [ABlk.bel, AV.bels, AV.bel, Bool.true_and]) (x := .bool (!(decide (S.2.1 * d < (a - p) * S.2.2)))) (resT Tryz.results405) rfl ⟨by (try simp only [Int.zero_sub] at *); first | (simp [slabB, slabV, hd0, h3d, h7d, h8d, h1d]; done) | (simp [slabB, slabV, mxF, mnF, sbL, sbH, hd0, h3d, h7d, h8d, h1d]; done) | skip, by (try simp only [Int.zero_sub] at *); first | (simp [slabB, slabV, hd0, h3d, h7d, h8d, h1d]; done) | (simp [slabB, slabV, mxF, mnF, sbL, sbH, hd0, h3d, h7d, h8d, h1d]; done) | skip⟩)
      · have h7d := bsT h7
        have g'42 := (jn @h7 (jn @h7d g'38))
        refine runTf g'42 ?_
        refine call_d (by kernel_rfl) (sless_c _ (b - p) d S.2.1 S.2.2 (by omega) (by omega) (by omega) (by omega)) ?_
        refine runTf g'42 ?_
        refine cond_split (fun h9 => ?_) (fun h9 => ?_)
        · have h9d := bsT h9
          have g'43 := (jn @h9 (jn @h9d g'42))
          refine runTf g'43 ?_
          refine call_d (by kernel_rfl) (sless_c _ (b - p) d S.1.1 S.1.2 (by omega) (by omega) (by omega) (by omega)) ?_
          refine runTf g'43 ?_
          exact hQ _ _ (end_own (b1 := .cells true 0 [.int .i64 S.1.1, .int .i64 S.1.2, .int .i64 (b - p), .int .i64 d]) (.inl rfl) hbel (by simp only [ABlk.bel, AV.bels, AV.bel, Bool.true_and]) (x := .bool (!(decide ((b - p) * S.1.2 < S.1.1 * d)))) (resT Tryz.results405) rfl ⟨by (try simp only [Int.zero_sub] at *); first | (simp [slabB, slabV, hd0, h3d, h7d, h9d, h1d]; done) | (simp [slabB, slabV, mxF, mnF, sbL, sbH, hd0, h3d, h7d, h9d, h1d]; done) | skip, by (try simp only [Int.zero_sub] at *); first | (simp [slabB, slabV, hd0, h3d, h7d, h9d, h1d]; done) | (simp [slabB, slabV, mxF, mnF, sbL, sbH, hd0, h3d, h7d, h9d, h1d]; done) | skip⟩)
        · have h9d := bsT h9
          have g'44 := (jn @h9 (jn @h9d g'42))
          refine runTf g'44 ?_
          refine call_d (by kernel_rfl) (sless_c _ S.2.1 S.2.2 S.1.1 S.1.2 (by omega) (by omega) (by omega) (by omega)) ?_
          refine runTf g'44 ?_
          exact hQ _ _ (end_own (b1 := .cells true 0 [.int .i64 S.1.1, .int .i64 S.1.2, .int .i64 S.2.1, .int .i64 S.2.2]) (.inl rfl) hbel (by simp only [ABlk.bel, AV.bels, AV.bel, Bool.true_and]) (x := .bool (!(decide (S.2.1 * S.1.2 < S.1.1 * S.2.2)))) (resT Tryz.results405) rfl ⟨by (try simp only [Int.zero_sub] at *); first | (simp [slabB, slabV, hd0, h3d, h7d, h9d, h1d]; done) | (simp [slabB, slabV, mxF, mnF, sbL, sbH, hd0, h3d, h7d, h9d, h1d]; done) | skip, by (try simp only [Int.zero_sub] at *); first | (simp [slabB, slabV, hd0, h3d, h7d, h9d, h1d]; done) | (simp [slabB, slabV, mxF, mnF, sbL, sbH, hd0, h3d, h7d, h9d, h1d]; done) | skip⟩)
theorem slab4_c (H : AHeap) (A B C D : ABlk) (S : Fr2 × Fr2) (p d a b : Int) (hS : bdSp S) (hp : -2097152 ≤ p ∧ p ≤ 2097152) (hd : -67108864 ≤ d ∧ d ≤ 67108864) (ha : -2097152 ≤ a ∧ a ≤ 2097152) (hb : -2097152 ≤ b ∧ b ≤ 2097152) :
    ACalls Tryz.prog 405 [.ptr (some (H.length + 4, 0)), .int .i64 p, .int .i64 d, .int .i64 a, .int .i64 b] (H ++ [A, B, C, D, .cells true 0 [.int .i64 S.1.1, .int .i64 S.1.2, .int .i64 S.2.1, .int .i64 S.2.2]]) (fun v H' => v = .bool (slabB S p d a b) ∧ H' = H ++ [A, B, C, D, .cells true 0 [.int .i64 (slabV S p d a b).1.1, .int .i64 (slabV S p d a b).1.2, .int .i64 (slabV S p d a b).2.1, .int .i64 (slabV S p d a b).2.2]]) := by
  have h := slab_c (H ++ [A, B, C, D]) S p d a b hS hp hd ha hb
  simpa only [List.append_assoc, List.cons_append, List.nil_append, List.length_append, List.length_cons, List.length_nil, Nat.zero_add, Nat.reduceAdd] using h
theorem through_c (H : AHeap) (px : Int) (py : Int) (vx : Int) (vy : Int) (vd : Int) (x0 : Int) (y0 : Int) (x1 : Int) (y1 : Int) : ACalls Tryz.prog 378 [.agg [.int .i64 px, .int .i64 py], .agg [.int .i64 vx, .int .i64 vy, .int .i64 vd], .agg [.int .i64 x0, .int .i64 y0, .int .i64 x1, .int .i64 y1]] H (fun v H' => v = .tup [.agg [.int .i64 ((thV px py vx vy vd x0 y0 x1 y1).1.1), .int .i64 ((thV px py vx vy vd x0 y0 x1 y1).1.2), .int .i64 ((thV px py vx vy vd x0 y0 x1 y1).2.1), .int .i64 ((thV px py vx vy vd x0 y0 x1 y1).2.2)], .bool (thO px py vx vy vd x0 y0 x1 y1)] ∧ H' = H) := by
  refine AcT true Tryz.func378 ?_; intro hbel Q hQ
  refine runT ?_
  refine call_v (by kernel_rfl) (svpt_c _ px py) ?_
  refine runT ?_
  refine gd_split (fun h1 => ?_) (fun h1 => ?_)
  · have h1d := bsT h1
    have hvP := h1d
    have hvp := lnP_iff.1 h1d
    have g'45 := (jn @h1 @h1d)
    refine runTf g'45 ?_
    refine call_v (by kernel_rfl) (svv_c _ vx vy vd) ?_
    refine runTf g'45 ?_
    refine gd_split (fun h2 => ?_) (fun h2 => ?_)
    · have h2d := bsT h2
      have hvV := h2d
      have hvv := vecB_iff.1 h2d
      have g'46 := (jn @h2 (jn @h2d g'45))
      refine runTf g'46 ?_
      refine call_v (by kernel_rfl) (svrc_c _ x0 y0 x1 y1) ?_
      refine runTf g'46 ?_
      refine cond_split (fun h3 => ?_) (fun h3 => ?_)
      · have h3d := bsT h3
        have hfinO : thO px py vx vy vd x0 y0 x1 y1 = false := by simp [thO, thG, h3d]
        have g'47 := (jn @h3 (jn @h3d g'46))
        refine runTf g'47 ?_
        exact hQ _ _ (end_plain (.inl rfl) hbel (x := .tup [.agg [.int .i64 0, .int .i64 0, .int .i64 0, .int .i64 0], .bool false]) (resT Tryz.results378) rfl ⟨by unfold thV; rw [hfinO]; rfl, rfl⟩)
      · have h3d := bsT h3
        have hvr := lnR_iff.1 h3d
        have hgT : thG px py vx vy vd x0 y0 x1 y1 = true := thG_iff.2 ⟨hvP, hvV, h3d⟩
        have hb0 := thS0_bd
        have hb1 := (thS_bd hgT).1
        have g'48 := (jn @h3 (jn @h3d g'46))
        refine runTf g'48 ?_
        refine call_v (by kernel_rfl) (slab4_c _ _ _ _ _ thS0 px vx x0 x1 (by assumption) (by omega) (by omega) (by omega) (by omega)) ?_
        refine runTf g'48 ?_
        refine gd_split (fun h4 => ?_) (fun h4 => ?_)
        · have h4d := bsT h4
          have hs1 := h4d
          have g'49 := (jn @h4 (jn @h4d g'48))
          refine runTf g'49 ?_
          refine call_v (by kernel_rfl) (slab4_c _ _ _ _ _ (slabV thS0 px vx x0 x1) py vy y0 y1 (by assumption) (by omega) (by omega) (by omega) (by omega)) ?_
          refine runTf g'49 ?_
          refine cond_split (fun h5 => ?_) (fun h5 => ?_)
          · have h5d := bsT h5
            have hfinO : thO px py vx vy vd x0 y0 x1 y1 = false := by simp [thO, thB, h5d]
            have g'50 := (jn @h5 (jn @h5d g'49))
            refine runTf g'50 ?_
            exact hQ _ _ (end_plain (.inl rfl) hbel (x := .tup [.agg [.int .i64 0, .int .i64 0, .int .i64 0, .int .i64 0], .bool false]) (resT Tryz.results378) rfl ⟨by unfold thV; rw [hfinO]; rfl, rfl⟩)
          · have h5d := bsT h5
            have hfinO : thO px py vx vy vd x0 y0 x1 y1 = true := by unfold thO thB; rw [hgT, hs1, h5d]; rfl
            have g'51 := (jn @h5 (jn @h5d g'49))
            refine runTf g'51 ?_
            exact hQ _ _ (end_plain (.inl rfl) hbel (x := .tup [.agg [.int .i64 ((slabV (slabV thS0 px vx x0 x1) py vy y0 y1).1.1), .int .i64 ((slabV (slabV thS0 px vx x0 x1) py vy y0 y1).1.2), .int .i64 ((slabV (slabV thS0 px vx x0 x1) py vy y0 y1).2.1), .int .i64 ((slabV (slabV thS0 px vx x0 x1) py vy y0 y1).2.2)], .bool true]) (resT Tryz.results378) rfl ⟨by unfold thV; rw [hfinO]; rfl, rfl⟩)
        · have h4d := bsT h4
          have hfinO : thO px py vx vy vd x0 y0 x1 y1 = false := by simp [thO, thB, h4d]
          have g'52 := (jn @h4 (jn @h4d g'48))
          refine runTf g'52 ?_
          exact hQ _ _ (end_plain (.inl rfl) hbel (x := .tup [.agg [.int .i64 0, .int .i64 0, .int .i64 0, .int .i64 0], .bool false]) (resT Tryz.results378) rfl ⟨by unfold thV; rw [hfinO]; rfl, rfl⟩)
    · have h2d := bsT h2
      have hfinO : thO px py vx vy vd x0 y0 x1 y1 = false := by simp [thO, thG, h2d]
      have g'53 := (jn @h2 (jn @h2d g'45))
      refine runTf g'53 ?_
      exact hQ _ _ (end_plain (.inl rfl) hbel (x := .tup [.agg [.int .i64 0, .int .i64 0, .int .i64 0, .int .i64 0], .bool false]) (resT Tryz.results378) rfl ⟨by unfold thV; rw [hfinO]; rfl, rfl⟩)
  · have h1d := bsT h1
    have hfinO : thO px py vx vy vd x0 y0 x1 y1 = false := by simp [thO, thG, h1d]
    have g'54 := (jn @h1 @h1d)
    refine runTf g'54 ?_
    exact hQ _ _ (end_plain (.inl rfl) hbel (x := .tup [.agg [.int .i64 0, .int .i64 0, .int .i64 0, .int .i64 0], .bool false]) (resT Tryz.results378) rfl ⟨by unfold thV; rw [hfinO]; rfl, rfl⟩)
theorem through_t (H : AHeap) (px py vx vy vd x0 y0 x1 y1 : Int) (h : thO px py vx vy vd x0 y0 x1 y1 = true) : ACalls Tryz.prog 378 [.agg [.int .i64 px, .int .i64 py], .agg [.int .i64 vx, .int .i64 vy, .int .i64 vd], .agg [.int .i64 x0, .int .i64 y0, .int .i64 x1, .int .i64 y1]] H (fun v H' => v = .tup [.agg [.int .i64 (thS px py vx vy x0 y0 x1 y1).1.1, .int .i64 (thS px py vx vy x0 y0 x1 y1).1.2, .int .i64 (thS px py vx vy x0 y0 x1 y1).2.1, .int .i64 (thS px py vx vy x0 y0 x1 y1).2.2], .bool true] ∧ H' = H) := by
  have q := through_c H px py vx vy vd x0 y0 x1 y1
  simp only [thV, h, if_true] at q; exact q
theorem through_f (H : AHeap) (px py vx vy vd x0 y0 x1 y1 : Int) (h : thO px py vx vy vd x0 y0 x1 y1 = false) : ACalls Tryz.prog 378 [.agg [.int .i64 px, .int .i64 py], .agg [.int .i64 vx, .int .i64 vy, .int .i64 vd], .agg [.int .i64 x0, .int .i64 y0, .int .i64 x1, .int .i64 y1]] H (fun v H' => v = .tup [.agg [.int .i64 0, .int .i64 0, .int .i64 0, .int .i64 0], .bool false] ∧ H' = H) := by
  have q := through_c H px py vx vy vd x0 y0 x1 y1
  simp only [thV, h, if_false, Bool.false_eq_true] at q; exact q
theorem smeets_c (H : AHeap) (px : Int) (py : Int) (vx : Int) (vy : Int) (vd : Int) (lo : Int) (hi : Int) (x0 : Int) (y0 : Int) (x1 : Int) (y1 : Int) : ACalls Tryz.prog 331 [.agg [.int .i64 px, .int .i64 py], .agg [.int .i64 vx, .int .i64 vy, .int .i64 vd], .int .i64 lo, .int .i64 hi, .agg [.int .i64 x0, .int .i64 y0, .int .i64 x1, .int .i64 y1]] H (fun v H' => v = .bool (smeB px py vx vy vd lo hi x0 y0 x1 y1) ∧ H' = H) := by
  refine AcT true Tryz.func331 ?_; intro hbel Q hQ
  refine runT ?_
  refine gd_split (fun h1 => ?_) (fun h1 => ?_)
  · have h1d := bsT h1
    have g'55 := (jn @h1 @h1d)
    refine runTf g'55 ?_
    refine gd_split (fun h2 => ?_) (fun h2 => ?_)
    · have h2d := bsT h2
      have g'56 := (jn @h2 (jn @h2d g'55))
      refine runTf g'56 ?_
      refine cond_split (fun h3 => ?_) (fun h3 => ?_)
      · have h3d := bsT h3
        have g'57 := (jn @h3 (jn @h3d g'56))
        refine runTf g'57 ?_
        exact hQ _ _ (end_plain (.inl rfl) hbel (x := .bool false) (resT Tryz.results331) rfl ⟨by first | (rw [hfinN]; done) | (refine congrArg AV.bool ?_; rw [Bool.eq_iff_iff]; unfold smeB meeB; simp only [Bool.and_eq_true, decide_eq_true_eq]; first | (simp only [hfinG, hfinB, true_and]; omega) | exact ⟨fun e => (by cases e), fun e => (by omega)⟩), rfl⟩)
      · have h3d := bsT h3
        have g'58 := (jn @h3 (jn @h3d g'56))
        refine runTf g'58 ?_
        rcases Bool.eq_false_or_eq_true (thO px py vx vy vd x0 y0 x1 y1) with h4 | h4
        · have h4d := h4
          have hgT := thO_t h4d
          have hbS := (thS_bd hgT.1).2
          obtain ⟨⟨hb1, hb2⟩, hb3, hb4⟩ := hbS
          have hvT := vecB_iff.1 (thG_iff.1 hgT.1).2.1
          have hm1 := mul_bd (a := lo) (b := (thS px py vx vy x0 y0 x1 y1).2.2) (A := 65536) (B := 67108864) (by omega) (by omega)
          have hm2 := mul_bd (a := (thS px py vx vy x0 y0 x1 y1).2.1) (b := vd) (A := 8388608) (B := 67108864) (by omega) (by omega)
          have hm3 := mul_bd (a := (thS px py vx vy x0 y0 x1 y1).1.1) (b := vd) (A := 8388608) (B := 67108864) (by omega) (by omega)
          have hm4 := mul_bd (a := hi) (b := (thS px py vx vy x0 y0 x1 y1).1.2) (A := 65536) (B := 67108864) (by omega) (by omega)
          have hfinG := hgT.1
          have hfinB := hgT.2
          refine call_v (by kernel_rfl) (through_t _ px py vx vy vd x0 y0 x1 y1 (by assumption)) ?_
          have g'59 := (jn @h4 (jn @h4d g'58))
          refine runTf g'59 ?_
          refine gd_split (fun h5 => ?_) (fun h5 => ?_)
          · have h5d := bsT h5
            have g'60 := (jn @h5 (jn @h5d g'59))
            refine runTf g'60 ?_
            exact hQ _ _ (end_plain (.inl rfl) hbel (x := .bool (decide ((((thS px py vx vy x0 y0 x1 y1).1.1) * vd) ≤ (hi * ((thS px py vx vy x0 y0 x1 y1).1.2))))) (resT Tryz.results331) rfl ⟨by first | (rw [hfinN]; done) | (refine congrArg AV.bool ?_; rw [Bool.eq_iff_iff]; unfold smeB meeB; simp only [Bool.and_eq_true, decide_eq_true_eq]; first | (simp only [hfinG, hfinB, true_and]; omega) | exact ⟨fun e => (by cases e), fun e => (by omega)⟩), rfl⟩)
          · have h5d := bsT h5
            have g'61 := (jn @h5 (jn @h5d g'59))
            refine runTf g'61 ?_
            exact hQ _ _ (end_plain (.inl rfl) hbel (x := .bool false) (resT Tryz.results331) rfl ⟨by first | (rw [hfinN]; done) | (refine congrArg AV.bool ?_; rw [Bool.eq_iff_iff]; unfold smeB meeB; simp only [Bool.and_eq_true, decide_eq_true_eq]; first | (simp only [hfinG, hfinB, true_and]; omega) | exact ⟨fun e => (by cases e), fun e => (by omega)⟩), rfl⟩)
        · have h4d := h4
          have hfinN := (thO_me (lo := lo) (hi := hi) h4d).1
          refine call_v (by kernel_rfl) (through_f _ px py vx vy vd x0 y0 x1 y1 (by assumption)) ?_
          have g'62 := (jn @h4 (jn @h4d g'58))
          refine runTf g'62 ?_
          exact hQ _ _ (end_plain (.inl rfl) hbel (x := .bool false) (resT Tryz.results331) rfl ⟨by first | (rw [hfinN]; done) | (refine congrArg AV.bool ?_; rw [Bool.eq_iff_iff]; unfold smeB meeB; simp only [Bool.and_eq_true, decide_eq_true_eq]; first | (simp only [hfinG, hfinB, true_and]; omega) | exact ⟨fun e => (by cases e), fun e => (by omega)⟩), rfl⟩)
    · have h2d := bsT h2
      have g'63 := (jn @h2 (jn @h2d g'55))
      refine runTf g'63 ?_
      exact hQ _ _ (end_plain (.inl rfl) hbel (x := .bool false) (resT Tryz.results331) rfl ⟨by first | (rw [hfinN]; done) | (refine congrArg AV.bool ?_; rw [Bool.eq_iff_iff]; unfold smeB meeB; simp only [Bool.and_eq_true, decide_eq_true_eq]; first | (simp only [hfinG, hfinB, true_and]; omega) | exact ⟨fun e => (by cases e), fun e => (by omega)⟩), rfl⟩)
  · have h1d := bsT h1
    have g'64 := (jn @h1 @h1d)
    refine runTf g'64 ?_
    exact hQ _ _ (end_plain (.inl rfl) hbel (x := .bool false) (resT Tryz.results331) rfl ⟨by first | (rw [hfinN]; done) | (refine congrArg AV.bool ?_; rw [Bool.eq_iff_iff]; unfold smeB meeB; simp only [Bool.and_eq_true, decide_eq_true_eq]; first | (simp only [hfinG, hfinB, true_and]; omega) | exact ⟨fun e => (by cases e), fun e => (by omega)⟩), rfl⟩)
theorem sbefore_c (H : AHeap) (px : Int) (py : Int) (vx : Int) (vy : Int) (vd : Int) (hi : Int) (x0 : Int) (y0 : Int) (x1 : Int) (y1 : Int) : ACalls Tryz.prog 314 [.agg [.int .i64 px, .int .i64 py], .agg [.int .i64 vx, .int .i64 vy, .int .i64 vd], .int .i64 hi, .agg [.int .i64 x0, .int .i64 y0, .int .i64 x1, .int .i64 y1]] H (fun v H' => v = .bool (sbfB px py vx vy vd hi x0 y0 x1 y1) ∧ H' = H) := by
  refine AcT true Tryz.func314 ?_; intro hbel Q hQ
  refine runT ?_
  refine gd_split (fun h1 => ?_) (fun h1 => ?_)
  · have h1d := bsT h1
    have g'65 := (jn @h1 @h1d)
    refine runTf g'65 ?_
    refine cond_split (fun h2 => ?_) (fun h2 => ?_)
    · have h2d := bsT h2
      have g'66 := (jn @h2 (jn @h2d g'65))
      refine runTf g'66 ?_
      exact hQ _ _ (end_plain (.inl rfl) hbel (x := .bool false) (resT Tryz.results314) rfl ⟨by first | (rw [hfinN]; done) | (refine congrArg AV.bool ?_; rw [Bool.eq_iff_iff]; unfold sbfB bfrB; simp only [Bool.and_eq_true, decide_eq_true_eq]; first | (simp only [hfinG, hfinB, true_and]; omega) | exact ⟨fun e => (by cases e), fun e => (by omega)⟩), rfl⟩)
    · have h2d := bsT h2
      have g'67 := (jn @h2 (jn @h2d g'65))
      refine runTf g'67 ?_
      rcases Bool.eq_false_or_eq_true (thO px py vx vy vd x0 y0 x1 y1) with h3 | h3
      · have h3d := h3
        have hgT := thO_t h3d
        have hbS := (thS_bd hgT.1).2
        obtain ⟨⟨hb1, hb2⟩, hb3, hb4⟩ := hbS
        have hvT := vecB_iff.1 (thG_iff.1 hgT.1).2.1
        have hm3 := mul_bd (a := (thS px py vx vy x0 y0 x1 y1).1.1) (b := vd) (A := 8388608) (B := 67108864) (by omega) (by omega)
        have hm4 := mul_bd (a := hi) (b := (thS px py vx vy x0 y0 x1 y1).1.2) (A := 65536) (B := 67108864) (by omega) (by omega)
        have hfinG := hgT.1
        have hfinB := hgT.2
        refine call_v (by kernel_rfl) (through_t _ px py vx vy vd x0 y0 x1 y1 (by assumption)) ?_
        have g'68 := (jn @h3 (jn @h3d g'67))
        refine runTf g'68 ?_
        exact hQ _ _ (end_plain (.inl rfl) hbel (x := .bool (decide ((((thS px py vx vy x0 y0 x1 y1).1.1) * vd) < (hi * ((thS px py vx vy x0 y0 x1 y1).1.2))))) (resT Tryz.results314) rfl ⟨by first | (rw [hfinN]; done) | (refine congrArg AV.bool ?_; rw [Bool.eq_iff_iff]; unfold sbfB bfrB; simp only [Bool.and_eq_true, decide_eq_true_eq]; first | (simp only [hfinG, hfinB, true_and]; omega) | exact ⟨fun e => (by cases e), fun e => (by omega)⟩), rfl⟩)
      · have h3d := h3
        have hfinN := (thO_me (lo := 0) (hi := hi) h3d).2
        refine call_v (by kernel_rfl) (through_f _ px py vx vy vd x0 y0 x1 y1 (by assumption)) ?_
        have g'69 := (jn @h3 (jn @h3d g'67))
        refine runTf g'69 ?_
        exact hQ _ _ (end_plain (.inl rfl) hbel (x := .bool false) (resT Tryz.results314) rfl ⟨by first | (rw [hfinN]; done) | (refine congrArg AV.bool ?_; rw [Bool.eq_iff_iff]; unfold sbfB bfrB; simp only [Bool.and_eq_true, decide_eq_true_eq]; first | (simp only [hfinG, hfinB, true_and]; omega) | exact ⟨fun e => (by cases e), fun e => (by omega)⟩), rfl⟩)
  · have h1d := bsT h1
    have g'70 := (jn @h1 @h1d)
    refine runTf g'70 ?_
    exact hQ _ _ (end_plain (.inl rfl) hbel (x := .bool false) (resT Tryz.results314) rfl ⟨by first | (rw [hfinN]; done) | (refine congrArg AV.bool ?_; rw [Bool.eq_iff_iff]; unfold sbfB bfrB; simp only [Bool.and_eq_true, decide_eq_true_eq]; first | (simp only [hfinG, hfinB, true_and]; omega) | exact ⟨fun e => (by cases e), fun e => (by omega)⟩), rfl⟩)
theorem sminus_c (H : AHeap) (a0 : Int) (b0 : Int) (a1 : Int) (b1 : Int) (x0 : Int) (y0 : Int) (x1 : Int) (y1 : Int) (kba0 : -1099511627776 ≤ a0 ∧ a0 ≤ 1099511627776) (kbb0 : -1099511627776 ≤ b0 ∧ b0 ≤ 1099511627776) (kba1 : -1099511627776 ≤ a1 ∧ a1 ≤ 1099511627776) (kbb1 : -1099511627776 ≤ b1 ∧ b1 ≤ 1099511627776) (kbx0 : -1099511627776 ≤ x0 ∧ x0 ≤ 1099511627776) (kby0 : -1099511627776 ≤ y0 ∧ y0 ≤ 1099511627776) (kbx1 : -1099511627776 ≤ x1 ∧ x1 ≤ 1099511627776) (kby1 : -1099511627776 ≤ y1 ∧ y1 ≤ 1099511627776) : ACalls Tryz.prog 330 [.agg [.int .i64 a0, .int .i64 b0, .int .i64 a1, .int .i64 b1], .agg [.int .i64 x0, .int .i64 y0, .int .i64 x1, .int .i64 y1]] H (fun v H' => v = .tup [.agg [.int .i64 (mkV (mnsB a0 b0 a1 b1 x0 y0 x1 y1) (a0 - x1)), .int .i64 (mkV (mnsB a0 b0 a1 b1 x0 y0 x1 y1) (b0 - y1)), .int .i64 (mkV (mnsB a0 b0 a1 b1 x0 y0 x1 y1) (a1 - x0)), .int .i64 (mkV (mnsB a0 b0 a1 b1 x0 y0 x1 y1) (b1 - y0))], .bool (mnsB a0 b0 a1 b1 x0 y0 x1 y1)] ∧ H' = H) := by
  refine AcT true Tryz.func330 ?_; intro hbel Q hQ
  refine runT ?_
  refine call_v (by kernel_rfl) (svrc_c _ a0 b0 a1 b1) ?_
  refine runT ?_
  refine gd_split (fun h1 => ?_) (fun h1 => ?_)
  · have h1d := bsT h1
    have g'71 := (jn @h1 @h1d)
    refine runTf g'71 ?_
    refine call_v (by kernel_rfl) (svrc_c _ x0 y0 x1 y1) ?_
    refine runTf g'71 ?_
    refine gd_split (fun h2 => ?_) (fun h2 => ?_)
    · have h2d := bsT h2
      have g'72 := (jn @h2 (jn @h2d g'71))
      refine runTf g'72 ?_
      refine call_v (by kernel_rfl) (svrc_c _ (a0 - x1) (b0 - y1) (a1 - x0) (b1 - y0)) ?_
      refine runTf g'72 ?_
      refine cond_split (fun h3 => ?_) (fun h3 => ?_)
      · have h3d := bsT h3
        have g'73 := (jn @h3 (jn @h3d g'72))
        refine runTf g'73 ?_
        exact hQ _ _ (end_plain (.inl rfl) hbel (x := .tup [.agg [.int .i64 0, .int .i64 0, .int .i64 0, .int .i64 0], .bool false]) (resT Tryz.results330) rfl ⟨by simp [mnsB, mkV, h1d, h2d, h3d], rfl⟩)
      · have h3d := bsT h3
        have g'74 := (jn @h3 (jn @h3d g'72))
        refine runTf g'74 ?_
        exact hQ _ _ (end_plain (.inl rfl) hbel (x := .tup [.agg [.int .i64 (a0 - x1), .int .i64 (b0 - y1), .int .i64 (a1 - x0), .int .i64 (b1 - y0)], .bool true]) (resT Tryz.results330) rfl ⟨by simp [mnsB, mkV, h1d, h2d, h3d], rfl⟩)
    · have h2d := bsT h2
      have g'75 := (jn @h2 (jn @h2d g'71))
      refine runTf g'75 ?_
      exact hQ _ _ (end_plain (.inl rfl) hbel (x := .tup [.agg [.int .i64 0, .int .i64 0, .int .i64 0, .int .i64 0], .bool false]) (resT Tryz.results330) rfl ⟨by simp [mnsB, mkV, h1d, h2d], rfl⟩)
  · have h1d := bsT h1
    have g'76 := (jn @h1 @h1d)
    refine runTf g'76 ?_
    exact hQ _ _ (end_plain (.inl rfl) hbel (x := .tup [.agg [.int .i64 0, .int .i64 0, .int .i64 0, .int .i64 0], .bool false]) (resT Tryz.results330) rfl ⟨by simp [mnsB, mkV, h1d], rfl⟩)
open Go.RowKit
theorem hvv_c (H : AHeap) (vx : Int) (vy : Int) (vd : Int) : ACalls Tryz.prog 384 [.agg [.int .i64 vx, .int .i64 vy, .int .i64 vd]] H (fun v H' => v = .bool (vecB vx vy vd) ∧ H' = H) := by
  refine AcT true Tryz.func384 ?_; intro hbel Q hQ
  refine runT ?_
  refine gd_split (fun h1 => ?_) (fun h1 => ?_)
  · have h1d := bsT h1
    have g'1 := (jn @h1 @h1d)
    refine runTf g'1 ?_
    refine gd_split (fun h2 => ?_) (fun h2 => ?_)
    · have h2d := bsT h2
      have g'2 := (jn @h2 (jn @h2d g'1))
      refine runTf g'2 ?_
      refine gd_split (fun h3 => ?_) (fun h3 => ?_)
      · have h3d := bsT h3
        have g'3 := (jn @h3 (jn @h3d g'2))
        refine runTf g'3 ?_
        refine gd_split (fun h4 => ?_) (fun h4 => ?_)
        · have h4d := bsT h4
          have g'4 := (jn @h4 (jn @h4d g'3))
          refine runTf g'4 ?_
          refine gd_split (fun h5 => ?_) (fun h5 => ?_)
          · have h5d := bsT h5
            have g'5 := (jn @h5 (jn @h5d g'4))
            refine runTf g'5 ?_
            refine cond_split (fun h6 => ?_) (fun h6 => ?_)
            · have h6d := bsT h6
              have g'6 := (jn @h6 (jn @h6d g'5))
              refine runTf g'6 ?_
              exact hQ _ _ (end_plain (.inl rfl) hbel (x := .bool false) (resT Tryz.results384) rfl ⟨by first | (refine congrArg AV.bool ?_; rw [Bool.eq_iff_iff, vecB_iff, beq_iff_eq]; exact ⟨fun e => ⟨⟨by omega, by omega⟩, ⟨by omega, by omega⟩, ⟨by omega, by omega⟩, e⟩, fun e => e.2.2.2⟩) | (refine congrArg AV.bool ?_; rw [Bool.eq_iff_iff, vecB_iff]; exact ⟨fun e => (by cases e), fun k => (by omega)⟩), rfl⟩)
            · have h6d := bsT h6
              have hm1 := mul_bd (a := vx) (b := vx) (A := 67108864) (B := 67108864) (by omega) (by omega)
              have hm2 := mul_bd (a := vy) (b := vy) (A := 67108864) (B := 67108864) (by omega) (by omega)
              have hm3 := mul_bd (a := vd) (b := vd) (A := 67108864) (B := 67108864) (by omega) (by omega)
              have g'7 := (jn @h6 (jn @h6d g'5))
              refine runTf g'7 ?_
              exact hQ _ _ (end_plain (.inl rfl) hbel (x := .bool (((vx * vx) + (vy * vy)) == (vd * vd))) (resT Tryz.results384) rfl ⟨by first | (refine congrArg AV.bool ?_; rw [Bool.eq_iff_iff, vecB_iff, beq_iff_eq]; exact ⟨fun e => ⟨⟨by omega, by omega⟩, ⟨by omega, by omega⟩, ⟨by omega, by omega⟩, e⟩, fun e => e.2.2.2⟩) | (refine congrArg AV.bool ?_; rw [Bool.eq_iff_iff, vecB_iff]; exact ⟨fun e => (by cases e), fun k => (by omega)⟩), rfl⟩)
          · have h5d := bsT h5
            have g'8 := (jn @h5 (jn @h5d g'4))
            refine runTf g'8 ?_
            exact hQ _ _ (end_plain (.inl rfl) hbel (x := .bool false) (resT Tryz.results384) rfl ⟨by first | (refine congrArg AV.bool ?_; rw [Bool.eq_iff_iff, vecB_iff, beq_iff_eq]; exact ⟨fun e => ⟨⟨by omega, by omega⟩, ⟨by omega, by omega⟩, ⟨by omega, by omega⟩, e⟩, fun e => e.2.2.2⟩) | (refine congrArg AV.bool ?_; rw [Bool.eq_iff_iff, vecB_iff]; exact ⟨fun e => (by cases e), fun k => (by omega)⟩), rfl⟩)
        · have h4d := bsT h4
          have g'9 := (jn @h4 (jn @h4d g'3))
          refine runTf g'9 ?_
          exact hQ _ _ (end_plain (.inl rfl) hbel (x := .bool false) (resT Tryz.results384) rfl ⟨by first | (refine congrArg AV.bool ?_; rw [Bool.eq_iff_iff, vecB_iff, beq_iff_eq]; exact ⟨fun e => ⟨⟨by omega, by omega⟩, ⟨by omega, by omega⟩, ⟨by omega, by omega⟩, e⟩, fun e => e.2.2.2⟩) | (refine congrArg AV.bool ?_; rw [Bool.eq_iff_iff, vecB_iff]; exact ⟨fun e => (by cases e), fun k => (by omega)⟩), rfl⟩)
      · have h3d := bsT h3
        have g'10 := (jn @h3 (jn @h3d g'2))
        refine runTf g'10 ?_
        exact hQ _ _ (end_plain (.inl rfl) hbel (x := .bool false) (resT Tryz.results384) rfl ⟨by first | (refine congrArg AV.bool ?_; rw [Bool.eq_iff_iff, vecB_iff, beq_iff_eq]; exact ⟨fun e => ⟨⟨by omega, by omega⟩, ⟨by omega, by omega⟩, ⟨by omega, by omega⟩, e⟩, fun e => e.2.2.2⟩) | (refine congrArg AV.bool ?_; rw [Bool.eq_iff_iff, vecB_iff]; exact ⟨fun e => (by cases e), fun k => (by omega)⟩), rfl⟩)
    · have h2d := bsT h2
      have g'11 := (jn @h2 (jn @h2d g'1))
      refine runTf g'11 ?_
      exact hQ _ _ (end_plain (.inl rfl) hbel (x := .bool false) (resT Tryz.results384) rfl ⟨by first | (refine congrArg AV.bool ?_; rw [Bool.eq_iff_iff, vecB_iff, beq_iff_eq]; exact ⟨fun e => ⟨⟨by omega, by omega⟩, ⟨by omega, by omega⟩, ⟨by omega, by omega⟩, e⟩, fun e => e.2.2.2⟩) | (refine congrArg AV.bool ?_; rw [Bool.eq_iff_iff, vecB_iff]; exact ⟨fun e => (by cases e), fun k => (by omega)⟩), rfl⟩)
  · have h1d := bsT h1
    have g'12 := (jn @h1 @h1d)
    refine runTf g'12 ?_
    exact hQ _ _ (end_plain (.inl rfl) hbel (x := .bool false) (resT Tryz.results384) rfl ⟨by first | (refine congrArg AV.bool ?_; rw [Bool.eq_iff_iff, vecB_iff, beq_iff_eq]; exact ⟨fun e => ⟨⟨by omega, by omega⟩, ⟨by omega, by omega⟩, ⟨by omega, by omega⟩, e⟩, fun e => e.2.2.2⟩) | (refine congrArg AV.bool ?_; rw [Bool.eq_iff_iff, vecB_iff]; exact ⟨fun e => (by cases e), fun k => (by omega)⟩), rfl⟩)
theorem hturn_c (H : AHeap) (a : Vec) (b : Vec) (ha : vecOK a = true) (hb : vecOK b = true) : ACalls Tryz.prog 327 [.agg [.int .i64 a.1, .int .i64 a.2.1, .int .i64 a.2.2], .agg [.int .i64 b.1, .int .i64 b.2.1, .int .i64 b.2.2]] H (fun v H' => v = .tup [.agg [.int .i64 ((turV a b).1), .int .i64 ((turV a b).2.1), .int .i64 ((turV a b).2.2)], .int .i64 0] ∧ H' = H) := by
  have hka := vecOK_iff.1 ha
  have hkb := vecOK_iff.1 hb
  have hBa := vecOK_B ha
  have hBb := vecOK_B hb
  have hT := (vecB_iff.1 (tur_ok ha hb)).1
  unfold turV at hT
  have hm0 := mul_bd (a := a.1) (b := b.1) (A := 8065) (B := 8065) (by omega) (by omega)
  have hm1 := mul_bd (a := a.2.1) (b := b.2.1) (A := 8065) (B := 8065) (by omega) (by omega)
  have hm2 := mul_bd (a := a.1) (b := b.2.1) (A := 8065) (B := 8065) (by omega) (by omega)
  have hm3 := mul_bd (a := a.2.1) (b := b.1) (A := 8065) (B := 8065) (by omega) (by omega)
  have hm4 := mul_bd (a := a.2.2) (b := b.2.2) (A := 8065) (B := 8065) (by omega) (by omega)
  have hpd : 0 < a.2.2 * b.2.2 := Int.mul_pos (by omega) (by omega)
  have hnr : decide (67108864 < (lowV (a.1 * b.1 - a.2.1 * b.2.1) (a.1 * b.2.1 + a.2.1 * b.1) (a.2.2 * b.2.2)).2.2) = false := decide_eq_false (by omega)
  refine AcT true Tryz.func327 ?_; intro hbel Q hQ
  have g'23 := (jn @hBa (jn @hBb @hnr))
  refine runTf g'23 ?_
  refine call_v (by kernel_rfl) (hvv_c _ a.1 a.2.1 a.2.2) ?_
  refine runTf g'23 ?_
  refine call_v (by kernel_rfl) (hvv_c _ b.1 b.2.1 b.2.2) ?_
  refine runTf g'23 ?_
  refine call_v (by kernel_rfl) (low_c _ ((a.1 * b.1) - (a.2.1 * b.2.1)) ((a.1 * b.2.1) + (a.2.1 * b.1)) (a.2.2 * b.2.2) (by omega) (by omega) (by omega) (by omega)) ?_
  refine runTf g'23 ?_
  exact hQ _ _ (end_plain (.inl rfl) hbel (x := .tup [.agg [.int .i64 ((lowV ((a.1 * b.1) - (a.2.1 * b.2.1)) ((a.1 * b.2.1) + (a.2.1 * b.1)) (a.2.2 * b.2.2)).1), .int .i64 ((lowV ((a.1 * b.1) - (a.2.1 * b.2.1)) ((a.1 * b.2.1) + (a.2.1 * b.1)) (a.2.2 * b.2.2)).2.1), .int .i64 ((lowV ((a.1 * b.1) - (a.2.1 * b.2.1)) ((a.1 * b.2.1) + (a.2.1 * b.1)) (a.2.2 * b.2.2)).2.2)], .int .i64 0]) (resT Tryz.results327) rfl ⟨rfl, rfl⟩)
theorem hbeam_c (H : AHeap) (h : Int) (m : Int) : ACalls Tryz.prog 257 [.int .i64 h, .int .i64 m] H (fun v H' => v = .agg [.int .i64 ((beamV h m).1), .int .i64 ((beamV h m).2.1), .int .i64 ((beamV h m).2.2)] ∧ H' = H) := by
  refine AcT true Tryz.func257 ?_; intro hbel Q hQ
  refine runT ?_
  refine call_v (by kernel_rfl) (dir_c _ h) ?_
  refine runT ?_
  refine call_v (by kernel_rfl) (dir_c _ m) ?_
  refine runT ?_
  refine call_v (by kernel_rfl) (hturn_c _ (dirV h) (dirV m) (dirV_ok _) (dirV_ok _)) ?_
  refine runT ?_
  exact hQ _ _ (end_plain (.inl rfl) hbel (x := .agg [.int .i64 ((turV (dirV h) (dirV m)).1), .int .i64 ((turV (dirV h) (dirV m)).2.1), .int .i64 ((turV (dirV h) (dirV m)).2.2)]) (resT Tryz.results257) rfl ⟨rfl, rfl⟩)
open Go.RowKit
open Go.RowKit
theorem lw_tdiv {n d : Int} (hn : 0 ≤ n) (hd : 0 < d) : Int.tdiv n (Int.gcd n d : Int) = lwN n d ∧ Int.tdiv d (Int.gcd n d : Int) = lwD n d := ⟨Int.tdiv_eq_ediv_of_nonneg hn, Int.tdiv_eq_ediv_of_nonneg (by omega)⟩
open Go.RowKit
open Go.RowKit
open Go.RowKit
/-- The first wall: the first of the nearest among those that count. -/
def fsStep (Q : Int × Int → Bool) (D : Int × Int → Int × Int) (s : Option (Int × Int)) (c : Int × Int) : Option (Int × Int) :=
  if Q c = true ∧ (∀ b, s = some b → (D c).1 * (D b).2 < (D b).1 * (D c).2) then some c else s
def fsF (Q : Int × Int → Bool) (D : Int × Int → Int × Int) (l : List (Int × Int)) : Option (Int × Int) := l.foldl (fsStep Q D) none
theorem fs_law {Q : Int × Int → Bool} {D : Int × Int → Int × Int} (hD : ∀ c, 0 < (D c).2) : ∀ (l : List (Int × Int)) (s : Option (Int × Int)), (∀ b, s = some b → Q b = true) →
    (l.foldl (fsStep Q D) s = none ↔ s = none ∧ ∀ c ∈ l, Q c = false) ∧
    (∀ b, l.foldl (fsStep Q D) s = some b → (s = some b ∨ b ∈ l) ∧ Q b = true ∧ (∀ c, s = some c → (D b).1 * (D c).2 ≤ (D c).1 * (D b).2) ∧ ∀ c ∈ l, Q c = true → (D b).1 * (D c).2 ≤ (D c).1 * (D b).2)
  | [], s, hs => ⟨by simp, fun b h => ⟨.inl h, hs b h, fun c hc => by
      have h : s = some b := h
      rw [hc] at h; cases h; exact Int.le_refl _, fun c hc => absurd hc (by simp)⟩⟩
  | c :: l, s, hs => by
    rw [List.foldl_cons]
    have hs' : ∀ b, fsStep Q D s c = some b → Q b = true := fun b hb => by
      unfold fsStep at hb
      split at hb
      · rename_i h; cases hb; exact h.1
      · exact hs b hb
    have ih := fs_law hD l (fsStep Q D s c) hs'
    have tr : ∀ {x y z : Int × Int}, (D x).1 * (D y).2 ≤ (D y).1 * (D x).2 → (D y).1 * (D z).2 ≤ (D z).1 * (D y).2 → (D x).1 * (D z).2 ≤ (D z).1 * (D x).2 := fun {x y z} h1 h2 => fr_trans (hD x) (hD y) (hD z) h1 h2
    by_cases hq : Q c = true ∧ (∀ b, s = some b → (D c).1 * (D b).2 < (D b).1 * (D c).2)
    · have e : fsStep Q D s c = some c := if_pos hq
      rw [e] at ih ⊢
      refine ⟨⟨fun h => absurd (ih.1.1 h).1 (by simp), fun h => absurd (h.2 c (List.mem_cons_self ..)) (by rw [hq.1]; decide)⟩, fun b hb => ?_⟩
      obtain ⟨i1, i2, i3, i4⟩ := ih.2 b hb
      have hbc := i3 c rfl
      refine ⟨?_, i2, fun x hx => tr hbc (Int.le_of_lt (hq.2 x hx)), fun x hx hQ => ?_⟩
      · rcases i1 with i1 | i1
        · cases i1; exact .inr (List.mem_cons_self ..)
        · exact .inr (List.mem_cons_of_mem _ i1)
      · rcases List.mem_cons.1 hx with q | q
        · rw [q]; exact hbc
        · exact i4 x q hQ
    · have e : fsStep Q D s c = s := if_neg hq
      rw [e] at ih ⊢
      have hc : Q c = true → ∃ b, s = some b ∧ (D b).1 * (D c).2 ≤ (D c).1 * (D b).2 := fun hQ => by
        cases hs0 : s with
        | none => exact absurd ⟨hQ, fun b hb => by rw [hs0] at hb; cases hb⟩ hq
        | some b => exact ⟨b, rfl, by
            rcases Int.lt_or_le ((D c).1 * (D b).2) ((D b).1 * (D c).2) with h | h
            · exact absurd ⟨hQ, fun b' hb' => by rw [hs0] at hb'; cases hb'; exact h⟩ hq
            · exact h⟩
      refine ⟨⟨fun h => ?_, fun h => ih.1.2 ⟨h.1, fun x hx => h.2 x (List.mem_cons_of_mem _ hx)⟩⟩, fun b hb => ?_⟩
      · obtain ⟨h1, h2⟩ := ih.1.1 h
        refine ⟨h1, fun x hx => ?_⟩
        rcases List.mem_cons.1 hx with q | q
        · rw [q]
          cases hQ : Q c
          · rfl
          · obtain ⟨b, hb, -⟩ := hc hQ
            rw [h1] at hb; cases hb
        · exact h2 x q
      · obtain ⟨i1, i2, i3, i4⟩ := ih.2 b hb
        refine ⟨i1.elim .inl fun k => .inr (List.mem_cons_of_mem _ k), i2, i3, fun x hx hQ => ?_⟩
        rcases List.mem_cons.1 hx with q | q
        · rw [q] at hQ ⊢
          obtain ⟨b', hb', h⟩ := hc hQ
          exact tr (i3 b' hb') h
        · exact i4 x q hQ
/-- What the first wall is. -/
theorem fs_some {Q : Int × Int → Bool} {D : Int × Int → Int × Int} (hD : ∀ c, 0 < (D c).2) {l : List (Int × Int)} {b : Int × Int} (h : fsF Q D l = some b) : b ∈ l ∧ Q b = true ∧ ∀ c ∈ l, Q c = true → (D b).1 * (D c).2 ≤ (D c).1 * (D b).2 := by
  obtain ⟨i1, i2, -, i4⟩ := (fs_law hD l none (fun b hb => by cases hb)).2 b h
  exact ⟨i1.resolve_left (by simp), i2, i4⟩
theorem fs_none {Q : Int × Int → Bool} {D : Int × Int → Int × Int} (hD : ∀ c, 0 < (D c).2) {l : List (Int × Int)} : fsF Q D l = none ↔ ∀ c ∈ l, Q c = false := by
  have := (fs_law (Q := Q) hD l none (fun b hb => by cases hb)).1
  exact this.trans ⟨fun h => h.2, fun h => ⟨rfl, h⟩⟩
/-- A reading holds the distance within its bound. -/
theorem read_bd {N D e rng z : Int} (hD : 0 < D) (hN : 0 ≤ N) (he : 1 - rng ≤ e ∧ e ≤ rng) (hz : (0 ≤ N / D + e ∧ z = N / D + e) ∨ (N / D + e < 0 ∧ z = 0)) : (z - rng) * D ≤ N ∧ N < (z + rng) * D := by
  have q1 : N / D * D ≤ N := Int.ediv_mul_le N (by omega)
  have q2 : N < (N / D + 1) * D := Int.lt_ediv_add_one_mul_self N hD
  have q0 : 0 ≤ N / D := Int.ediv_nonneg hN (by omega)
  rcases hz with ⟨h, rfl⟩ | ⟨h, rfl⟩
  · have a1 := Int.mul_le_mul_of_nonneg_right (show N / D + e - rng ≤ N / D by omega) (show 0 ≤ D by omega)
    have a2 := Int.mul_le_mul_of_nonneg_right (show N / D + 1 ≤ N / D + e + rng by omega) (show 0 ≤ D by omega)
    omega
  · have a1 := Int.mul_le_mul_of_nonneg_right (show 0 - rng ≤ 0 by omega) (show 0 ≤ D by omega)
    have a2 := Int.mul_le_mul_of_nonneg_right (show N / D + 1 ≤ 0 + rng by omega) (show 0 ≤ D by omega)
    rw [Int.zero_mul] at a1
    omega
def oX (s : Option (Int × Int)) : Int := match s with | none => 0 | some c => c.1
def oY (s : Option (Int × Int)) : Int := match s with | none => 0 | some c => c.2
theorem fsStep_no {Q : Int × Int → Bool} {D : Int × Int → Int × Int} {s : Option (Int × Int)} {c : Int × Int} (h : Q c = false) : fsStep Q D s c = s := if_neg (by rw [h]; simp)
theorem fsStep_far {Q : Int × Int → Bool} {D : Int × Int → Int × Int} {b c : Int × Int} (h : ¬ (D c).1 * (D b).2 < (D b).1 * (D c).2) : fsStep Q D (some b) c = some b := if_neg fun k => h (k.2 b rfl)
theorem fsStep_new {Q : Int × Int → Bool} {D : Int × Int → Int × Int} {c : Int × Int} (h : Q c = true) : fsStep Q D none c = some c := if_pos ⟨h, fun b hb => by cases hb⟩
theorem fsStep_less {Q : Int × Int → Bool} {D : Int × Int → Int × Int} {b c : Int × Int} (h : Q c = true) (k : (D c).1 * (D b).2 < (D b).1 * (D c).2) : fsStep Q D (some b) c = some c := if_pos ⟨h, fun b' hb => by cases hb; exact k⟩
open Go.RowKit
section
variable (H : AHeap)
theorem psize_c (x : Int) : ACalls Tryz.prog 188 [.int .i64 x] H (fun v H' => v = .bool (decide (1 ≤ x) && decide (x ≤ 64)) ∧ H' = H) := by
  (refine ACalls_run try_mixed Tryz.func188 true _ rfl (Nat.le_of_ble_eq_true (by kernel_rfl)) (by kernel_rfl) ?_; intro hbel Q hQ hQ' c hc; unfold Tryz.f188 at hc; simp only [Option.some.injEq] at hc; subst hc; clear hQ')
  by_cases h1 : 1 ≤ x
  · simp -implicitDefEqProofs (disch := omega) only [h1, simprocAttr, amset, tyset, Function.comp_apply, one1, lenV, calleeOf, lateOk, belowV, aop, AV.ofValue, AV.ofCell, AV.cells, AV.flat, AV.one, arep, aBin, aAppend, aConv]
    exact hQ _ _ (end_plain0 (.inl rfl) hbel (x := .bool (decide (x ≤ 64))) (resT Tryz.results188) rfl ⟨by simp only [h1, decide_true, Bool.true_and], rfl⟩)
  · simp -implicitDefEqProofs (disch := omega) only [h1, simprocAttr, amset, tyset, Function.comp_apply, one1, lenV, calleeOf, lateOk, belowV, aop, AV.ofValue, AV.ofCell, AV.cells, AV.flat, AV.one, arep, aBin, aAppend, aConv]
    exact hQ _ _ (end_plain0 (.inl rfl) hbel (x := .bool false) (resT Tryz.results188) rfl ⟨by simp only [h1, decide_false, Bool.false_and], rfl⟩)
set_option maxRecDepth 100000 in
theorem max_c (xs : List Int) (b : Nat) (own : Bool) (cap : Option Nat) (hb : H[b]? = some (.cells own 1 (ints .u8 xs))) (h0 : 0 < xs.length) (hn : xs.length ≤ 1000000) : ACalls Tryz.prog 189 [.sl (some (b, 0)) xs.length cap] H (fun v H' => ∃ m, v = .int .u8 m ∧ m ∈ xs ∧ (∀ x ∈ xs, x ≤ m) ∧ H' = H) := by
  have hbl := getElem?_lt hb
  have hg0 := ints_get (k := .u8) (xs := xs) (j := 0) h0
  (refine ACalls_run try_mixed Tryz.func189 true _ rfl (Nat.le_of_ble_eq_true (by kernel_rfl)) (by kernel_rfl) ?_; intro hbel Q hQ hQ' c hc; unfold Tryz.f189 at hc; simp only [Option.some.injEq] at hc; subst hc; clear hQ')
  have h1 : ¬ (xs.length : Int) < 1 := by omega
  simp -implicitDefEqProofs (disch := omega) only [h1, hb, hg0, simprocAttr, amset, tyset, Function.comp_apply, one1, lenV, calleeOf, lateOk, belowV, aop, AV.ofValue, AV.ofCell, AV.cells, AV.flat, AV.one, arep, aBin, aAppend, aConv]
  repeat refine And.intro (by omega) ?_
  refine go_loop try_mixed (by kernel_rfl) (fun k F Hx => ∃ (i : Nat) (m : Int), i + k = xs.length ∧ 1 ≤ i ∧ m ∈ xs ∧ (∀ j, j < i → gi xs j ≤ m) ∧ F = [(0, .sl (some (b, 0)) xs.length none), (3, .int .u8 m), (4, .int .i64 (i : Nat))] ∧ Hx = H) (xs.length - 1) ?_ ?_
  · refine ⟨_, _, _, ⟨1, gi xs 0, by omega, by omega, gi_mem h0, fun j hj => by obtain rfl : j = 0 := by omega
                                                                                exact Int.le_refl _, rfl, rfl⟩, Abs.by0 hbel ?_⟩
    exact absT
  · rintro k F Hx ⟨i, m, hik, hi1, hm, hle, rfl, rfl⟩ J hJ
    by_cases hi : i < xs.length
    · have hii : (i : Int) < (xs.length : Int) := by omega
      have hg := ints_get (k := .u8) (xs := xs) (j := i) hi
      simp -implicitDefEqProofs (disch := omega) only [hii, hb, hg, simprocAttr, amset, tyset, Function.comp_apply, one1, lenV, calleeOf, lateOk, belowV, aop, AV.ofValue, AV.ofCell, AV.cells, AV.flat, AV.one, arep, aBin, aAppend, aConv]
      repeat refine And.intro (by omega) ?_
      refine hJ _ _ ⟨k - 1, by omega, _, _, _, ⟨i + 1, if m < gi xs i then gi xs i else m, by omega, by omega, by split; exact gi_mem hi; exact hm, fun j hj => ?_, rfl, rfl⟩, Abs.by0 hbel ?_⟩
      · by_cases hji : j = i
        · subst hji; split <;> omega
        · have := hle j (by omega); split <;> omega
      · exact absT
    · have hnn : ¬ ((i : Int) < (xs.length : Int)) := by omega
      simp -implicitDefEqProofs (disch := omega) only [hnn, simprocAttr, amset, tyset, Function.comp_apply, one1, lenV, calleeOf, lateOk, belowV, aop, AV.ofValue, AV.ofCell, AV.cells, AV.flat, AV.one, arep, aBin, aAppend, aConv]
      exact hQ _ _ (end_plain0 (.inl rfl) hbel (x := .int .u8 m) (resT Tryz.results189) rfl ⟨m, rfl, hm, fun x hx => by
        obtain ⟨j, hj, rfl⟩ := List.getElem_of_mem hx
        rw [← gi_lt hj]; exact hle j (by omega), rfl⟩)
theorem vldB_neg {W Hh : Int} {xs : List Int} (h : ¬ (1 ≤ W ∧ W ≤ 64 ∧ 1 ≤ Hh ∧ Hh ≤ 64 ∧ (xs.length : Int) = W * Hh)) : vldB W Hh xs = false := vld_false.2 fun v => h ⟨v.w0, v.w1, v.h0, v.h1, v.len⟩
set_option maxRecDepth 100000 in
theorem valid_a (W Hh : Int) (s : AV) (xs : List Int) (hs : IsI H .u8 s xs) : ACalls Tryz.prog 104 [.agg [.int .i64 W, .int .i64 Hh, s]] H (fun v H' => v = .bool (vldB W Hh xs) ∧ H' = H) := by
  have hs1 : ∃ a c, s = .sl a xs.length c := by
    rcases hs with ⟨rfl, rfl⟩ | ⟨b, own, cap, rfl, hb⟩
    · exact ⟨_, _, rfl⟩
    · exact ⟨_, _, rfl⟩
  obtain ⟨a1, c1, rfl⟩ := hs1
  (refine ACalls_run try_mixed Tryz.func104 true _ rfl (Nat.le_of_ble_eq_true (by kernel_rfl)) (by kernel_rfl) ?_; intro hbel Q hQ hQ' c hc; unfold Tryz.f104 at hc; simp only [Option.some.injEq] at hc; subst hc; clear hQ')
  simp -implicitDefEqProofs (disch := omega) only [simprocAttr, amset, tyset, Function.comp_apply, one1, lenV, calleeOf, lateOk, belowV, aop, AV.ofValue, AV.ofCell, AV.cells, AV.flat, AV.one, arep, aBin, aAppend, aConv]
  refine call_v (by kernel_rfl) (psize_c _ _) ?_
  cases h1 : (decide (1 ≤ W) && decide (W ≤ 64))
  · simp only [Bool.and_eq_false_iff, decide_eq_false_iff_not] at h1
    simp -implicitDefEqProofs (disch := omega) only [simprocAttr, amset, tyset, Function.comp_apply, one1, lenV, calleeOf, lateOk, belowV, aop, AV.ofValue, AV.ofCell, AV.cells, AV.flat, AV.one, arep, aBin, aAppend, aConv]
    exact hQ _ _ (end_plain (.inl rfl) hbel (x := .bool false) (resT Tryz.results104) rfl ⟨by rw [vldB_neg (by omega)], rfl⟩)
  simp only [Bool.and_eq_true, decide_eq_true_eq] at h1
  simp -implicitDefEqProofs (disch := omega) only [simprocAttr, amset, tyset, Function.comp_apply, one1, lenV, calleeOf, lateOk, belowV, aop, AV.ofValue, AV.ofCell, AV.cells, AV.flat, AV.one, arep, aBin, aAppend, aConv]
  refine call_v (by kernel_rfl) (psize_c _ _) ?_
  cases h2 : (decide (1 ≤ Hh) && decide (Hh ≤ 64))
  · simp only [Bool.and_eq_false_iff, decide_eq_false_iff_not] at h2
    simp -implicitDefEqProofs (disch := omega) only [simprocAttr, amset, tyset, Function.comp_apply, one1, lenV, calleeOf, lateOk, belowV, aop, AV.ofValue, AV.ofCell, AV.cells, AV.flat, AV.one, arep, aBin, aAppend, aConv]
    exact hQ _ _ (end_plain (.inl rfl) hbel (x := .bool false) (resT Tryz.results104) rfl ⟨by rw [vldB_neg (by omega)], rfl⟩)
  simp only [Bool.and_eq_true, decide_eq_true_eq] at h2
  have hm := mul_le_64 (a := W) (b := Hh) (by omega) (by omega) (by omega) (by omega)
  have hm1 := Int.mul_le_mul (a := 1) (b := 1) (c := W) (d := Hh) h1.1 h2.1 (by omega) (by omega)
  by_cases h3 : (xs.length : Int) = W * Hh
  · have h3' : ((xs.length : Int) != W * Hh) = false := by simp [h3]
    have h4 : ((xs.length : Int) == 0) = false := beq_eq_false_iff_ne.2 (by omega)
    obtain ⟨b, own, cap, e1, hb⟩ := hs.resolve_left (fun h => by rw [h.1] at h3; simp at h3; omega)
    injection e1 with e1 _ e1'; subst e1 e1'
    have hb0 := fun l => get_app (l := l) hb
    have hbl := getElem?_lt hb
    simp -implicitDefEqProofs (disch := omega) only [h3', h4, simprocAttr, amset, tyset, Function.comp_apply, one1, lenV, calleeOf, lateOk, belowV, aop, AV.ofValue, AV.ofCell, AV.cells, AV.flat, AV.one, arep, aBin, aAppend, aConv]
    refine call_of (by kernel_rfl) (max_c _ xs b own c1 (hb0 _) (by omega) (by omega)) ?_
    rintro x H' ⟨m, rfl, hm, hle, rfl⟩
    simp -implicitDefEqProofs (disch := omega) only [simprocAttr, amset, tyset, Function.comp_apply, one1, lenV, calleeOf, lateOk, belowV, aop, AV.ofValue, AV.ofCell, AV.cells, AV.flat, AV.one, arep, aBin, aAppend, aConv]
    exact hQ _ _ (end_plain (.inl rfl) hbel (x := .bool (decide (m ≤ 2))) (resT Tryz.results104) rfl ⟨by
      congr 1
      rw [Bool.eq_iff_iff, vld_iff, decide_eq_true_eq]
      exact ⟨fun h => ⟨h1.1, h1.2, h2.1, h2.2, h3, fun v hv => Int.le_trans (hle v hv) h⟩, fun h => h.le m hm⟩, rfl⟩)
  · have h3' : ((xs.length : Int) != W * Hh) = true := by simp [h3]
    simp -implicitDefEqProofs (disch := omega) only [h3', simprocAttr, amset, tyset, Function.comp_apply, one1, lenV, calleeOf, lateOk, belowV, aop, AV.ofValue, AV.ofCell, AV.cells, AV.flat, AV.one, arep, aBin, aAppend, aConv]
    exact hQ _ _ (end_plain (.inl rfl) hbel (x := .bool false) (resT Tryz.results104) rfl ⟨by rw [vldB_neg (by omega)], rfl⟩)
set_option maxRecDepth 100000 in
theorem rplan_a (W Hh : Int) (s : AV) (xs : List Int) (hs : IsI H .u8 s xs) : ACalls Tryz.prog 75 [.agg [.int .i64 W, .int .i64 Hh, s]] H (fun v H' => v = .bool (vldB W Hh xs) ∧ H' = H) := by
  have hs1 : ∃ a c, s = .sl a xs.length c := by
    rcases hs with ⟨rfl, rfl⟩ | ⟨b, own, cap, rfl, hb⟩
    · exact ⟨_, _, rfl⟩
    · exact ⟨_, _, rfl⟩
  obtain ⟨a1, c1, rfl⟩ := hs1
  (refine ACalls_run try_mixed Tryz.func75 true _ rfl (Nat.le_of_ble_eq_true (by kernel_rfl)) (by kernel_rfl) ?_; intro hbel Q hQ hQ' c hc; unfold Tryz.f75 at hc; simp only [Option.some.injEq] at hc; subst hc; clear hQ')
  by_cases h1 : W < 1
  · simp -implicitDefEqProofs (disch := omega) only [h1, simprocAttr, amset, tyset, Function.comp_apply, one1, lenV, calleeOf, lateOk, belowV, aop, AV.ofValue, AV.ofCell, AV.cells, AV.flat, AV.one, arep, aBin, aAppend, aConv]
    exact hQ _ _ (end_plain (.inl rfl) hbel (x := .bool false) (resT Tryz.results75) rfl ⟨by rw [vldB_neg (by omega)], rfl⟩)
  by_cases h2 : 64 < W
  · simp -implicitDefEqProofs (disch := omega) only [h1, h2, simprocAttr, amset, tyset, Function.comp_apply, one1, lenV, calleeOf, lateOk, belowV, aop, AV.ofValue, AV.ofCell, AV.cells, AV.flat, AV.one, arep, aBin, aAppend, aConv]
    exact hQ _ _ (end_plain (.inl rfl) hbel (x := .bool false) (resT Tryz.results75) rfl ⟨by rw [vldB_neg (by omega)], rfl⟩)
  by_cases h3 : Hh < 1
  · simp -implicitDefEqProofs (disch := omega) only [h1, h2, h3, simprocAttr, amset, tyset, Function.comp_apply, one1, lenV, calleeOf, lateOk, belowV, aop, AV.ofValue, AV.ofCell, AV.cells, AV.flat, AV.one, arep, aBin, aAppend, aConv]
    exact hQ _ _ (end_plain (.inl rfl) hbel (x := .bool false) (resT Tryz.results75) rfl ⟨by rw [vldB_neg (by omega)], rfl⟩)
  by_cases h4 : 64 < Hh
  · simp -implicitDefEqProofs (disch := omega) only [h1, h2, h3, h4, simprocAttr, amset, tyset, Function.comp_apply, one1, lenV, calleeOf, lateOk, belowV, aop, AV.ofValue, AV.ofCell, AV.cells, AV.flat, AV.one, arep, aBin, aAppend, aConv]
    exact hQ _ _ (end_plain (.inl rfl) hbel (x := .bool false) (resT Tryz.results75) rfl ⟨by rw [vldB_neg (by omega)], rfl⟩)
  have hm := mul_le_64 (a := W) (b := Hh) (by omega) (by omega) (by omega) (by omega)
  have hm1 := Int.mul_le_mul (a := 1) (b := 1) (c := W) (d := Hh) (by omega) (by omega) (by omega) (by omega)
  by_cases h5 : (xs.length : Int) = W * Hh
  · have h5' : ((xs.length : Int) != W * Hh) = false := by simp [h5]
    obtain ⟨b, own, cap, e1, hb⟩ := hs.resolve_left (fun h => by rw [h.1] at h5; simp at h5; omega)
    injection e1 with e1 _ e1'; subst e1 e1'
    have hb0 := fun l => get_app (l := l) hb
    have hbl := getElem?_lt hb
    simp -implicitDefEqProofs (disch := omega) only [h1, h2, h3, h4, h5', simprocAttr, amset, tyset, Function.comp_apply, one1, lenV, calleeOf, lateOk, belowV, aop, AV.ofValue, AV.ofCell, AV.cells, AV.flat, AV.one, arep, aBin, aAppend, aConv]
    refine go_loop try_mixed (by kernel_rfl) (fun k F Hx => ∃ (i : Nat), i + k = xs.length ∧ (∀ j, j < i → gi xs j ≤ 2) ∧ F = [(1, .ptr (some (H.length, 0))), (3, .int .i64 (i : Nat))] ∧ Hx = H ++ [.cells true 0 [.int .i64 W, .int .i64 Hh, .sl (some (b, 0)) xs.length c1]]) xs.length ?_ ?_
    · refine ⟨_, _, _, ⟨0, by omega, fun j hj => absurd hj (Nat.not_lt_zero j), rfl, rfl⟩, Abs.by hbel [0] (by decide) ?_⟩
      exact absT
    · rintro k F Hx ⟨i, hik, hle, rfl, rfl⟩ J hJ
      by_cases hi : i < xs.length
      · have hii : (i : Int) < (xs.length : Int) := by omega
        have hg := ints_get (k := .u8) (xs := xs) (j := i) hi
        by_cases h6 : 2 < gi xs i
        · simp -implicitDefEqProofs (disch := omega) only [hii, hb0, hg, h6, simprocAttr, amset, tyset, Function.comp_apply, one1, lenV, calleeOf, lateOk, belowV, aop, AV.ofValue, AV.ofCell, AV.cells, AV.flat, AV.one, arep, aBin, aAppend, aConv]
          repeat refine And.intro (by omega) ?_
          exact hQ _ _ (end_plain (.inl rfl) hbel (x := .bool false) (resT Tryz.results75) rfl ⟨by rw [vld_false.2 fun v => absurd (v.le _ (gi_mem hi)) (by omega)], rfl⟩)
        · simp -implicitDefEqProofs (disch := omega) only [hii, hb0, hg, h6, simprocAttr, amset, tyset, Function.comp_apply, one1, lenV, calleeOf, lateOk, belowV, aop, AV.ofValue, AV.ofCell, AV.cells, AV.flat, AV.one, arep, aBin, aAppend, aConv]
          repeat refine And.intro (by omega) ?_
          refine hJ _ _ ⟨k - 1, by omega, _, _, _, ⟨i + 1, by omega, fun j hj => ?_, rfl, rfl⟩, Abs.by hbel [0] (by decide) ?_⟩
          · by_cases hji : j = i
            · subst hji; omega
            · exact hle j (by omega)
          · exact absT
      · have hnn : ¬ ((i : Int) < (xs.length : Int)) := by omega
        simp -implicitDefEqProofs (disch := omega) only [hnn, simprocAttr, amset, tyset, Function.comp_apply, one1, lenV, calleeOf, lateOk, belowV, aop, AV.ofValue, AV.ofCell, AV.cells, AV.flat, AV.one, arep, aBin, aAppend, aConv]
        exact hQ _ _ (end_plain (.inl rfl) hbel (x := .bool true) (resT Tryz.results75) rfl ⟨by rw [vld_iff.2 ⟨by omega, by omega, by omega, by omega, h5, fun x hx => by
          obtain ⟨j, hj, rfl⟩ := List.getElem_of_mem hx
          rw [← gi_lt hj]; exact hle j (by omega)⟩], rfl⟩)
  · have h5' : ((xs.length : Int) != W * Hh) = true := by simp [h5]
    simp -implicitDefEqProofs (disch := omega) only [h1, h2, h3, h4, h5', simprocAttr, amset, tyset, Function.comp_apply, one1, lenV, calleeOf, lateOk, belowV, aop, AV.ofValue, AV.ofCell, AV.cells, AV.flat, AV.one, arep, aBin, aAppend, aConv]
    exact hQ _ _ (end_plain (.inl rfl) hbel (x := .bool false) (resT Tryz.results75) rfl ⟨by rw [vldB_neg (by omega)], rfl⟩)
end
set_option linter.unusedSimpArgs false
set_option linter.unusedVariables false
open Go.RowKit
section
variable {H : AHeap} {W Hh x y : Int} {s : AV} {xs : List Int} {g : Nat} {own : Bool} {cap : Option Nat} {n : Nat}
end
set_option linter.unusedSimpArgs false
set_option linter.unusedVariables false
open Go.RowKit
set_option maxRecDepth 100000 in
theorem idx_int (H : AHeap) (s : AV) (l : List Int) (hs : Sl H 1 s l.length (ints .i64 l)) (hl : l.length ≤ 1000000000) (g : FuncId) (caps : List AV) (hok : okFn Tryz.prog g = true) (hc : AV.bels H.length caps = true) (p : Int → Bool) (hf : ∀ j, j < l.length → ACalls Tryz.prog g (.int .i64 (gi l j) :: caps) H (fun v H' => v = .bool (p (gi l j)) ∧ H' = H)) :
    ACalls Tryz.prog 291 [s, .fn g caps] H (fun v H' => v = .int .i64 (idxI p l) ∧ H' = H) := by
  obtain ⟨b, own, cap, rfl, hb⟩ := hs
  have hbl := getElem?_lt hb
  have hmv := fun m sel => mvs_caps (n := H.length) (m := m) (sel := sel) hc
  (refine ACalls_run try_mixed Tryz.func291 true _ rfl (Nat.le_of_ble_eq_true (by kernel_rfl)) (by kernel_rfl) ?_; intro hbel Q hQ hQ' c hc; unfold Tryz.f291 at hc; simp only [Option.some.injEq] at hc; subst hc; clear hQ')
  simp -implicitDefEqProofs (disch := omega) only [simprocAttr, amset, tyset, Function.comp_apply, one1, lenV, calleeOf, lateOk, belowV, aop, AV.ofValue, AV.ofCell, AV.cells, AV.flat, AV.one, arep, aBin, aAppend, aConv]
  refine go_loop try_mixed (by kernel_rfl) (fun k F Hx => ∃ i : Nat, i + k = l.length ∧ (l.take i).any p = false ∧ F = [(0, .sl (some (b, 0)) l.length none), (1, .fn g caps), (7, .int .i64 l.length), (8, .int .i64 (i : Nat))] ∧ Hx = H) l.length ?_ ?_
  · refine ⟨_, _, _, ⟨0, by omega, rfl, rfl, rfl⟩, Abs.by0 hbel ?_⟩
    exact absWf @hmv
  · rintro k F Hx ⟨i, hik, ht, rfl, rfl⟩ J hJ
    by_cases hi : i < l.length
    · have hii : (i : Int) < (l.length : Int) := by omega
      have q1 := ints_get (k := .i64) hi
      have hg := gi_eq hi
      simp -implicitDefEqProofs (disch := omega) only [hii, hb, q1, ints_len, ints_ones, simprocAttr, amset, tyset, Function.comp_apply, one1, lenV, calleeOf, lateOk, belowV, aop, AV.ofValue, AV.ofCell, AV.cells, AV.flat, AV.one, arep, aBin, aAppend, aConv]
      refine And.intro (by omega) ?_
      refine call_v hok (hf i hi) ?_
      have hst := any_step (p := p) hi
      rw [ht, Bool.false_or, ← hg] at hst
      cases h1 : p (gi l i)
      · rw [h1] at hst
        simp -implicitDefEqProofs (disch := omega) only [h1, simprocAttr, amset, tyset, Function.comp_apply, one1, lenV, calleeOf, lateOk, belowV, aop, AV.ofValue, AV.ofCell, AV.cells, AV.flat, AV.one, arep, aBin, aAppend, aConv]
        refine hJ _ _ ⟨k - 1, by omega, _, _, _, ⟨i + 1, by omega, hst, rfl, rfl⟩, Abs.by0 hbel ?_⟩
        exact absWf @hmv
      · simp -implicitDefEqProofs (disch := omega) only [h1, simprocAttr, amset, tyset, Function.comp_apply, one1, lenV, calleeOf, lateOk, belowV, aop, AV.ofValue, AV.ofCell, AV.cells, AV.flat, AV.one, arep, aBin, aAppend, aConv]
        exact hQ _ _ (end_plain0 (.inl rfl) hbel (x := .int .i64 (i : Nat)) (resT Tryz.results291) rfl ⟨by rw [idxI_at hi ht (by rw [← hg]; exact h1)], rfl⟩)
    · have hnn : ¬ ((i : Int) < (l.length : Int)) := by omega
      simp -implicitDefEqProofs (disch := omega) only [hnn, simprocAttr, amset, tyset, Function.comp_apply, one1, lenV, calleeOf, lateOk, belowV, aop, AV.ofValue, AV.ofCell, AV.cells, AV.flat, AV.one, arep, aBin, aAppend, aConv]
      rw [List.take_of_length_le (by omega)] at ht
      exact hQ _ _ (end_plain0 (.inl rfl) hbel (x := .int .i64 (-1)) (resT Tryz.results291) rfl ⟨by rw [idxI_none ht], rfl⟩)
theorem has_int (H : AHeap) (s : AV) (l : List Int) (hs : Sl H 1 s l.length (ints .i64 l)) (hl : l.length ≤ 1000000000) (g : FuncId) (caps : List AV) (hok : okFn Tryz.prog g = true) (hc : AV.bels H.length caps = true) (p : Int → Bool) (hf : ∀ j, j < l.length → ACalls Tryz.prog g (.int .i64 (gi l j) :: caps) H (fun v H' => v = .bool (p (gi l j)) ∧ H' = H)) :
    ACalls Tryz.prog 223 [s, .fn g caps] H (fun v H' => v = .bool (l.any p) ∧ H' = H) := by
  have key := idx_int H s l hs hl g caps hok hc p hf
  obtain ⟨b, own, cap, rfl, hb⟩ := hs
  have hbl := getElem?_lt hb
  (refine ACalls_run try_mixed Tryz.func223 true _ rfl (Nat.le_of_ble_eq_true (by kernel_rfl)) (by kernel_rfl) ?_; intro hbel Q hQ hQ' c hc; unfold Tryz.f223 at hc; simp only [Option.some.injEq] at hc; subst hc; clear hQ')
  simp -implicitDefEqProofs (disch := omega) only [simprocAttr, amset, tyset, Function.comp_apply, one1, lenV, calleeOf, lateOk, belowV, aop, AV.ofValue, AV.ofCell, AV.cells, AV.flat, AV.one, arep, aBin, aAppend, aConv]
  refine call_v (by kernel_rfl) key ?_
  simp -implicitDefEqProofs (disch := omega) only [simprocAttr, amset, tyset, Function.comp_apply, one1, lenV, calleeOf, lateOk, belowV, aop, AV.ofValue, AV.ofCell, AV.cells, AV.flat, AV.one, arep, aBin, aAppend, aConv]
  exact hQ _ _ (end_plain0 (.inl rfl) hbel (x := .bool (decide (0 ≤ idxI p l))) (resT Tryz.results223) rfl ⟨by rw [idxI_any], rfl⟩)
open Go.RowKit
set_option maxRecDepth 100000 in
theorem idx_box (H : AHeap) (s : AV) (l : List T6) (hs : Sl H 6 s l.length (r6 l)) (hl : l.length ≤ 1000000000) (g : FuncId) (caps : List AV) (hok : okFn Tryz.prog g = true) (hc : AV.bels H.length caps = true) (p : T6 → Bool) (hf : ∀ j, j < l.length → ACalls Tryz.prog g (.agg [.int .i64 (g61 l j), .int .i64 (g62 l j), .int .i64 (g63 l j), .int .i64 (g64 l j), .int .i64 (g65 l j), .int .i64 (g66 l j)] :: caps) H (fun v H' => v = .bool (p (g61 l j, g62 l j, g63 l j, g64 l j, g65 l j, g66 l j)) ∧ H' = H)) :
    ACalls Tryz.prog 178 [s, .fn g caps] H (fun v H' => v = .int .i64 (idxI p l) ∧ H' = H) := by
  obtain ⟨b, own, cap, rfl, hb⟩ := hs
  have hbl := getElem?_lt hb
  have hmv := fun m sel => mvs_caps (n := H.length) (m := m) (sel := sel) hc
  (refine ACalls_run try_mixed Tryz.func178 true _ rfl (Nat.le_of_ble_eq_true (by kernel_rfl)) (by kernel_rfl) ?_; intro hbel Q hQ hQ' c hc; unfold Tryz.f178 at hc; simp only [Option.some.injEq] at hc; subst hc; clear hQ')
  simp -implicitDefEqProofs (disch := omega) only [simprocAttr, amset, tyset, Function.comp_apply, one1, lenV, calleeOf, lateOk, belowV, aop, AV.ofValue, AV.ofCell, AV.cells, AV.flat, AV.one, arep, aBin, aAppend, aConv]
  refine go_loop try_mixed (by kernel_rfl) (fun k F Hx => ∃ i : Nat, i + k = l.length ∧ (l.take i).any p = false ∧ F = [(0, .sl (some (b, 0)) l.length none), (1, .fn g caps), (7, .int .i64 l.length), (8, .int .i64 (i : Nat))] ∧ Hx = H) l.length ?_ ?_
  · refine ⟨_, _, _, ⟨0, by omega, rfl, rfl, rfl⟩, Abs.by0 hbel ?_⟩
    exact absWf @hmv
  · rintro k F Hx ⟨i, hik, ht, rfl, rfl⟩ J hJ
    by_cases hi : i < l.length
    · have hii : (i : Int) < (l.length : Int) := by omega
      have q1 := r6_load hi
      have hg := g6_eq hi
      simp -implicitDefEqProofs (disch := omega) only [hii, hb, q1, r6_len, r6_one, simprocAttr, amset, tyset, Function.comp_apply, one1, lenV, calleeOf, lateOk, belowV, aop, AV.ofValue, AV.ofCell, AV.cells, AV.flat, AV.one, arep, aBin, aAppend, aConv]
      iterate 2 refine And.intro (by omega) ?_
      refine call_v hok (hf i hi) ?_
      have hst := any_step (p := p) hi
      rw [ht, Bool.false_or, ← hg] at hst
      cases h1 : p (g61 l i, g62 l i, g63 l i, g64 l i, g65 l i, g66 l i)
      · rw [h1] at hst
        simp -implicitDefEqProofs (disch := omega) only [h1, simprocAttr, amset, tyset, Function.comp_apply, one1, lenV, calleeOf, lateOk, belowV, aop, AV.ofValue, AV.ofCell, AV.cells, AV.flat, AV.one, arep, aBin, aAppend, aConv]
        refine hJ _ _ ⟨k - 1, by omega, _, _, _, ⟨i + 1, by omega, hst, rfl, rfl⟩, Abs.by0 hbel ?_⟩
        exact absWf @hmv
      · simp -implicitDefEqProofs (disch := omega) only [h1, simprocAttr, amset, tyset, Function.comp_apply, one1, lenV, calleeOf, lateOk, belowV, aop, AV.ofValue, AV.ofCell, AV.cells, AV.flat, AV.one, arep, aBin, aAppend, aConv]
        exact hQ _ _ (end_plain0 (.inl rfl) hbel (x := .int .i64 (i : Nat)) (resT Tryz.results178) rfl ⟨by rw [idxI_at hi ht (by rw [← hg]; exact h1)], rfl⟩)
    · have hnn : ¬ ((i : Int) < (l.length : Int)) := by omega
      simp -implicitDefEqProofs (disch := omega) only [hnn, simprocAttr, amset, tyset, Function.comp_apply, one1, lenV, calleeOf, lateOk, belowV, aop, AV.ofValue, AV.ofCell, AV.cells, AV.flat, AV.one, arep, aBin, aAppend, aConv]
      rw [List.take_of_length_le (by omega)] at ht
      exact hQ _ _ (end_plain0 (.inl rfl) hbel (x := .int .i64 (-1)) (resT Tryz.results178) rfl ⟨by rw [idxI_none ht], rfl⟩)
theorem has_box (H : AHeap) (s : AV) (l : List T6) (hs : Sl H 6 s l.length (r6 l)) (hl : l.length ≤ 1000000000) (g : FuncId) (caps : List AV) (hok : okFn Tryz.prog g = true) (hc : AV.bels H.length caps = true) (p : T6 → Bool) (hf : ∀ j, j < l.length → ACalls Tryz.prog g (.agg [.int .i64 (g61 l j), .int .i64 (g62 l j), .int .i64 (g63 l j), .int .i64 (g64 l j), .int .i64 (g65 l j), .int .i64 (g66 l j)] :: caps) H (fun v H' => v = .bool (p (g61 l j, g62 l j, g63 l j, g64 l j, g65 l j, g66 l j)) ∧ H' = H)) :
    ACalls Tryz.prog 92 [s, .fn g caps] H (fun v H' => v = .bool (l.any p) ∧ H' = H) := by
  have key := idx_box H s l hs hl g caps hok hc p hf
  obtain ⟨b, own, cap, rfl, hb⟩ := hs
  have hbl := getElem?_lt hb
  (refine ACalls_run try_mixed Tryz.func92 true _ rfl (Nat.le_of_ble_eq_true (by kernel_rfl)) (by kernel_rfl) ?_; intro hbel Q hQ hQ' c hc; unfold Tryz.f92 at hc; simp only [Option.some.injEq] at hc; subst hc; clear hQ')
  simp -implicitDefEqProofs (disch := omega) only [simprocAttr, amset, tyset, Function.comp_apply, one1, lenV, calleeOf, lateOk, belowV, aop, AV.ofValue, AV.ofCell, AV.cells, AV.flat, AV.one, arep, aBin, aAppend, aConv]
  refine call_v (by kernel_rfl) key ?_
  simp -implicitDefEqProofs (disch := omega) only [simprocAttr, amset, tyset, Function.comp_apply, one1, lenV, calleeOf, lateOk, belowV, aop, AV.ofValue, AV.ofCell, AV.cells, AV.flat, AV.one, arep, aBin, aAppend, aConv]
  exact hQ _ _ (end_plain0 (.inl rfl) hbel (x := .bool (decide (0 ≤ idxI p l))) (resT Tryz.results92) rfl ⟨by rw [idxI_any], rfl⟩)
open Go.RowKit
set_option maxHeartbeats 4000000
set_option maxRecDepth 100000
theorem small1_c (H : AHeap) (n : Int) : ACalls Tryz.prog 262 [.int .i64 n] H (fun v H' => v = .bool (offB n) ∧ H' = H) := by
  refine AcT true Tryz.func262 ?_; intro hbel Q hQ
  refine runT ?_
  refine gd_split (fun h1 => ?_) (fun h1 => ?_)
  · have h1d := bsT h1
    have g'1 := (jn @h1 @h1d)
    refine runTf g'1 ?_
    exact hQ _ _ (end_plain0 (.inl rfl) hbel (x := .bool (decide (1048576 < n))) (resT Tryz.results262) rfl ⟨by simp [offB, h1d], rfl⟩)
  · have h1d := bsT h1
    have g'2 := (jn @h1 @h1d)
    refine runTf g'2 ?_
    exact hQ _ _ (end_plain0 (.inl rfl) hbel (x := .bool true) (resT Tryz.results262) rfl ⟨by simp [offB, h1d], rfl⟩)
theorem small_c (H : AHeap) (s : AV) (l : List Int) (hs : Sl H 1 s l.length (ints .i64 l)) (hl : l.length ≤ 1000000) : ACalls Tryz.prog 182 [s] H (fun v H' => v = .bool (!(l.any offB)) ∧ H' = H) := by
  obtain ⟨bs, os, cs, rfl, hbs⟩ := hs
  have hbls := getElem?_lt hbs
  have hb0s := fun l => get_app (l := l) hbs
  refine AcT true Tryz.func182 ?_; intro hbel Q hQ
  have g'3 := (jn @hbs @hb0s)
  refine runTf g'3 ?_
  refine call_v (by kernel_rfl) (has_int _ _ l ⟨_, _, _, rfl, by first | exact hb0s _ | exact hbs⟩ (by omega) _ [] (by kernel_rfl) rfl offB (fun j hj => small1_c _ _)) ?_
  refine runTf g'3 ?_
  exact hQ _ _ (end_plain0 (.inl rfl) hbel (x := .bool (!(l.any offB))) (resT Tryz.results182) rfl ⟨rfl, rfl⟩)
theorem varc_c (H : AHeap) (f : Int) (c : Int) : ACalls Tryz.prog 183 [.agg [.int .i64 f, .int .i64 c]] H (fun v H' => v = .bool (arcB f c) ∧ H' = H) := by
  refine AcT true Tryz.func183 ?_; intro hbel Q hQ
  refine runT ?_
  refine gd_split (fun h1 => ?_) (fun h1 => ?_)
  · have h1d := bsT h1
    have g'4 := (jn @h1 @h1d)
    refine runTf g'4 ?_
    refine gd_split (fun h2 => ?_) (fun h2 => ?_)
    · have h2d := bsT h2
      have g'5 := (jn @h2 (jn @h2d g'4))
      refine runTf g'5 ?_
      refine gd_split (fun h3 => ?_) (fun h3 => ?_)
      · have h3d := bsT h3
        have g'6 := (jn @h3 (jn @h3d g'5))
        refine runTf g'6 ?_
        refine gd_split (fun h4 => ?_) (fun h4 => ?_)
        · have h4d := bsT h4
          have g'7 := (jn @h4 (jn @h4d g'6))
          refine runTf g'7 ?_
          refine gd_split (fun h5 => ?_) (fun h5 => ?_)
          · have h5d := bsT h5
            have h5n := bnT h5
            have g'8 := (jn @h5 (jn @h5n (jn @int_bne (jn @int_beq g'7))))
            refine runTf g'8 ?_
            exact hQ _ _ (end_plain (.inl rfl) hbel (x := .bool (decide (c < 256))) (resT Tryz.results183) rfl ⟨by first | (simp [arcB, h1d, h2d, h3d, h4d, h5d]; done) | (simp [arcB, h1d, h2d, h3d, h4d, h5d]; omega), rfl⟩)
          · have h5d := bsT h5
            have h5n := bnT h5
            have g'9 := (jn @h5 (jn @h5n (jn @int_bne (jn @int_beq g'7))))
            refine runTf g'9 ?_
            exact hQ _ _ (end_plain (.inl rfl) hbel (x := .bool true) (resT Tryz.results183) rfl ⟨by first | (simp [arcB, h1d, h2d, h3d, h4d, h5d]; done) | (simp [arcB, h1d, h2d, h3d, h4d, h5d]; omega), rfl⟩)
        · have h4d := bsT h4
          have g'10 := (jn @h4 (jn @h4d g'6))
          refine runTf g'10 ?_
          exact hQ _ _ (end_plain (.inl rfl) hbel (x := .bool false) (resT Tryz.results183) rfl ⟨by first | (simp [arcB, h1d, h2d, h3d, h4d]; done) | (simp [arcB, h1d, h2d, h3d, h4d]; omega), rfl⟩)
      · have h3d := bsT h3
        have g'11 := (jn @h3 (jn @h3d g'5))
        refine runTf g'11 ?_
        exact hQ _ _ (end_plain (.inl rfl) hbel (x := .bool false) (resT Tryz.results183) rfl ⟨by first | (simp [arcB, h1d, h2d, h3d]; done) | (simp [arcB, h1d, h2d, h3d]; omega), rfl⟩)
    · have h2d := bsT h2
      have g'12 := (jn @h2 (jn @h2d g'4))
      refine runTf g'12 ?_
      exact hQ _ _ (end_plain (.inl rfl) hbel (x := .bool false) (resT Tryz.results183) rfl ⟨by first | (simp [arcB, h1d, h2d]; done) | (simp [arcB, h1d, h2d]; omega), rfl⟩)
  · have h1d := bsT h1
    have g'13 := (jn @h1 @h1d)
    refine runTf g'13 ?_
    exact hQ _ _ (end_plain (.inl rfl) hbel (x := .bool false) (resT Tryz.results183) rfl ⟨by first | (simp [arcB, h1d]; done) | (simp [arcB, h1d]; omega), rfl⟩)
theorem barc_c (H : AHeap) (f : Int) (c : Int) : ACalls Tryz.prog 177 [.agg [.int .i64 f, .int .i64 c]] H (fun v H' => v = .bool (arcB f c) ∧ H' = H) := by
  refine AcT true Tryz.func177 ?_; intro hbel Q hQ
  refine runT ?_
  refine gd_split (fun h1 => ?_) (fun h1 => ?_)
  · have h1d := bsT h1
    have g'14 := (jn @h1 @h1d)
    refine runTf g'14 ?_
    refine gd_split (fun h2 => ?_) (fun h2 => ?_)
    · have h2d := bsT h2
      have g'15 := (jn @h2 (jn @h2d g'14))
      refine runTf g'15 ?_
      refine gd_split (fun h3 => ?_) (fun h3 => ?_)
      · have h3d := bsT h3
        have g'16 := (jn @h3 (jn @h3d g'15))
        refine runTf g'16 ?_
        refine gd_split (fun h4 => ?_) (fun h4 => ?_)
        · have h4d := bsT h4
          have g'17 := (jn @h4 (jn @h4d g'16))
          refine runTf g'17 ?_
          refine gd_split (fun h5 => ?_) (fun h5 => ?_)
          · have h5d := bsT h5
            have g'18 := (jn @h5 (jn @h5d g'17))
            refine runTf g'18 ?_
            exact hQ _ _ (end_plain (.inl rfl) hbel (x := .bool (f == 0)) (resT Tryz.results177) rfl ⟨by rw [← arcR_eq]; first | (simp [arcR, h1d, h2d, h3d, h4d, h5d]; done) | (simp [arcR, h1d, h2d, h3d, h4d, h5d]; omega), rfl⟩)
          · have h5d := bsT h5
            have g'19 := (jn @h5 (jn @h5d g'17))
            refine runTf g'19 ?_
            exact hQ _ _ (end_plain (.inl rfl) hbel (x := .bool true) (resT Tryz.results177) rfl ⟨by rw [← arcR_eq]; first | (simp [arcR, h1d, h2d, h3d, h4d, h5d]; done) | (simp [arcR, h1d, h2d, h3d, h4d, h5d]; omega), rfl⟩)
        · have h4d := bsT h4
          have g'20 := (jn @h4 (jn @h4d g'16))
          refine runTf g'20 ?_
          exact hQ _ _ (end_plain (.inl rfl) hbel (x := .bool false) (resT Tryz.results177) rfl ⟨by rw [← arcR_eq]; first | (simp [arcR, h1d, h2d, h3d, h4d]; done) | (simp [arcR, h1d, h2d, h3d, h4d]; omega), rfl⟩)
      · have h3d := bsT h3
        have g'21 := (jn @h3 (jn @h3d g'15))
        refine runTf g'21 ?_
        exact hQ _ _ (end_plain (.inl rfl) hbel (x := .bool false) (resT Tryz.results177) rfl ⟨by rw [← arcR_eq]; first | (simp [arcR, h1d, h2d, h3d]; done) | (simp [arcR, h1d, h2d, h3d]; omega), rfl⟩)
    · have h2d := bsT h2
      have g'22 := (jn @h2 (jn @h2d g'14))
      refine runTf g'22 ?_
      exact hQ _ _ (end_plain (.inl rfl) hbel (x := .bool false) (resT Tryz.results177) rfl ⟨by rw [← arcR_eq]; first | (simp [arcR, h1d, h2d]; done) | (simp [arcR, h1d, h2d]; omega), rfl⟩)
  · have h1d := bsT h1
    have g'23 := (jn @h1 @h1d)
    refine runTf g'23 ?_
    exact hQ _ _ (end_plain (.inl rfl) hbel (x := .bool false) (resT Tryz.results177) rfl ⟨by rw [← arcR_eq]; first | (simp [arcR, h1d]; done) | (simp [arcR, h1d]; omega), rfl⟩)
theorem xarc_c (H : AHeap) (x0 : Int) (y0 : Int) (x1 : Int) (y1 : Int) (f : Int) (c : Int) : ACalls Tryz.prog 180 [.agg [.int .i64 x0, .int .i64 y0, .int .i64 x1, .int .i64 y1, .int .i64 f, .int .i64 c]] H (fun v H' => v = .agg [.int .i64 f, .int .i64 c] ∧ H' = H) := by
  refine AcT true Tryz.func180 ?_; intro hbel Q hQ
  refine runT ?_
  exact hQ _ _ (end_plain (.inl rfl) hbel (x := .agg [.int .i64 f, .int .i64 c]) (resT Tryz.results180) rfl ⟨rfl, rfl⟩)
theorem bxv_c (H : AHeap) (x0 : Int) (y0 : Int) (x1 : Int) (y1 : Int) (f : Int) (c : Int) : ACalls Tryz.prog 96 [.agg [.int .i64 x0, .int .i64 y0, .int .i64 x1, .int .i64 y1, .int .i64 f, .int .i64 c]] H (fun v H' => v = .bool (bxB x0 y0 x1 y1 f c) ∧ H' = H) := by
  refine AcT true Tryz.func96 ?_; intro hbel Q hQ
  refine runT ?_
  refine gd_split (fun h1 => ?_) (fun h1 => ?_)
  · have h1d := bsT h1
    have g'24 := (jn @h1 @h1d)
    refine runTf g'24 ?_
    refine gd_split (fun h2 => ?_) (fun h2 => ?_)
    · have h2d := bsT h2
      have g'25 := (jn @h2 (jn @h2d g'24))
      refine runTf g'25 ?_
      refine call_v (by kernel_rfl) (small_c _ _ [x0, y0, x1, y1] ⟨_, _, _, by first | rfl | (rw [List.length_append]; done) | (rw [List.length_append]; rfl), by first | rfl | (rw [get_newk]; rfl) | (rw [get_new0]; rfl) | (rw [get_newk, prs_append]; rfl) | (rw [get_new0, prs_append]; rfl)⟩ (by first | decide | omega | simp)) ?_
      refine runTf g'25 ?_
      refine gd_split (fun h3 => ?_) (fun h3 => ?_)
      · have h3d := bsT h3
        have g'26 := (jn @h3 (jn @h3d g'25))
        refine runTf g'26 ?_
        refine call_v (by kernel_rfl) (xarc_c _ x0 y0 x1 y1 f c) ?_
        refine runTf g'26 ?_
        refine call_v (by kernel_rfl) (varc_c _ f c) ?_
        refine runTf g'26 ?_
        exact hQ _ _ (end_plain (.inl rfl) hbel (x := .bool (arcB f c)) (resT Tryz.results96) rfl ⟨by first | (simp [bxB, h1d, h2d, h3d]; done) | (unfold bxB; simp only [h1d, h2d, h3d]; rfl), rfl⟩)
      · have h3d := bsT h3
        have g'27 := (jn @h3 (jn @h3d g'25))
        refine runTf g'27 ?_
        exact hQ _ _ (end_plain (.inl rfl) hbel (x := .bool false) (resT Tryz.results96) rfl ⟨by first | (simp [bxB, h1d, h2d, h3d]; done) | (unfold bxB; simp only [h1d, h2d, h3d]; rfl), rfl⟩)
    · have h2d := bsT h2
      have g'28 := (jn @h2 (jn @h2d g'24))
      refine runTf g'28 ?_
      exact hQ _ _ (end_plain (.inl rfl) hbel (x := .bool false) (resT Tryz.results96) rfl ⟨by first | (simp [bxB, h1d, h2d]; done) | (unfold bxB; simp only [h1d, h2d]; rfl), rfl⟩)
  · have h1d := bsT h1
    have g'29 := (jn @h1 @h1d)
    refine runTf g'29 ?_
    exact hQ _ _ (end_plain (.inl rfl) hbel (x := .bool false) (resT Tryz.results96) rfl ⟨by first | (simp [bxB, h1d]; done) | (unfold bxB; simp only [h1d]; rfl), rfl⟩)
theorem bbx_c (H : AHeap) (x0 : Int) (y0 : Int) (x1 : Int) (y1 : Int) (f : Int) (c : Int) : ACalls Tryz.prog 91 [.agg [.int .i64 x0, .int .i64 y0, .int .i64 x1, .int .i64 y1, .int .i64 f, .int .i64 c]] H (fun v H' => v = .bool (bxB x0 y0 x1 y1 f c) ∧ H' = H) := by
  refine AcT true Tryz.func91 ?_; intro hbel Q hQ
  refine runT ?_
  refine gd_split (fun h1 => ?_) (fun h1 => ?_)
  · have h1d := bsT h1
    have g'30 := (jn @h1 @h1d)
    refine runTf g'30 ?_
    refine gd_split (fun h2 => ?_) (fun h2 => ?_)
    · have h2d := bsT h2
      have g'31 := (jn @h2 (jn @h2d g'30))
      refine runTf g'31 ?_
      refine gd_split (fun h3 => ?_) (fun h3 => ?_)
      · have h3d := bsT h3
        have g'32 := (jn @h3 (jn @h3d g'31))
        refine runTf g'32 ?_
        refine gd_split (fun h4 => ?_) (fun h4 => ?_)
        · have h4d := bsT h4
          have g'33 := (jn @h4 (jn @h4d g'32))
          refine runTf g'33 ?_
          refine gd_split (fun h5 => ?_) (fun h5 => ?_)
          · have h5d := bsT h5
            have g'34 := (jn @h5 (jn @h5d g'33))
            refine runTf g'34 ?_
            refine gd_split (fun h6 => ?_) (fun h6 => ?_)
            · have h6d := bsT h6
              have g'35 := (jn @h6 (jn @h6d g'34))
              refine runTf g'35 ?_
              refine call_v (by kernel_rfl) (barc_c _ f c) ?_
              refine runTf g'35 ?_
              exact hQ _ _ (end_plain (.inl rfl) hbel (x := .bool (arcB f c)) (resT Tryz.results91) rfl ⟨by rw [← bxR_eq]; simp [bxR, h1d, h2d, h3d, h4d, h5d, h6d], rfl⟩)
            · have h6d := bsT h6
              have g'36 := (jn @h6 (jn @h6d g'34))
              refine runTf g'36 ?_
              exact hQ _ _ (end_plain (.inl rfl) hbel (x := .bool false) (resT Tryz.results91) rfl ⟨by rw [← bxR_eq]; simp [bxR, h1d, h2d, h3d, h4d, h5d, h6d], rfl⟩)
          · have h5d := bsT h5
            have g'37 := (jn @h5 (jn @h5d g'33))
            refine runTf g'37 ?_
            exact hQ _ _ (end_plain (.inl rfl) hbel (x := .bool false) (resT Tryz.results91) rfl ⟨by rw [← bxR_eq]; simp [bxR, h1d, h2d, h3d, h4d, h5d], rfl⟩)
        · have h4d := bsT h4
          have g'38 := (jn @h4 (jn @h4d g'32))
          refine runTf g'38 ?_
          exact hQ _ _ (end_plain (.inl rfl) hbel (x := .bool false) (resT Tryz.results91) rfl ⟨by rw [← bxR_eq]; simp [bxR, h1d, h2d, h3d, h4d], rfl⟩)
      · have h3d := bsT h3
        have g'39 := (jn @h3 (jn @h3d g'31))
        refine runTf g'39 ?_
        exact hQ _ _ (end_plain (.inl rfl) hbel (x := .bool false) (resT Tryz.results91) rfl ⟨by rw [← bxR_eq]; simp [bxR, h1d, h2d, h3d], rfl⟩)
    · have h2d := bsT h2
      have g'40 := (jn @h2 (jn @h2d g'30))
      refine runTf g'40 ?_
      exact hQ _ _ (end_plain (.inl rfl) hbel (x := .bool false) (resT Tryz.results91) rfl ⟨by rw [← bxR_eq]; simp [bxR, h1d, h2d], rfl⟩)
  · have h1d := bsT h1
    have g'41 := (jn @h1 @h1d)
    refine runTf g'41 ?_
    exact hQ _ _ (end_plain (.inl rfl) hbel (x := .bool false) (resT Tryz.results91) rfl ⟨by rw [← bxR_eq]; simp [bxR, h1d], rfl⟩)
theorem bset_c (H : AHeap) (s : AV) (l : List T6) (hs : Sl H 6 s l.length (r6 l)) (hl : l.length ≤ 1000000000) : ACalls Tryz.prog 28 [s] H (fun v H' => v = .bool (setB l) ∧ H' = H) := by
  obtain ⟨bs, os, cs, rfl, hbs⟩ := hs
  have hbls := getElem?_lt hbs
  have hb0s := fun l => get_app (l := l) hbs
  refine AcT true Tryz.func28 ?_; intro hbel Q hQ
  have g'45 := (jn @hbs @hb0s)
  refine runTf g'45 ?_
  refine cond_split (fun h1 => ?_) (fun h1 => ?_)
  · have h1d := bsT h1
    have hfinS : setB l = false := by unfold setB; rw [decide_eq_false (by omega)]; rfl
    have g'46 := (jn @h1 (jn @h1d g'45))
    refine runTf g'46 ?_
    exact hQ _ _ (end_plain0 (.inl rfl) hbel (x := .bool false) (resT Tryz.results28) rfl ⟨by first | (rw [hfinS]; done) | (simp [setB, h1d, hfinS]; done), rfl⟩)
  · have h1d := bsT h1
    have g'47 := (jn @h1 (jn @h1d g'45))
    refine runTf g'47 ?_
    refine go_loop try_mixed (by kernel_rfl) (fun k F Hx => ∃ i : Nat, i + k = l.length ∧ (∀ j : Nat, j < i → boxB (g6 l j) = true) ∧ F = [(0, .sl (some (bs, 0)) l.length cs), (3, .int .i64 ((i : Nat) : Int))] ∧ H = Hx) (l.length) ?_ ?_
    · refine ⟨_, _, _, ⟨0, by omega, fun j h => by omega, rfl, rfl⟩, Abs.by0 hbel ?_⟩
      exact absW
    · rintro k0 F Hx ⟨i, hm0, hal, rfl, rfl⟩ J0 hJ0
      refine runTf g'47 ?_
      refine cond_split (fun h2 => ?_) (fun h2 => ?_)
      · have h2d := bsT h2
        have q3 := r6_load (l := l) (j := i) (by omega)
        have g'48 := (jn @h2 (jn @h2d (jn @r6_len (jn @q3 g'47))))
        refine runTf g'48 ?_
        refine call_v (by kernel_rfl) (bbx_c _ (g61 l i) (g62 l i) (g63 l i) (g64 l i) (g65 l i) (g66 l i)) ?_
        refine runTf g'48 ?_
        refine cond_split (fun h4 => ?_) (fun h4 => ?_)
        · have h4d := bsT h4
          have hfinS : setB l = false := by
            rw [← Bool.not_eq_true, setB_iff]; intro hh
            have := hh.2 (g6 l i) (g6_mem (by omega))
            exact absurd (this.symm.trans h4d) (by decide)
          have g'49 := (jn @h4 (jn @h4d g'48))
          refine runTf g'49 ?_
          exact hQ _ _ (end_plain0 (.inl rfl) hbel (x := .bool false) (resT Tryz.results28) rfl ⟨by first | (rw [hfinS]; done) | (simp [setB, h1d, h2d, h4d, hfinS]; done), rfl⟩)
        · have h4d := bsT h4
          have hbi : boxB (g6 l i) = true := h4d
          have g'50 := (jn @h4 (jn @h4d g'48))
          refine runTf g'50 ?_
          refine hJ0 _ _ ⟨k0 - 1, by omega, _, _, _, ⟨i + 1, by omega, fun j hj => by
                      rcases Nat.lt_or_ge j i with h | h
                      · exact hal j h
                      · rw [show j = i by omega]; exact hbi, rfl, rfl⟩, Abs.by0 hbel ?_⟩
          exact absW
      · have h2d := bsT h2
        have hfinS : setB l = true := setB_iff.2 ⟨by omega, fun b hb => by
          obtain ⟨j, hj, e⟩ := List.mem_iff_getElem.1 hb
          rw [← e, ← g6_eq hj]; exact hal j (by omega)⟩
        have g'51 := (jn @h2 (jn @h2d g'47))
        refine runTf g'51 ?_
        exact hQ _ _ (end_plain0 (.inl rfl) hbel (x := .bool true) (resT Tryz.results28) rfl ⟨by first | (rw [hfinS]; done) | (simp [setB, h1d, h2d, hfinS]; done), rfl⟩)
open Go.RowKit
theorem pinside_c (H : AHeap) (W : Int) (Hh : Int) (pp : AV) (xs : List Int) (x : Int) (y : Int) (hpp : Sl H 1 pp xs.length (ints .u8 xs)) : ACalls Tryz.prog 175 [.agg [.int .i64 W, .int .i64 Hh, pp], .agg [.int .i64 x, .int .i64 y]] H (fun v H' => v = .bool (inB W Hh x y) ∧ H' = H) := by
  obtain ⟨bpp, opp, cpp, rfl, hbpp⟩ := hpp
  have hblpp := getElem?_lt hbpp
  have hb0pp := fun l => get_app (l := l) hbpp
  refine AcT true Tryz.func175 ?_; intro hbel Q hQ
  have g'1 := (jn @hbpp @hb0pp)
  refine runTf g'1 ?_
  refine gd_split (fun h1 => ?_) (fun h1 => ?_)
  · have h1d := bsT h1
    have g'2 := (jn @h1 (jn @h1d g'1))
    refine runTf g'2 ?_
    refine gd_split (fun h2 => ?_) (fun h2 => ?_)
    · have h2d := bsT h2
      have g'3 := (jn @h2 (jn @h2d g'2))
      refine runTf g'3 ?_
      refine gd_split (fun h3 => ?_) (fun h3 => ?_)
      · have h3d := bsT h3
        have g'4 := (jn @h3 (jn @h3d g'3))
        refine runTf g'4 ?_
        exact hQ _ _ (end_plain (.inl rfl) hbel (x := .bool (decide (y < Hh))) (resT Tryz.results175) rfl ⟨by first | (simp [inB, h1d, h2d, h3d]; done) | (simp [inB, h1d, h2d, h3d]; omega), rfl⟩)
      · have h3d := bsT h3
        have g'5 := (jn @h3 (jn @h3d g'3))
        refine runTf g'5 ?_
        exact hQ _ _ (end_plain (.inl rfl) hbel (x := .bool false) (resT Tryz.results175) rfl ⟨by first | (simp [inB, h1d, h2d, h3d]; done) | (simp [inB, h1d, h2d, h3d]; omega), rfl⟩)
    · have h2d := bsT h2
      have g'6 := (jn @h2 (jn @h2d g'2))
      refine runTf g'6 ?_
      exact hQ _ _ (end_plain (.inl rfl) hbel (x := .bool false) (resT Tryz.results175) rfl ⟨by first | (simp [inB, h1d, h2d]; done) | (simp [inB, h1d, h2d]; omega), rfl⟩)
  · have h1d := bsT h1
    have g'7 := (jn @h1 (jn @h1d g'1))
    refine runTf g'7 ?_
    exact hQ _ _ (end_plain (.inl rfl) hbel (x := .bool false) (resT Tryz.results175) rfl ⟨by first | (simp [inB, h1d]; done) | (simp [inB, h1d]; omega), rfl⟩)
theorem pat_c (H : AHeap) (W : Int) (Hh : Int) (pp : AV) (xs : List Int) (x : Int) (y : Int) (hpp : Sl H 1 pp xs.length (ints .u8 xs)) (hV : vldB W Hh xs = true) : ACalls Tryz.prog 85 [.agg [.int .i64 W, .int .i64 Hh, pp], .agg [.int .i64 x, .int .i64 y]] H (fun v H' => v = .int .u8 (atI W Hh xs x y) ∧ H' = H) := by
  obtain ⟨bpp, opp, cpp, rfl, hbpp⟩ := hpp
  have hblpp := getElem?_lt hbpp
  have hb0pp := fun l => get_app (l := l) hbpp
  have hVl := vld_iff.1 hV
  have hll := hVl.len
  have hpp2 := hVl.pos
  refine AcT true Tryz.func85 ?_; intro hbel Q hQ
  have g'8 := (jn @hbpp (jn @hb0pp @hV))
  refine runTf g'8 ?_
  refine call_v (by kernel_rfl) (valid_a _ W Hh _ xs (.inr ⟨_, _, _, rfl, by first | exact hb0pp _ | exact hbpp⟩)) ?_
  refine runTf g'8 ?_
  refine call_v (by kernel_rfl) (pinside_c _ W Hh _ xs x y ⟨_, _, _, rfl, by first | exact hb0pp _ | exact hbpp⟩) ?_
  refine runTf g'8 ?_
  refine cond_split (fun h1 => ?_) (fun h1 => ?_)
  · have h1d := bsT h1
    have g'9 := (jn @h1 (jn @h1d g'8))
    refine runTf g'9 ?_
    exact hQ _ _ (end_plain (.inl rfl) hbel (x := .int .u8 2) (resT Tryz.results85) rfl ⟨by simp [atI, h1d], rfl⟩)
  · have h1d := bsT h1
    have hin := h1d
    obtain ⟨i1, i2, i3, i4, i5, -⟩ := hVl.idx hin
    have q2 := ints_get (k := .u8) (xs := xs) (j := ((y * W) + x).toNat) (by omega)
    have g'10 := (jn @h1 (jn @h1d (jn @q2 g'8)))
    refine runTf g'10 ?_
    exact hQ _ _ (end_plain (.inl rfl) hbel (x := .int .u8 (gi xs (((y * W) + x).toNat))) (resT Tryz.results85) rfl ⟨by simp [atI, h1d], rfl⟩)
open Go.RowKit
/-- Beams and scans that are valid. -/
def beaB (m r : Int) : Bool := btw m 0 255 && btw r (-1) 1024
def beaE (e : Int × Int) : Bool := beaB e.1 e.2
def scnB (s : List (Int × Int)) : Bool := decide (((s.length : Nat) : Int) ≤ 32) && !(s.any fun e => !beaE e)
theorem beaB_iff {m r : Int} : beaB m r = true ↔ (0 ≤ m ∧ m ≤ 255) ∧ -1 ≤ r ∧ r ≤ 1024 := by
  unfold beaB; rw [Bool.and_eq_true, btw_iff, btw_iff]
theorem scnB_iff {s : List (Int × Int)} : scnB s = true ↔ s.length ≤ 32 ∧ ∀ e ∈ s, beaE e = true := by
  unfold scnB
  rw [Bool.and_eq_true, decide_eq_true_eq, Bool.not_eq_true', List.any_eq_false]
  refine ⟨fun h => ⟨by omega, fun e he => ?_⟩, fun h => ⟨by omega, fun e he => ?_⟩⟩
  · have := h.2 e he
    simpa using this
  · rw [h.2 e he]; decide
/-- The arguments are valid. -/
def rgtA (W Hh : Int) (xs : List Int) (l : List T6) (s : List (Int × Int)) (g : Int) : Bool := vldB W Hh xs && (decide (0 < ((l.length : Nat) : Int)) && (setB l && (scnB s && btw g 1 32)))
theorem rgtA_iff {W Hh : Int} {xs : List Int} {l : List T6} {s : List (Int × Int)} {g : Int} : rgtA W Hh xs l s g = true ↔ vldB W Hh xs = true ∧ 0 < l.length ∧ setB l = true ∧ scnB s = true ∧ 1 ≤ g ∧ g ≤ 32 := by
  unfold rgtA; simp only [Bool.and_eq_true, decide_eq_true_eq, btw_iff]
  exact ⟨fun ⟨a, b, c, d, e⟩ => ⟨a, by omega, c, d, e⟩, fun ⟨a, b, c, d, e⟩ => ⟨a, by omega, c, d, e⟩⟩
/-- The number of pairs. -/
def sumC (l : List T6) : Nat → Int
  | 0 => 0
  | n + 1 => sumC l n + g66 l n
theorem g66_bd {l : List T6} (h : setB l = true) {n : Nat} (hn : n < l.length) : 1 ≤ g66 l n ∧ g66 l n ≤ 256 := by
  have := (setB_iff.1 h).2 (g6 l n) (g6_mem hn)
  have := (arcB_iff.1 (bxB_iff.1 this).2.2)
  exact this.2.1
theorem setB_len {l : List T6} (h : setB l = true) : l.length ≤ 16 := (setB_iff.1 h).1
theorem sumC_bd {l : List T6} (h : setB l = true) : ∀ n : Nat, n ≤ l.length → (n : Int) ≤ sumC l n ∧ sumC l n ≤ 256 * n
  | 0, _ => by simp [sumC]
  | n + 1, hn => by
    have := sumC_bd h n (by omega)
    have := g66_bd h (show n < l.length by omega)
    simp only [sumC]; omega
def wdeB (b : T6) : Bool := decide (64 < b.2.2.1 - b.1) || decide (64 < b.2.2.2.1 - b.2.1)
def tauB (l : List T6) : Bool := decide (sumC l l.length ≤ 32) && !(l.any wdeB)
open Go.RowKit
abbrev T9 := Int × Int × Int × Int × Int × Int × Int × Int × Int
def r9 (l : List T9) : List AV := l.flatMap fun p => [.int .i64 p.1, .int .i64 p.2.1, .int .i64 p.2.2.1, .int .i64 p.2.2.2.1, .int .i64 p.2.2.2.2.1, .int .i64 p.2.2.2.2.2.1, .int .i64 p.2.2.2.2.2.2.1, .int .i64 p.2.2.2.2.2.2.2.1, .int .i64 p.2.2.2.2.2.2.2.2]
def g9 (l : List T9) (j : Nat) : T9 := l.getD j (0, 0, 0, 0, 0, 0, 0, 0, 0)
def g91 (l : List T9) (j : Nat) : Int := (g9 l j).1
def g92 (l : List T9) (j : Nat) : Int := (g9 l j).2.1
def g93 (l : List T9) (j : Nat) : Int := (g9 l j).2.2.1
def g94 (l : List T9) (j : Nat) : Int := (g9 l j).2.2.2.1
def g95 (l : List T9) (j : Nat) : Int := (g9 l j).2.2.2.2.1
def g96 (l : List T9) (j : Nat) : Int := (g9 l j).2.2.2.2.2.1
def g97 (l : List T9) (j : Nat) : Int := (g9 l j).2.2.2.2.2.2.1
def g98 (l : List T9) (j : Nat) : Int := (g9 l j).2.2.2.2.2.2.2.1
def g99 (l : List T9) (j : Nat) : Int := (g9 l j).2.2.2.2.2.2.2.2
theorem g9_eq {l : List T9} {j : Nat} (h : j < l.length) : (g91 l j, g92 l j, g93 l j, g94 l j, g95 l j, g96 l j, g97 l j, g98 l j, g99 l j) = l[j] := by
  simp [g91, g92, g93, g94, g95, g96, g97, g98, g99, g9, h, List.getD_eq_getElem?_getD]
theorem r9_nil : r9 [] = [] := rfl
theorem r9_cons {p : T9} {l : List T9} : r9 (p :: l) = .int .i64 p.1 :: .int .i64 p.2.1 :: .int .i64 p.2.2.1 :: .int .i64 p.2.2.2.1 :: .int .i64 p.2.2.2.2.1 :: .int .i64 p.2.2.2.2.2.1 :: .int .i64 p.2.2.2.2.2.2.1 :: .int .i64 p.2.2.2.2.2.2.2.1 :: .int .i64 p.2.2.2.2.2.2.2.2 :: r9 l := rfl
theorem r9_append {l m : List T9} : r9 (l ++ m) = r9 l ++ r9 m := by simp [r9]
theorem r9_len : ∀ {l : List T9}, (r9 l).length = l.length * 9
  | [] => rfl
  | p :: l => by rw [r9_cons]; simp only [List.length_cons, r9_len (l := l)]; omega
theorem mvs_r9 {σ : Nat → Nat} : ∀ {l : List T9}, AV.mvs σ (r9 l) = r9 l
  | [] => rfl
  | p :: l => by
    rw [r9_cons]
    show AV.mv σ _ :: AV.mv σ _ :: AV.mv σ _ :: AV.mv σ _ :: AV.mv σ _ :: AV.mv σ _ :: AV.mv σ _ :: AV.mv σ _ :: AV.mv σ _ :: AV.mvs σ (r9 l) = _
    rw [mvs_r9 (l := l)]; rfl
theorem r9_at : ∀ {l : List T9} {j : Nat} (_h : j < l.length), (r9 l).drop (j * 9) = .int .i64 (g91 l j) :: .int .i64 (g92 l j) :: .int .i64 (g93 l j) :: .int .i64 (g94 l j) :: .int .i64 (g95 l j) :: .int .i64 (g96 l j) :: .int .i64 (g97 l j) :: .int .i64 (g98 l j) :: .int .i64 (g99 l j) :: (r9 l).drop ((j + 1) * 9)
  | [], j, h => by simp at h
  | p :: l, 0, _ => by rw [r9_cons]; simp [g91, g92, g93, g94, g95, g96, g97, g98, g99, g9]
  | p :: l, j + 1, h => by
    rw [r9_cons, show (j + 1) * 9 = j * 9 + 1 + 1 + 1 + 1 + 1 + 1 + 1 + 1 + 1 by omega, List.drop_succ_cons, List.drop_succ_cons, List.drop_succ_cons, List.drop_succ_cons, List.drop_succ_cons, List.drop_succ_cons, List.drop_succ_cons, List.drop_succ_cons, List.drop_succ_cons, r9_at (l := l) (by simpa using h), show (j + 1 + 1) * 9 = (j + 1) * 9 + 1 + 1 + 1 + 1 + 1 + 1 + 1 + 1 + 1 by omega, List.drop_succ_cons, List.drop_succ_cons, List.drop_succ_cons, List.drop_succ_cons, List.drop_succ_cons, List.drop_succ_cons, List.drop_succ_cons, List.drop_succ_cons, List.drop_succ_cons]
    rfl
theorem r9_load {l : List T9} {j : Nat} (h : j < l.length) : ((r9 l).drop (j * 9)).take 9 = [.int .i64 (g91 l j), .int .i64 (g92 l j), .int .i64 (g93 l j), .int .i64 (g94 l j), .int .i64 (g95 l j), .int .i64 (g96 l j), .int .i64 (g97 l j), .int .i64 (g98 l j), .int .i64 (g99 l j)] := by rw [r9_at h]; rfl
theorem r9_p0 {l : List T9} {j : Nat} (h : j < l.length) : ((r9 l).drop (j * 9)).take 6 = [.int .i64 (g91 l j), .int .i64 (g92 l j), .int .i64 (g93 l j), .int .i64 (g94 l j), .int .i64 (g95 l j), .int .i64 (g96 l j)] := by rw [r9_at h]; rfl
theorem r9_q0 {l : List T9} (h : 0 < l.length) : (r9 l).take 6 = [.int .i64 (g91 l 0), .int .i64 (g92 l 0), .int .i64 (g93 l 0), .int .i64 (g94 l 0), .int .i64 (g95 l 0), .int .i64 (g96 l 0)] := by
  have := r9_p0 h
  rwa [Nat.zero_mul, List.drop_zero] at this
theorem r9_p6 {l : List T9} {j : Nat} (h : j < l.length) : ((r9 l).drop (j * 9 + 6)).take 3 = [.int .i64 (g97 l j), .int .i64 (g98 l j), .int .i64 (g99 l j)] := by rw [← List.drop_drop, r9_at h]; rfl
theorem r9_q6 {l : List T9} (h : 0 < l.length) : ((r9 l).drop 6).take 3 = [.int .i64 (g97 l 0), .int .i64 (g98 l 0), .int .i64 (g99 l 0)] := by
  have := r9_p6 h
  rwa [Nat.zero_mul, Nat.zero_add] at this
theorem r9_one {l : List T9} : (r9 l).all AV.one = true := by
  induction l with
  | nil => rfl
  | cons p l ih => rw [r9_cons]; simp [AV.one, ih]
section
variable {P : Program} {H : AHeap} {n : Nat}
end
set_option linter.unusedSimpArgs false
set_option linter.unusedVariables false
open Go.RowKit
set_option maxHeartbeats 4000000
set_option maxRecDepth 100000
theorem pwithin_c (H : AHeap) (x : Int) (m : Int) (h : 0 ≤ m ∧ m ≤ 4611686018427387904) : ACalls Tryz.prog 209 [.int .i64 x, .int .i64 m] H (fun v H' => v = .bool (within x m) ∧ H' = H) := by
  refine AcT true Tryz.func209 ?_; intro hbel Q hQ
  refine runT ?_
  refine gd_split (fun h1 => ?_) (fun h1 => ?_)
  · have h1d := bsT h1
    have g'1 := (jn @h1 @h1d)
    refine runTf g'1 ?_
    exact hQ _ _ (end_plain0 (.inl rfl) hbel (x := .bool (decide (x ≤ m))) (resT Tryz.results209) rfl ⟨by first | (simp [within, h1d]; done) | (simp [within, h1d]; omega), rfl⟩)
  · have h1d := bsT h1
    have g'2 := (jn @h1 @h1d)
    refine runTf g'2 ?_
    exact hQ _ _ (end_plain0 (.inl rfl) hbel (x := .bool false) (resT Tryz.results209) rfl ⟨by first | (simp [within, h1d]; done) | (simp [within, h1d]; omega), rfl⟩)
theorem pvpt_c (H : AHeap) (x : Int) (y : Int) : ACalls Tryz.prog 206 [.agg [.int .i64 x, .int .i64 y]] H (fun v H' => v = .bool (ptB x y) ∧ H' = H) := by
  refine AcT true Tryz.func206 ?_; intro hbel Q hQ
  refine runT ?_
  refine call_v (by kernel_rfl) (pwithin_c _ x 1048576 (by decide)) ?_
  refine runT ?_
  refine gd_split (fun h1 => ?_) (fun h1 => ?_)
  · have h1d := bsT h1
    have g'3 := (jn @h1 @h1d)
    refine runTf g'3 ?_
    refine call_v (by kernel_rfl) (pwithin_c _ y 1048576 (by decide)) ?_
    refine runTf g'3 ?_
    exact hQ _ _ (end_plain (.inl rfl) hbel (x := .bool (within y 1048576)) (resT Tryz.results206) rfl ⟨by simp [ptB, h1d], rfl⟩)
  · have h1d := bsT h1
    have g'4 := (jn @h1 @h1d)
    refine runTf g'4 ?_
    exact hQ _ _ (end_plain (.inl rfl) hbel (x := .bool false) (resT Tryz.results206) rfl ⟨by simp [ptB, h1d], rfl⟩)
theorem pvrc_c (H : AHeap) (x0 : Int) (y0 : Int) (x1 : Int) (y1 : Int) : ACalls Tryz.prog 258 [.agg [.int .i64 x0, .int .i64 y0, .int .i64 x1, .int .i64 y1]] H (fun v H' => v = .bool (rctB x0 y0 x1 y1) ∧ H' = H) := by
  refine AcT true Tryz.func258 ?_; intro hbel Q hQ
  refine runT ?_
  refine gd_split (fun h1 => ?_) (fun h1 => ?_)
  · have h1d := bsT h1
    have g'5 := (jn @h1 @h1d)
    refine runTf g'5 ?_
    refine gd_split (fun h2 => ?_) (fun h2 => ?_)
    · have h2d := bsT h2
      have g'6 := (jn @h2 (jn @h2d g'5))
      refine runTf g'6 ?_
      refine call_v (by kernel_rfl) (pvpt_c _ x0 y0) ?_
      refine runTf g'6 ?_
      refine gd_split (fun h3 => ?_) (fun h3 => ?_)
      · have h3d := bsT h3
        have g'7 := (jn @h3 (jn @h3d g'6))
        refine runTf g'7 ?_
        refine call_v (by kernel_rfl) (pvpt_c _ x1 y1) ?_
        refine runTf g'7 ?_
        exact hQ _ _ (end_plain (.inl rfl) hbel (x := .bool (ptB x1 y1)) (resT Tryz.results258) rfl ⟨by simp [rctB, h1d, h2d, h3d], rfl⟩)
      · have h3d := bsT h3
        have g'8 := (jn @h3 (jn @h3d g'6))
        refine runTf g'8 ?_
        exact hQ _ _ (end_plain (.inl rfl) hbel (x := .bool false) (resT Tryz.results258) rfl ⟨by simp [rctB, h1d, h2d, h3d], rfl⟩)
    · have h2d := bsT h2
      have g'9 := (jn @h2 (jn @h2d g'5))
      refine runTf g'9 ?_
      exact hQ _ _ (end_plain (.inl rfl) hbel (x := .bool false) (resT Tryz.results258) rfl ⟨by simp [rctB, h1d, h2d], rfl⟩)
  · have h1d := bsT h1
    have g'10 := (jn @h1 @h1d)
    refine runTf g'10 ?_
    exact hQ _ _ (end_plain (.inl rfl) hbel (x := .bool false) (resT Tryz.results258) rfl ⟨by simp [rctB, h1d], rfl⟩)
theorem span_c (H : AHeap) (a : Int) (b : Int) (kba : -2097152 ≤ a ∧ a ≤ 2097152) (kbb : -2097152 ≤ b ∧ b ≤ 2097152) : ACalls Tryz.prog 329 [.int .i64 a, .int .i64 b] H (fun v H' => v = .tup [.int .i64 (spl a), .int .i64 (sph b)] ∧ H' = H) := by
  refine AcT true Tryz.func329 ?_; intro hbel Q hQ
  refine runT ?_
  refine call_v (by kernel_rfl) (pdown_c _ (0 - a) 64 (by omega) (by omega)) ?_
  refine runT ?_
  refine call_v (by kernel_rfl) (pdown_c _ b 64 (by omega) (by omega)) ?_
  refine runT ?_
  exact hQ _ _ (end_plain0 (.inl rfl) hbel (x := .tup [.int .i64 ((0 - ((0 - a) / 64)) - 1), .int .i64 (b / 64)]) (resT Tryz.results329) rfl ⟨rfl, rfl⟩)
open Go.RowKit
theorem grid_bd2 {p : Int → Int → Bool} {x0 y0 y : Int} {w n m : Nat} (hn : n ≤ 33000) (hw : w ≤ 33000) (hm : m ≤ w) : (gridR p x0 w y0 n).length + (rowR p x0 y m).length ≤ 1089033000 := by
  have h1 := gridR_len (p := p) (x0 := x0) (y0 := y0) (w := w) n
  have h2 := rowR_len (p := p) (x0 := x0) (y := y) m
  have h3 := Nat.mul_le_mul hn hw
  omega
def rngB (lo hi : Int) : Bool := decide (0 ≤ lo) && (decide (lo ≤ hi) && decide (hi ≤ 2048))
/-- What Traced and Swept hand back: an error, and the cells. -/
def trE (px py vx vy vd lo hi : Int) : Int := if (ptB px py && vecB vx vy vd) = true then (if rngB lo hi = true then 0 else 2) else 1
def trL (px py vx vy vd lo hi : Int) : List (Int × Int) := mkL (trE px py vx vy vd lo hi) (swpL px py px py vx vy vd lo hi)
def sptE (x0 y0 x1 y1 vx vy vd lo hi : Int) : Int := if (rctB x0 y0 x1 y1 && vecB vx vy vd) = true then (if rngB lo hi = true then (if 1024 < x1 - x0 ∨ 1024 < y1 - y0 then 6 else 0) else 2) else 1
def sptL (x0 y0 x1 y1 vx vy vd lo hi : Int) : List (Int × Int) := mkL (sptE x0 y0 x1 y1 vx vy vd lo hi) (swpL x0 y0 x1 y1 vx vy vd lo hi)
theorem rngB_iff {lo hi : Int} : rngB lo hi = true ↔ 0 ≤ lo ∧ lo ≤ hi ∧ hi ≤ 2048 := by unfold rngB; simp only [Bool.and_eq_true, decide_eq_true_eq]
theorem ptB_iff {x y : Int} : ptB x y = true ↔ (-1048576 ≤ x ∧ x ≤ 1048576) ∧ -1048576 ≤ y ∧ y ≤ 1048576 := by unfold ptB; rw [Bool.and_eq_true, within_iff, within_iff]
theorem trE_1 {px py vx vy vd lo hi : Int} (h : ¬ (ptB px py = true ∧ vecB vx vy vd = true)) : trE px py vx vy vd lo hi = 1 ∧ trL px py vx vy vd lo hi = [] := by
  have e : trE px py vx vy vd lo hi = 1 := if_neg (by rw [Bool.and_eq_true]; exact h)
  exact ⟨e, if_neg (by rw [e]; decide)⟩
theorem trE_2 {px py vx vy vd lo hi : Int} (h1 : ptB px py = true) (h2 : vecB vx vy vd = true) (h : ¬ (0 ≤ lo ∧ lo ≤ hi ∧ hi ≤ 2048)) : trE px py vx vy vd lo hi = 2 ∧ trL px py vx vy vd lo hi = [] := by
  have e : trE px py vx vy vd lo hi = 2 := by unfold trE; rw [h1, h2, if_pos (show (true && true) = true from rfl), if_neg (by rw [rngB_iff]; exact h)]
  exact ⟨e, if_neg (by rw [e]; decide)⟩
theorem trE_0 {px py vx vy vd lo hi : Int} (h1 : ptB px py = true) (h2 : vecB vx vy vd = true) (h : 0 ≤ lo ∧ lo ≤ hi ∧ hi ≤ 2048) : trE px py vx vy vd lo hi = 0 ∧ trL px py vx vy vd lo hi = swpL px py px py vx vy vd lo hi := by
  have e : trE px py vx vy vd lo hi = 0 := by unfold trE; rw [h1, h2, if_pos (show (true && true) = true from rfl), if_pos (rngB_iff.2 h)]
  exact ⟨e, if_pos e⟩
theorem sptE_1 {x0 y0 x1 y1 vx vy vd lo hi : Int} (h : ¬ (rctB x0 y0 x1 y1 = true ∧ vecB vx vy vd = true)) : sptE x0 y0 x1 y1 vx vy vd lo hi = 1 ∧ sptL x0 y0 x1 y1 vx vy vd lo hi = [] := by
  have e : sptE x0 y0 x1 y1 vx vy vd lo hi = 1 := if_neg (by rw [Bool.and_eq_true]; exact h)
  exact ⟨e, if_neg (by rw [e]; decide)⟩
theorem sptE_2 {x0 y0 x1 y1 vx vy vd lo hi : Int} (h1 : rctB x0 y0 x1 y1 = true) (h2 : vecB vx vy vd = true) (h : ¬ (0 ≤ lo ∧ lo ≤ hi ∧ hi ≤ 2048)) : sptE x0 y0 x1 y1 vx vy vd lo hi = 2 ∧ sptL x0 y0 x1 y1 vx vy vd lo hi = [] := by
  have e : sptE x0 y0 x1 y1 vx vy vd lo hi = 2 := by unfold sptE; rw [h1, h2, if_pos (show (true && true) = true from rfl), if_neg (by rw [rngB_iff]; exact h)]
  exact ⟨e, if_neg (by rw [e]; decide)⟩
theorem sptE_6 {x0 y0 x1 y1 vx vy vd lo hi : Int} (h1 : rctB x0 y0 x1 y1 = true) (h2 : vecB vx vy vd = true) (h : 0 ≤ lo ∧ lo ≤ hi ∧ hi ≤ 2048) (k : 1024 < x1 - x0 ∨ 1024 < y1 - y0) : sptE x0 y0 x1 y1 vx vy vd lo hi = 6 ∧ sptL x0 y0 x1 y1 vx vy vd lo hi = [] := by
  have e : sptE x0 y0 x1 y1 vx vy vd lo hi = 6 := by unfold sptE; rw [h1, h2, if_pos (show (true && true) = true from rfl), if_pos (rngB_iff.2 h), if_pos k]
  exact ⟨e, if_neg (by rw [e]; decide)⟩
theorem sptE_0 {x0 y0 x1 y1 vx vy vd lo hi : Int} (h1 : rctB x0 y0 x1 y1 = true) (h2 : vecB vx vy vd = true) (h : 0 ≤ lo ∧ lo ≤ hi ∧ hi ≤ 2048) (k : ¬ (1024 < x1 - x0 ∨ 1024 < y1 - y0)) : sptE x0 y0 x1 y1 vx vy vd lo hi = 0 ∧ sptL x0 y0 x1 y1 vx vy vd lo hi = swpL x0 y0 x1 y1 vx vy vd lo hi := by
  have e : sptE x0 y0 x1 y1 vx vy vd lo hi = 0 := by unfold sptE; rw [h1, h2, if_pos (show (true && true) = true from rfl), if_pos (rngB_iff.2 h), if_neg k]
  exact ⟨e, if_pos e⟩
/-- How many cells a sweep can have. -/
theorem swpL_len {x0 y0 x1 y1 vx vy vd lo hi : Int} (hx : -1048576 ≤ x0 ∧ x0 ≤ x1 ∧ x1 ≤ 1048576) (hy : -1048576 ≤ y0 ∧ y0 ≤ y1 ∧ y1 ≤ 1048576) (hv : vecB vx vy vd = true) (h : 0 ≤ lo ∧ lo ≤ hi ∧ hi ≤ 2048) : (swpL x0 y0 x1 y1 vx vy vd lo hi).length ≤ celN (rchL x0 vx vd lo hi) (rchH x1 vx vd lo hi) * celN (rchL y0 vy vd lo hi) (rchH y1 vy vd lo hi) := by
  have := gridR_len (p := swpP x0 y0 x1 y1 vx vy vd lo hi) (x0 := spl (rchL x0 vx vd lo hi)) (y0 := spl (rchL y0 vy vd lo hi)) (w := celN (rchL x0 vx vd lo hi) (rchH x1 vx vd lo hi)) (celN (rchL y0 vy vd lo hi) (rchH y1 vy vd lo hi))
  unfold swpL; rw [Nat.mul_comm]; exact this
theorem swp_cel {a b n d lo hi : Int} (hd : 0 < d) (hn : -d ≤ n ∧ n ≤ d) (h0 : 0 ≤ lo) (hh : lo ≤ hi) (h1 : hi ≤ 2048) (hab : a ≤ b ∧ b ≤ a + 1024) : celN (rchL a n d lo hi) (rchH b n d lo hi) ≤ 85 := by
  have r := rch_bd (a := a) (b := b) hd hn h0 hh h1
  unfold celN spl sph; omega
theorem trE_z {px py vx vy vd lo hi : Int} (h : trE px py vx vy vd lo hi = 0) : ptB px py = true ∧ vecB vx vy vd = true ∧ 0 ≤ lo ∧ lo ≤ hi ∧ hi ≤ 2048 := by
  unfold trE at h
  split at h
  · rename_i hv
    rw [Bool.and_eq_true] at hv
    split at h
    · rename_i hr; exact ⟨hv.1, hv.2, rngB_iff.1 hr⟩
    · omega
  · omega
theorem sptE_z {x0 y0 x1 y1 vx vy vd lo hi : Int} (h : sptE x0 y0 x1 y1 vx vy vd lo hi = 0) : rctB x0 y0 x1 y1 = true ∧ vecB vx vy vd = true ∧ (0 ≤ lo ∧ lo ≤ hi ∧ hi ≤ 2048) ∧ ¬ (1024 < x1 - x0 ∨ 1024 < y1 - y0) := by
  unfold sptE at h
  split at h
  · rename_i hv
    rw [Bool.and_eq_true] at hv
    split at h
    · rename_i hr
      split at h
      · omega
      · rename_i hk; exact ⟨hv.1, hv.2, rngB_iff.1 hr, hk⟩
    · omega
  · omega
theorem sptL_len (x0 y0 x1 y1 vx vy vd lo hi : Int) : (sptL x0 y0 x1 y1 vx vy vd lo hi).length ≤ 7225 := by
  unfold sptL mkL
  split
  · rename_i h
    obtain ⟨h1, h2, hr, hk⟩ := sptE_z h
    have hq := rctB_iff.1 h1
    have hvv := vecB_iff.1 h2
    have l := swpL_len hq.1 hq.2 h2 hr
    have c1 := swp_cel (a := x0) (b := x1) (n := vx) (d := vd) (lo := lo) (hi := hi) (by omega) (by omega) hr.1 hr.2.1 hr.2.2 (by omega)
    have c2 := swp_cel (a := y0) (b := y1) (n := vy) (d := vd) (lo := lo) (hi := hi) (by omega) (by omega) hr.1 hr.2.1 hr.2.2 (by omega)
    exact Nat.le_trans l (Nat.mul_le_mul c1 c2)
  · simp
theorem trL_len (px py vx vy vd lo hi : Int) : (trL px py vx vy vd lo hi).length ≤ 7225 := by
  unfold trL mkL
  split
  · rename_i h
    obtain ⟨h1, h2, hr⟩ := trE_z h
    have hq := ptB_iff.1 h1
    have hvv := vecB_iff.1 h2
    have l := swpL_len (x0 := px) (x1 := px) (y0 := py) (y1 := py) (by omega) (by omega) h2 hr
    have c1 := swp_cel (a := px) (b := px) (n := vx) (d := vd) (lo := lo) (hi := hi) (by omega) (by omega) hr.1 hr.2.1 hr.2.2 (by omega)
    have c2 := swp_cel (a := py) (b := py) (n := vy) (d := vd) (lo := lo) (hi := hi) (by omega) (by omega) hr.1 hr.2.1 hr.2.2 (by omega)
    exact Nat.le_trans l (Nat.mul_le_mul c1 c2)
  · simp
/-- The cells of a sweep are not far. -/
theorem swpL_mem {x0 y0 x1 y1 vx vy vd lo hi : Int} {c : Int × Int} (hx : -1048576 ≤ x0 ∧ x0 ≤ x1 ∧ x1 ≤ 1048576) (hy : -1048576 ≤ y0 ∧ y0 ≤ y1 ∧ y1 ≤ 1048576) (hv : vecB vx vy vd = true) (h : 0 ≤ lo ∧ lo ≤ hi ∧ hi ≤ 2048) : c ∈ swpL x0 y0 x1 y1 vx vy vd lo hi ↔ swpP x0 y0 x1 y1 vx vy vd lo hi c.1 c.2 = true := by
  have hvv := vecB_iff.1 hv
  have r1 := rch_bd (a := x0) (b := x1) (n := vx) (d := vd) (lo := lo) (hi := hi) (by omega) (by omega) h.1 h.2.1 h.2.2
  have r2 := rch_bd (a := y0) (b := y1) (n := vy) (d := vd) (lo := lo) (hi := hi) (by omega) (by omega) h.1 h.2.1 h.2.2
  have c1 := cel_bd2 (a := rchL x0 vx vd lo hi) (b := rchH x1 vx vd lo hi) (by omega)
  have c2 := cel_bd2 (a := rchL y0 vy vd lo hi) (b := rchH y1 vy vd lo hi) (by omega)
  unfold swpL
  rw [gridR_mem]
  constructor
  · rintro ⟨-, -, k⟩; exact k
  · intro k
    obtain ⟨⟨k1, k2⟩, k3, k4⟩ := swp_range hx hy k
    have k1 := spl_le.2 k1
    have k2 := le_sph.2 k2
    have k3 := spl_le.2 k3
    have k4 := le_sph.2 k4
    exact ⟨by omega, by omega, k⟩
theorem swp_bd {x0 y0 x1 y1 vx vy vd lo hi a b : Int} (h : swpP x0 y0 x1 y1 vx vy vd lo hi a b = true) : (-32768 ≤ a ∧ a ≤ 32768) ∧ -32768 ≤ b ∧ b ≤ 32768 := by
  unfold swpP mnsB at h
  simp only [Bool.and_eq_true, lnR_iff] at h
  omega
theorem pvv_c (H : AHeap) (vx : Int) (vy : Int) (vd : Int) : ACalls Tryz.prog 259 [.agg [.int .i64 vx, .int .i64 vy, .int .i64 vd]] H (fun v H' => v = .bool (vecB vx vy vd) ∧ H' = H) := by
  refine AcT true Tryz.func259 ?_; intro hbel Q hQ
  refine runT ?_
  refine gd_split (fun h1 => ?_) (fun h1 => ?_)
  · have h1d := bsT h1
    have g'1 := (jn @h1 @h1d)
    refine runTf g'1 ?_
    refine gd_split (fun h2 => ?_) (fun h2 => ?_)
    · have h2d := bsT h2
      have g'2 := (jn @h2 (jn @h2d g'1))
      refine runTf g'2 ?_
      refine call_v (by kernel_rfl) (pwithin_c _ vx vd (by omega)) ?_
      refine runTf g'2 ?_
      refine gd_split (fun h3 => ?_) (fun h3 => ?_)
      · have h3d := bsT h3
        have hwx := within_iff.1 h3d
        have g'3 := (jn @h3 (jn @h3d g'2))
        refine runTf g'3 ?_
        refine call_v (by kernel_rfl) (pwithin_c _ vy vd (by omega)) ?_
        refine runTf g'3 ?_
        refine gd_split (fun h4 => ?_) (fun h4 => ?_)
        · have h4d := bsT h4
          have hwy := within_iff.1 h4d
          have hm1 := mul_bd (a := vx) (b := vx) (A := 67108864) (B := 67108864) (by omega) (by omega)
          have hm2 := mul_bd (a := vy) (b := vy) (A := 67108864) (B := 67108864) (by omega) (by omega)
          have hm3 := mul_bd (a := vd) (b := vd) (A := 67108864) (B := 67108864) (by omega) (by omega)
          have g'4 := (jn @h4 (jn @h4d g'3))
          refine runTf g'4 ?_
          exact hQ _ _ (end_plain (.inl rfl) hbel (x := .bool (((vx * vx) + (vy * vy)) == (vd * vd))) (resT Tryz.results259) rfl ⟨by first | (refine congrArg AV.bool ?_; rw [Bool.eq_iff_iff, vecB_iff, beq_iff_eq]; exact ⟨fun e => ⟨⟨by omega, by omega⟩, ⟨by omega, by omega⟩, ⟨by omega, by omega⟩, e⟩, fun e => e.2.2.2⟩) | (refine congrArg AV.bool ?_; rw [Bool.eq_iff_iff, vecB_iff]; exact ⟨fun e => (by cases e), fun k => (by omega)⟩), rfl⟩)
        · have h4d := bsT h4
          have hwy : ¬ (-vd ≤ vy ∧ vy ≤ vd) := mt within_iff.2 (by rw [h4d]; decide)
          have g'5 := (jn @h4 (jn @h4d g'3))
          refine runTf g'5 ?_
          exact hQ _ _ (end_plain (.inl rfl) hbel (x := .bool false) (resT Tryz.results259) rfl ⟨by first | (refine congrArg AV.bool ?_; rw [Bool.eq_iff_iff, vecB_iff, beq_iff_eq]; exact ⟨fun e => ⟨⟨by omega, by omega⟩, ⟨by omega, by omega⟩, ⟨by omega, by omega⟩, e⟩, fun e => e.2.2.2⟩) | (refine congrArg AV.bool ?_; rw [Bool.eq_iff_iff, vecB_iff]; exact ⟨fun e => (by cases e), fun k => (by omega)⟩), rfl⟩)
      · have h3d := bsT h3
        have hwx : ¬ (-vd ≤ vx ∧ vx ≤ vd) := mt within_iff.2 (by rw [h3d]; decide)
        have g'6 := (jn @h3 (jn @h3d g'2))
        refine runTf g'6 ?_
        exact hQ _ _ (end_plain (.inl rfl) hbel (x := .bool false) (resT Tryz.results259) rfl ⟨by first | (refine congrArg AV.bool ?_; rw [Bool.eq_iff_iff, vecB_iff, beq_iff_eq]; exact ⟨fun e => ⟨⟨by omega, by omega⟩, ⟨by omega, by omega⟩, ⟨by omega, by omega⟩, e⟩, fun e => e.2.2.2⟩) | (refine congrArg AV.bool ?_; rw [Bool.eq_iff_iff, vecB_iff]; exact ⟨fun e => (by cases e), fun k => (by omega)⟩), rfl⟩)
    · have h2d := bsT h2
      have g'7 := (jn @h2 (jn @h2d g'1))
      refine runTf g'7 ?_
      exact hQ _ _ (end_plain (.inl rfl) hbel (x := .bool false) (resT Tryz.results259) rfl ⟨by first | (refine congrArg AV.bool ?_; rw [Bool.eq_iff_iff, vecB_iff, beq_iff_eq]; exact ⟨fun e => ⟨⟨by omega, by omega⟩, ⟨by omega, by omega⟩, ⟨by omega, by omega⟩, e⟩, fun e => e.2.2.2⟩) | (refine congrArg AV.bool ?_; rw [Bool.eq_iff_iff, vecB_iff]; exact ⟨fun e => (by cases e), fun k => (by omega)⟩), rfl⟩)
  · have h1d := bsT h1
    have g'8 := (jn @h1 @h1d)
    refine runTf g'8 ?_
    exact hQ _ _ (end_plain (.inl rfl) hbel (x := .bool false) (resT Tryz.results259) rfl ⟨by first | (refine congrArg AV.bool ?_; rw [Bool.eq_iff_iff, vecB_iff, beq_iff_eq]; exact ⟨fun e => ⟨⟨by omega, by omega⟩, ⟨by omega, by omega⟩, ⟨by omega, by omega⟩, e⟩, fun e => e.2.2.2⟩) | (refine congrArg AV.bool ?_; rw [Bool.eq_iff_iff, vecB_iff]; exact ⟨fun e => (by cases e), fun k => (by omega)⟩), rfl⟩)
theorem psquare_c (H : AHeap) (x : Int) (y : Int) (kbx : -2097152 ≤ x ∧ x ≤ 2097152) (kby : -2097152 ≤ y ∧ y ≤ 2097152) : ACalls Tryz.prog 210 [.agg [.int .i64 x, .int .i64 y]] H (fun v H' => v = .agg [.int .i64 (x * 64), .int .i64 (y * 64), .int .i64 (x * 64 + 64), .int .i64 (y * 64 + 64)] ∧ H' = H) := by
  refine AcT true Tryz.func210 ?_; intro hbel Q hQ
  refine runT ?_
  exact hQ _ _ (end_plain (.inl rfl) hbel (x := .agg [.int .i64 (x * 64), .int .i64 (y * 64), .int .i64 ((x * 64) + 64), .int .i64 ((y * 64) + 64)]) (resT Tryz.results210) rfl ⟨rfl, rfl⟩)
theorem reach_c (H : AHeap) (a : Int) (b : Int) (n : Int) (d : Int) (lo : Int) (hi : Int) (ha : -1048576 ≤ a ∧ a ≤ 1048576) (hb : -1048576 ≤ b ∧ b ≤ 1048576) (hd : 1 ≤ d ∧ d ≤ 67108864) (hn : -d ≤ n ∧ n ≤ d) (h0 : 0 ≤ lo) (hh : lo ≤ hi) (h1 : hi ≤ 2048) : ACalls Tryz.prog 328 [.int .i64 a, .int .i64 b, .int .i64 n, .int .i64 d, .int .i64 lo, .int .i64 hi] H (fun v H' => v = .tup [.int .i64 (rchL a n d lo hi), .int .i64 (rchH b n d lo hi)] ∧ H' = H) := by
  have hm1 := mul_bd (a := lo) (b := n) (A := 2048) (B := 67108864) (by omega) (by omega)
  have hm2 := mul_bd (a := hi) (b := n) (A := 2048) (B := 67108864) (by omega) (by omega)
  have hr := rch_bd (a := a) (b := b) (n := n) (d := d) (lo := lo) (hi := hi) (by omega) hn h0 hh h1
  unfold rchL rchH at hr
  have hmn : -137438953472 ≤ (if hi * n < lo * n then hi * n else lo * n) ∧ (if hi * n < lo * n then hi * n else lo * n) ≤ 137438953472 := by split <;> omega
  have hmx : -137438953472 ≤ (if lo * n < hi * n then hi * n else lo * n) ∧ (if lo * n < hi * n then hi * n else lo * n) ≤ 137438953472 := by split <;> omega
  refine AcT true Tryz.func328 ?_; intro hbel Q hQ
  refine runT ?_
  refine call_v (by kernel_rfl) (pdown_c _ (if (hi * n) < (lo * n) then (hi * n) else (lo * n)) d (by omega) (by omega)) ?_
  refine runT ?_
  refine call_v (by kernel_rfl) (pdown_c _ (if (lo * n) < (hi * n) then (hi * n) else (lo * n)) d (by omega) (by omega)) ?_
  refine runT ?_
  exact hQ _ _ (end_plain0 (.inl rfl) hbel (x := .tup [.int .i64 (a + ((if (hi * n) < (lo * n) then (hi * n) else (lo * n)) / d)), .int .i64 ((b + ((if (lo * n) < (hi * n) then (hi * n) else (lo * n)) / d)) + 1)]) (resT Tryz.results328) rfl ⟨rfl, rfl⟩)
theorem psweep_c (H : AHeap) (x0 : Int) (y0 : Int) (x1 : Int) (y1 : Int) (vx : Int) (vy : Int) (vd : Int) (lo : Int) (hi : Int) (hx : -1048576 ≤ x0 ∧ x0 ≤ x1 ∧ x1 ≤ 1048576) (hy : -1048576 ≤ y0 ∧ y0 ≤ y1 ∧ y1 ≤ 1048576) (hv : vecB vx vy vd = true) (hl : 0 ≤ lo ∧ lo ≤ hi ∧ hi ≤ 2048) : ACalls Tryz.prog 260 [.agg [.int .i64 x0, .int .i64 y0, .int .i64 x1, .int .i64 y1], .agg [.int .i64 vx, .int .i64 vy, .int .i64 vd], .int .i64 lo, .int .i64 hi] H (fun v H' => v = .sl (some (H.length, 0)) ((swpL x0 y0 x1 y1 vx vy vd lo hi).length) (capG (swpL x0 y0 x1 y1 vx vy vd lo hi).length) ∧ H' = H ++ [.cells (ownG (swpL x0 y0 x1 y1 vx vy vd lo hi).length) 2 (prs (swpL x0 y0 x1 y1 vx vy vd lo hi))]) := by
  have hvv := vecB_iff.1 hv
  have hrx := rch_bd (a := x0) (b := x1) (n := vx) (d := vd) (lo := lo) (hi := hi) (by omega) (by omega) (by omega) (by omega) (by omega)
  have hry := rch_bd (a := y0) (b := y1) (n := vy) (d := vd) (lo := lo) (hi := hi) (by omega) (by omega) (by omega) (by omega) (by omega)
  have hcx := cel_bd2 (a := (rchL x0 vx vd lo hi)) (b := (rchH x1 vx vd lo hi)) (by omega)
  have hcy := cel_bd2 (a := (rchL y0 vy vd lo hi)) (b := (rchH y1 vy vd lo hi)) (by omega)
  refine AcL true Tryz.func260 ?_; intro hbel Q hQ
  refine runT ?_
  refine call_v (by kernel_rfl) (reach_c _ x0 x1 vx vd lo hi (by omega) (by omega) (by omega) (by omega) (by omega) (by omega) (by omega)) ?_
  refine runT ?_
  refine call_v (by kernel_rfl) (reach_c _ y0 y1 vy vd lo hi (by omega) (by omega) (by omega) (by omega) (by omega) (by omega) (by omega)) ?_
  refine runT ?_
  refine call_v (by kernel_rfl) (span_c _ (rchL x0 vx vd lo hi) (rchH x1 vx vd lo hi) (by omega) (by omega)) ?_
  refine runT ?_
  refine call_v (by kernel_rfl) (span_c _ (rchL y0 vy vd lo hi) (rchH y1 vy vd lo hi) (by omega) (by omega)) ?_
  refine runT ?_
  refine go_loopA (fun k F Hx => ∃ n : Nat, n + k = celN (rchL y0 vy vd lo hi) (rchH y1 vy vd lo hi) ∧ F = [(2, .int .i64 lo), (3, .int .i64 hi), (4, .ptr (some (H.length, 0))), (5, .ptr (some (H.length + 1, 0))), (13, .int .i64 (spl (rchL x0 vx vd lo hi))), (14, .int .i64 (sph (rchH x1 vx vd lo hi))), (16, .int .i64 (sph (rchH y1 vy vd lo hi))), (17, .sl (some (H.length + 2, 0)) ((gridR (swpP x0 y0 x1 y1 vx vy vd lo hi) (spl (rchL x0 vx vd lo hi)) (celN (rchL x0 vx vd lo hi) (rchH x1 vx vd lo hi)) (spl (rchL y0 vy vd lo hi)) n).length) (capG (gridR (swpP x0 y0 x1 y1 vx vy vd lo hi) (spl (rchL x0 vx vd lo hi)) (celN (rchL x0 vx vd lo hi) (rchH x1 vx vd lo hi)) (spl (rchL y0 vy vd lo hi)) n).length)), (18, .int .i64 ((spl (rchL y0 vy vd lo hi)) + ((n : Nat) : Int)))] ∧ Hx = H ++ [.cells true 0 [.int .i64 x0, .int .i64 y0, .int .i64 x1, .int .i64 y1], .cells true 0 [.int .i64 vx, .int .i64 vy, .int .i64 vd], .cells (ownG (gridR (swpP x0 y0 x1 y1 vx vy vd lo hi) (spl (rchL x0 vx vd lo hi)) (celN (rchL x0 vx vd lo hi) (rchH x1 vx vd lo hi)) (spl (rchL y0 vy vd lo hi)) n).length) 2 (prs (gridR (swpP x0 y0 x1 y1 vx vy vd lo hi) (spl (rchL x0 vx vd lo hi)) (celN (rchL x0 vx vd lo hi) (rchH x1 vx vd lo hi)) (spl (rchL y0 vy vd lo hi)) n))]) (celN (rchL y0 vy vd lo hi) (rchH y1 vy vd lo hi)) ?_ ?_
  · refine ⟨_, _, _, ⟨0, by omega, rfl, rfl⟩, Abs.byG hbel [.cells false 2 []] rfl [0, 1, 2] (by decide) ?_⟩
    exact absRf (jn @gridR_0 (jn @Int.natCast_zero @Int.add_zero))
  · rintro k0 F Hx ⟨n, hm0, rfl, rfl⟩ Q1 hJ0 hr1 he1
    have hQ1 := fun F H' h => hr1 F H' (hQ F H' h)
    refine AW_seqQ fun Q2 hn2 hr2 he2 => ?_
    have hQ2 := fun F H' h => hr2 F H' (hQ1 F H' h)
    refine AW_fin true try_mixed (by kernel_rfl) ?_
    have g'9 := (jn @prs_len @prs_one)
    refine runTf g'9 ?_
    refine cond_split (fun h1 => ?_) (fun h1 => ?_)
    · have h1d := bsT h1
      have g'10 := (jn @h1 (jn @h1d g'9))
      refine runTf g'10 ?_
      refine hn2 _ _ ?_
      refine AW_seqQ fun Q3 hn3 hr3 he3 => ?_
      have hQ3 := fun F H' h => hr3 F H' (hQ1 F H' h)
      refine AW_blockQ fun Q4 hn4 hr4 he4 hb4 => ?_
      have hQ4 := fun F H' h => hr4 F H' (hQ3 F H' h)
      refine AW_seqQ fun Q5 hn5 hr5 he5 => ?_
      have hQ5 := fun F H' h => hr5 F H' (hQ4 F H' h)
      refine AW_fin true try_mixed (by kernel_rfl) ?_
      refine runTf g'10 ?_
      refine hn5 _ _ ?_
      refine AW_blockQ fun Q6 hn6 hr6 he6 hb6 => ?_
      have hQ6 := fun F H' h => hr6 F H' (hQ4 F H' h)
      refine AW_loopA (fun k F Hx => ∃ m : Nat, m + k = (celN (rchL x0 vx vd lo hi) (rchH x1 vx vd lo hi)) ∧ F = [(2, .int .i64 lo), (3, .int .i64 hi), (4, .ptr (some (H.length, 0))), (5, .ptr (some (H.length + 1, 0))), (13, .int .i64 (spl (rchL x0 vx vd lo hi))), (14, .int .i64 (sph (rchH x1 vx vd lo hi))), (16, .int .i64 (sph (rchH y1 vy vd lo hi))), (17, .sl (some (H.length + 2, 0)) ((gridR (swpP x0 y0 x1 y1 vx vy vd lo hi) (spl (rchL x0 vx vd lo hi)) (celN (rchL x0 vx vd lo hi) (rchH x1 vx vd lo hi)) (spl (rchL y0 vy vd lo hi)) n ++ rowR (swpP x0 y0 x1 y1 vx vy vd lo hi) (spl (rchL x0 vx vd lo hi)) ((spl (rchL y0 vy vd lo hi)) + ((n : Nat) : Int)) m).length) (capG (gridR (swpP x0 y0 x1 y1 vx vy vd lo hi) (spl (rchL x0 vx vd lo hi)) (celN (rchL x0 vx vd lo hi) (rchH x1 vx vd lo hi)) (spl (rchL y0 vy vd lo hi)) n ++ rowR (swpP x0 y0 x1 y1 vx vy vd lo hi) (spl (rchL x0 vx vd lo hi)) ((spl (rchL y0 vy vd lo hi)) + ((n : Nat) : Int)) m).length)), (18, .int .i64 ((spl (rchL y0 vy vd lo hi)) + ((n : Nat) : Int))), (19, .int .i64 ((spl (rchL x0 vx vd lo hi)) + ((m : Nat) : Int)))] ∧ Hx = H ++ [.cells true 0 [.int .i64 x0, .int .i64 y0, .int .i64 x1, .int .i64 y1], .cells true 0 [.int .i64 vx, .int .i64 vy, .int .i64 vd], .cells (ownG (gridR (swpP x0 y0 x1 y1 vx vy vd lo hi) (spl (rchL x0 vx vd lo hi)) (celN (rchL x0 vx vd lo hi) (rchH x1 vx vd lo hi)) (spl (rchL y0 vy vd lo hi)) n ++ rowR (swpP x0 y0 x1 y1 vx vy vd lo hi) (spl (rchL x0 vx vd lo hi)) ((spl (rchL y0 vy vd lo hi)) + ((n : Nat) : Int)) m).length) 2 (prs (gridR (swpP x0 y0 x1 y1 vx vy vd lo hi) (spl (rchL x0 vx vd lo hi)) (celN (rchL x0 vx vd lo hi) (rchH x1 vx vd lo hi)) (spl (rchL y0 vy vd lo hi)) n ++ rowR (swpP x0 y0 x1 y1 vx vy vd lo hi) (spl (rchL x0 vx vd lo hi)) ((spl (rchL y0 vy vd lo hi)) + ((n : Nat) : Int)) m))]) ((celN (rchL x0 vx vd lo hi) (rchH x1 vx vd lo hi))) ?_ ?_
      · refine ⟨_, _, _, ⟨0, by omega, rfl, rfl⟩, Abs.byG hbel [] rfl [0, 1, 2] (by decide) ?_⟩
        exact absRf (jn @rowR_0 (jn @List.append_nil.{0} (jn @Int.natCast_zero @Int.add_zero)))
      · rintro k1 F Hx ⟨m, hm1, rfl, rfl⟩ Q7 hJ1 hr7 he7
        have hQ7 := fun F H' h => hr7 F H' (hQ6 F H' h)
        refine AW_seqQ fun Q8 hn8 hr8 he8 => ?_
        have hQ8 := fun F H' h => hr8 F H' (hQ7 F H' h)
        refine AW_fin true try_mixed (by kernel_rfl) ?_
        refine runTf g'10 ?_
        refine cond_split (fun h2 => ?_) (fun h2 => ?_)
        · have h2d := bsT h2
          have hgb := grid_bd2 (p := (swpP x0 y0 x1 y1 vx vy vd lo hi)) (x0 := (spl (rchL x0 vx vd lo hi))) (y0 := (spl (rchL y0 vy vd lo hi))) (y := (spl (rchL y0 vy vd lo hi)) + ((n : Nat) : Int)) (w := (celN (rchL x0 vx vd lo hi) (rchH x1 vx vd lo hi))) (n := n) (m := m) (by omega) (by omega) (by omega)
          have g'11 := (jn @h2 (jn @h2d g'10))
          refine runTf g'11 ?_
          refine hn8 _ _ ?_
          refine AW_seqQ fun Q9 hn9 hr9 he9 => ?_
          have hQ9 := fun F H' h => hr9 F H' (hQ7 F H' h)
          refine AW_blockQ fun Q10 hn10 hr10 he10 hb10 => ?_
          have hQ10 := fun F H' h => hr10 F H' (hQ9 F H' h)
          refine AW_seqQ fun Q11 hn11 hr11 he11 => ?_
          have hQ11 := fun F H' h => hr11 F H' (hQ10 F H' h)
          refine AW_fin true try_mixed (by kernel_rfl) ?_
          refine runTf g'11 ?_
          refine hn11 _ _ ?_
          refine AW_special true try_mixed [[0, 1, 2, 3, 4, 5, 6, 7, 8, 9], [0, 1, 2, 7, 3, 4, 5, 6, 8, 9], [0, 2, 7, 1, 3, 4, 5, 6, 8, 9]] (by kernel_rfl) (fun F2 H2 => F2 = [(2, .int .i64 lo), (3, .int .i64 hi), (4, .ptr (some (H.length, 0))), (5, .ptr (some (H.length + 1, 0))), (13, .int .i64 (spl (rchL x0 vx vd lo hi))), (14, .int .i64 (sph (rchH x1 vx vd lo hi))), (16, .int .i64 (sph (rchH y1 vy vd lo hi))), (17, .sl (some (H.length + 2, 0)) ((gridR (swpP x0 y0 x1 y1 vx vy vd lo hi) (spl (rchL x0 vx vd lo hi)) (celN (rchL x0 vx vd lo hi) (rchH x1 vx vd lo hi)) (spl (rchL y0 vy vd lo hi)) n ++ rowR (swpP x0 y0 x1 y1 vx vy vd lo hi) (spl (rchL x0 vx vd lo hi)) ((spl (rchL y0 vy vd lo hi)) + ((n : Nat) : Int)) m).length) (capG (gridR (swpP x0 y0 x1 y1 vx vy vd lo hi) (spl (rchL x0 vx vd lo hi)) (celN (rchL x0 vx vd lo hi) (rchH x1 vx vd lo hi)) (spl (rchL y0 vy vd lo hi)) n ++ rowR (swpP x0 y0 x1 y1 vx vy vd lo hi) (spl (rchL x0 vx vd lo hi)) ((spl (rchL y0 vy vd lo hi)) + ((n : Nat) : Int)) m).length)), (18, .int .i64 ((spl (rchL y0 vy vd lo hi)) + ((n : Nat) : Int))), (19, .int .i64 ((spl (rchL x0 vx vd lo hi)) + ((m : Nat) : Int))), (20, .ptr (some (H.length + 3, 0))), (21, .ptr (some (H.length + 4, 0))), (22, .bool (mnsB (((spl (rchL x0 vx vd lo hi)) + ((m : Nat) : Int)) * 64) (((spl (rchL y0 vy vd lo hi)) + ((n : Nat) : Int)) * 64) (((spl (rchL x0 vx vd lo hi)) + ((m : Nat) : Int)) * 64 + 64) (((spl (rchL y0 vy vd lo hi)) + ((n : Nat) : Int)) * 64 + 64) x0 y0 x1 y1))] ∧ H2 = H ++ [.cells true 0 [.int .i64 x0, .int .i64 y0, .int .i64 x1, .int .i64 y1], .cells true 0 [.int .i64 vx, .int .i64 vy, .int .i64 vd], .cells (ownG (gridR (swpP x0 y0 x1 y1 vx vy vd lo hi) (spl (rchL x0 vx vd lo hi)) (celN (rchL x0 vx vd lo hi) (rchH x1 vx vd lo hi)) (spl (rchL y0 vy vd lo hi)) n ++ rowR (swpP x0 y0 x1 y1 vx vy vd lo hi) (spl (rchL x0 vx vd lo hi)) ((spl (rchL y0 vy vd lo hi)) + ((n : Nat) : Int)) m).length) 2 (prs (gridR (swpP x0 y0 x1 y1 vx vy vd lo hi) (spl (rchL x0 vx vd lo hi)) (celN (rchL x0 vx vd lo hi) (rchH x1 vx vd lo hi)) (spl (rchL y0 vy vd lo hi)) n ++ rowR (swpP x0 y0 x1 y1 vx vy vd lo hi) (spl (rchL x0 vx vd lo hi)) ((spl (rchL y0 vy vd lo hi)) + ((n : Nat) : Int)) m)), .cells true 0 [.int .i64 ((spl (rchL x0 vx vd lo hi)) + ((m : Nat) : Int)), .int .i64 ((spl (rchL y0 vy vd lo hi)) + ((n : Nat) : Int))], .cells true 0 [.int .i64 (mkV (mnsB (((spl (rchL x0 vx vd lo hi)) + ((m : Nat) : Int)) * 64) (((spl (rchL y0 vy vd lo hi)) + ((n : Nat) : Int)) * 64) (((spl (rchL x0 vx vd lo hi)) + ((m : Nat) : Int)) * 64 + 64) (((spl (rchL y0 vy vd lo hi)) + ((n : Nat) : Int)) * 64 + 64) x0 y0 x1 y1) ((((spl (rchL x0 vx vd lo hi)) + ((m : Nat) : Int)) * 64) - x1)), .int .i64 (mkV (mnsB (((spl (rchL x0 vx vd lo hi)) + ((m : Nat) : Int)) * 64) (((spl (rchL y0 vy vd lo hi)) + ((n : Nat) : Int)) * 64) (((spl (rchL x0 vx vd lo hi)) + ((m : Nat) : Int)) * 64 + 64) (((spl (rchL y0 vy vd lo hi)) + ((n : Nat) : Int)) * 64 + 64) x0 y0 x1 y1) ((((spl (rchL y0 vy vd lo hi)) + ((n : Nat) : Int)) * 64) - y1)), .int .i64 (mkV (mnsB (((spl (rchL x0 vx vd lo hi)) + ((m : Nat) : Int)) * 64) (((spl (rchL y0 vy vd lo hi)) + ((n : Nat) : Int)) * 64) (((spl (rchL x0 vx vd lo hi)) + ((m : Nat) : Int)) * 64 + 64) (((spl (rchL y0 vy vd lo hi)) + ((n : Nat) : Int)) * 64 + 64) x0 y0 x1 y1) ((((spl (rchL x0 vx vd lo hi)) + ((m : Nat) : Int)) * 64 + 64) - x0)), .int .i64 (mkV (mnsB (((spl (rchL x0 vx vd lo hi)) + ((m : Nat) : Int)) * 64) (((spl (rchL y0 vy vd lo hi)) + ((n : Nat) : Int)) * 64) (((spl (rchL x0 vx vd lo hi)) + ((m : Nat) : Int)) * 64 + 64) (((spl (rchL y0 vy vd lo hi)) + ((n : Nat) : Int)) * 64 + 64) x0 y0 x1 y1) ((((spl (rchL y0 vy vd lo hi)) + ((n : Nat) : Int)) * 64 + 64) - y0))]]) ?_ ?_
          · refine reps_cons ?_ (reps_cons ?_ (reps_cons ?_ (reps_nil))) <;> intro J hJ
            · skip
              refine runDf g'11 ?_
              refine call_d (by kernel_rfl) (psquare_c _ ((spl (rchL x0 vx vd lo hi)) + ((m : Nat) : Int)) ((spl (rchL y0 vy vd lo hi)) + ((n : Nat) : Int)) (by omega) (by omega)) ?_
              refine runDf g'11 ?_
              refine call_d (by kernel_rfl) (sminus_c _ (((spl (rchL x0 vx vd lo hi)) + ((m : Nat) : Int)) * 64) (((spl (rchL y0 vy vd lo hi)) + ((n : Nat) : Int)) * 64) (((spl (rchL x0 vx vd lo hi)) + ((m : Nat) : Int)) * 64 + 64) (((spl (rchL y0 vy vd lo hi)) + ((n : Nat) : Int)) * 64 + 64) x0 y0 x1 y1 (by omega) (by omega) (by omega) (by omega) (by omega) (by omega) (by omega) (by omega)) ?_
              refine runDf g'11 ?_
              refine inv_of (hJ _ _ ⟨_, _, _, ⟨rfl, rfl⟩, Abs.byG hbel [] rfl [0, 1, 2, 3, 4] (by decide) ?_⟩)
              exact absR
            · skip
              refine runDf g'11 ?_
              refine call_d (by kernel_rfl) (psquare_c _ ((spl (rchL x0 vx vd lo hi)) + ((m : Nat) : Int)) ((spl (rchL y0 vy vd lo hi)) + ((n : Nat) : Int)) (by omega) (by omega)) ?_
              refine runDf g'11 ?_
              refine call_d (by kernel_rfl) (sminus_c _ (((spl (rchL x0 vx vd lo hi)) + ((m : Nat) : Int)) * 64) (((spl (rchL y0 vy vd lo hi)) + ((n : Nat) : Int)) * 64) (((spl (rchL x0 vx vd lo hi)) + ((m : Nat) : Int)) * 64 + 64) (((spl (rchL y0 vy vd lo hi)) + ((n : Nat) : Int)) * 64 + 64) x0 y0 x1 y1 (by omega) (by omega) (by omega) (by omega) (by omega) (by omega) (by omega) (by omega)) ?_
              refine runDf g'11 ?_
              refine inv_of (hJ _ _ ⟨_, _, _, ⟨rfl, rfl⟩, Abs.byG hbel [] rfl [0, 1, 2, 3, 4] (by decide) ?_⟩)
              exact absR
            · skip
              refine runDf g'11 ?_
              refine call_d (by kernel_rfl) (psquare_c _ ((spl (rchL x0 vx vd lo hi)) + ((m : Nat) : Int)) ((spl (rchL y0 vy vd lo hi)) + ((n : Nat) : Int)) (by omega) (by omega)) ?_
              refine runDf g'11 ?_
              refine call_d (by kernel_rfl) (sminus_c _ (((spl (rchL x0 vx vd lo hi)) + ((m : Nat) : Int)) * 64) (((spl (rchL y0 vy vd lo hi)) + ((n : Nat) : Int)) * 64) (((spl (rchL x0 vx vd lo hi)) + ((m : Nat) : Int)) * 64 + 64) (((spl (rchL y0 vy vd lo hi)) + ((n : Nat) : Int)) * 64 + 64) x0 y0 x1 y1 (by omega) (by omega) (by omega) (by omega) (by omega) (by omega) (by omega) (by omega)) ?_
              refine runDf g'11 ?_
              refine inv_of (hJ _ _ ⟨_, _, _, ⟨rfl, rfl⟩, Abs.byG hbel [] rfl [0, 1, 2, 3, 4] (by decide) ?_⟩)
              exact absR
          rintro F2 H2 ⟨rfl, rfl⟩
          refine AW_fin true try_mixed (by kernel_rfl) ?_
          refine runTf g'11 ?_
          refine gd_split (fun h3 => ?_) (fun h3 => ?_)
          · have h3d := bsT h3
            have hmn := h3d
            have g'12 := (jn @h3 (jn @h3d g'11))
            refine runTf g'12 ?_
            refine call_v (by kernel_rfl) (smeets_c _ 0 0 vx vy vd lo hi (mkV true ((((spl (rchL x0 vx vd lo hi)) + ((m : Nat) : Int)) * 64) - x1)) (mkV true ((((spl (rchL y0 vy vd lo hi)) + ((n : Nat) : Int)) * 64) - y1)) (mkV true ((((spl (rchL x0 vx vd lo hi)) + ((m : Nat) : Int)) * 64 + 64) - x0)) (mkV true ((((spl (rchL y0 vy vd lo hi)) + ((n : Nat) : Int)) * 64 + 64) - y0))) ?_
            refine runTf g'12 ?_
            refine cond_split (fun h4 => ?_) (fun h4 => ?_)
            · have h4d := bsT h4
              have hov : swpP x0 y0 x1 y1 vx vy vd lo hi ((spl (rchL x0 vx vd lo hi)) + ((m : Nat) : Int)) ((spl (rchL y0 vy vd lo hi)) + ((n : Nat) : Int)) = true := by have q := h4d; unfold swpP; rw [hmn]; exact q
              have g'13 := (jn @h4 (jn @h4d (jn @capG_s g'12)))
              refine runTf g'13 ?_
              refine hn10 _ _ ?_
              refine hn9 _ _ ?_
              refine AW_fin true try_mixed (by kernel_rfl) ?_
              refine runTf g'13 ?_
              refine hJ1 _ _ ⟨k1 - 1, by omega, _, _, _, ⟨m + 1, by omega, rfl, rfl⟩, Abs.byG hbel [] rfl [0, 1, 6] (by decide) ?_⟩
              exact absRf (jn @rowR.eq_2 (jn @hov (jn @if_true.{1} (jn @if_false.{1} (jn @Bool.false_eq_true (jn @List.append_nil.{0} (jn @List.append_assoc.{0} (jn @Int.natCast_add (jn @Int.natCast_one @Int.add_assoc)))))))))
            · have h4d := bsT h4
              have hov : swpP x0 y0 x1 y1 vx vy vd lo hi ((spl (rchL x0 vx vd lo hi)) + ((m : Nat) : Int)) ((spl (rchL y0 vy vd lo hi)) + ((n : Nat) : Int)) = false := by have q := h4d; unfold swpP; rw [hmn]; exact q
              have g'14 := (jn @h4 (jn @h4d g'12))
              refine runTf g'14 ?_
              refine hn10 _ _ ?_
              refine hn9 _ _ ?_
              refine AW_fin true try_mixed (by kernel_rfl) ?_
              refine runTf g'14 ?_
              refine hJ1 _ _ ⟨k1 - 1, by omega, _, _, _, ⟨m + 1, by omega, rfl, rfl⟩, Abs.byG hbel [] rfl [0, 1, 2] (by decide) ?_⟩
              exact absRf (jn @rowR.eq_2 (jn @hov (jn @if_true.{1} (jn @if_false.{1} (jn @Bool.false_eq_true (jn @List.append_nil.{0} (jn @List.append_assoc.{0} (jn @Int.natCast_add (jn @Int.natCast_one @Int.add_assoc)))))))))
          · have h3d := bsT h3
            have hov : swpP x0 y0 x1 y1 vx vy vd lo hi ((spl (rchL x0 vx vd lo hi)) + ((m : Nat) : Int)) ((spl (rchL y0 vy vd lo hi)) + ((n : Nat) : Int)) = false := by unfold swpP; rw [h3d]; rfl
            have g'15 := (jn @h3 (jn @h3d g'11))
            refine runTf g'15 ?_
            refine hn10 _ _ ?_
            refine hn9 _ _ ?_
            refine AW_fin true try_mixed (by kernel_rfl) ?_
            refine runTf g'15 ?_
            refine hJ1 _ _ ⟨k1 - 1, by omega, _, _, _, ⟨m + 1, by omega, rfl, rfl⟩, Abs.byG hbel [] rfl [0, 1, 2] (by decide) ?_⟩
            exact absRf (jn @rowR.eq_2 (jn @hov (jn @if_true.{1} (jn @if_false.{1} (jn @Bool.false_eq_true (jn @List.append_nil.{0} (jn @List.append_assoc.{0} (jn @Int.natCast_add (jn @Int.natCast_one @Int.add_assoc)))))))))
        · have h2d := bsT h2
          obtain rfl : m = (celN (rchL x0 vx vd lo hi) (rchH x1 vx vd lo hi)) := by omega
          have g'16 := (jn @h2 (jn @h2d g'10))
          refine runTf g'16 ?_
          refine he8 _ _ _ ?_
          refine he7 _ _ _ ?_
          refine hb6 _ _ ?_
          refine hn4 _ _ ?_
          refine hn3 _ _ ?_
          refine AW_fin true try_mixed (by kernel_rfl) ?_
          refine runTf g'16 ?_
          refine hJ0 _ _ ⟨k0 - 1, by omega, _, _, _, ⟨n + 1, by omega, rfl, rfl⟩, Abs.byG hbel [] rfl [0, 1, 2] (by decide) ?_⟩
          exact absRf (jn @gridR_s (jn @Int.natCast_add (jn @Int.natCast_one @Int.add_assoc)))
    · have h1d := bsT h1
      obtain rfl : n = celN (rchL y0 vy vd lo hi) (rchH y1 vy vd lo hi) := by omega
      have g'17 := (jn @h1 (jn @h1d g'9))
      refine runTf g'17 ?_
      refine he2 _ _ _ ?_
      refine he1 _ _ _ ?_
      refine runTf g'17 ?_
      refine hQ _ _ (end_byG (.inl rfl) hbel (x1 := .sl (some (H.length + 2, 0)) ((gridR (swpP x0 y0 x1 y1 vx vy vd lo hi) (spl (rchL x0 vx vd lo hi)) (celN (rchL x0 vx vd lo hi) (rchH x1 vx vd lo hi)) (spl (rchL y0 vy vd lo hi)) (celN (rchL y0 vy vd lo hi) (rchH y1 vy vd lo hi))).length) (capG (gridR (swpP x0 y0 x1 y1 vx vy vd lo hi) (spl (rchL x0 vx vd lo hi)) (celN (rchL x0 vx vd lo hi) (rchH x1 vx vd lo hi)) (spl (rchL y0 vy vd lo hi)) (celN (rchL y0 vy vd lo hi) (rchH y1 vy vd lo hi))).length)) (l2 := [.cells (ownG (gridR (swpP x0 y0 x1 y1 vx vy vd lo hi) (spl (rchL x0 vx vd lo hi)) (celN (rchL x0 vx vd lo hi) (rchH x1 vx vd lo hi)) (spl (rchL y0 vy vd lo hi)) (celN (rchL y0 vy vd lo hi) (rchH y1 vy vd lo hi))).length) 2 (prs (gridR (swpP x0 y0 x1 y1 vx vy vd lo hi) (spl (rchL x0 vx vd lo hi)) (celN (rchL x0 vx vd lo hi) (rchH x1 vx vd lo hi)) (spl (rchL y0 vy vd lo hi)) (celN (rchL y0 vy vd lo hi) (rchH y1 vy vd lo hi))))]) (.sl (some (H.length, 0)) ((gridR (swpP x0 y0 x1 y1 vx vy vd lo hi) (spl (rchL x0 vx vd lo hi)) (celN (rchL x0 vx vd lo hi) (rchH x1 vx vd lo hi)) (spl (rchL y0 vy vd lo hi)) (celN (rchL y0 vy vd lo hi) (rchH y1 vy vd lo hi))).length) (capG (gridR (swpP x0 y0 x1 y1 vx vy vd lo hi) (spl (rchL x0 vx vd lo hi)) (celN (rchL x0 vx vd lo hi) (rchH x1 vx vd lo hi)) (spl (rchL y0 vy vd lo hi)) (celN (rchL y0 vy vd lo hi) (rchH y1 vy vd lo hi))).length)) (resT Tryz.results260) [] rfl [2] (by decide) ⟨rfl, rfl⟩ ?_)
      exact absW
theorem traced_c (H : AHeap) (px : Int) (py : Int) (vx : Int) (vy : Int) (vd : Int) (lo : Int) (hi : Int) : ACalls Tryz.prog 248 [.agg [.int .i64 px, .int .i64 py], .agg [.int .i64 vx, .int .i64 vy, .int .i64 vd], .int .i64 lo, .int .i64 hi] H (fun v H' => v = .tup [.sl (some (H.length, 0)) ((trL px py vx vy vd lo hi).length) (capG (trL px py vx vy vd lo hi).length), .int .i64 (trE px py vx vy vd lo hi)] ∧ H' = H ++ [.cells (ownG (trL px py vx vy vd lo hi).length) 2 (prs (trL px py vx vy vd lo hi))]) := by
  refine AcT true Tryz.func248 ?_; intro hbel Q hQ
  refine runT ?_
  refine call_v (by kernel_rfl) (pvpt_c _ px py) ?_
  refine runT ?_
  refine gd_split (fun h1 => ?_) (fun h1 => ?_)
  · have h1d := bsT h1
    have hp1 := h1d
    have hp2 := ptB_iff.1 hp1
    have g'18 := (jn @h1 @h1d)
    refine runTf g'18 ?_
    refine call_v (by kernel_rfl) (pvv_c _ vx vy vd) ?_
    refine runTf g'18 ?_
    refine cond_split (fun h2 => ?_) (fun h2 => ?_)
    · have h2d := bsT h2
      have hz := trE_1 (px := px) (py := py) (vx := vx) (vy := vy) (vd := vd) (lo := lo) (hi := hi) (fun hh => by rw [h2d] at hh; exact absurd hh.2 (by decide))
      have hfinE := hz.1
      have hfinL := hz.2
      have g'19 := (jn @h2 (jn @h2d g'18))
      refine runTf g'19 ?_
      refine hQ _ _ (end_byG (.inl rfl) hbel (x1 := .tup [.sl none 0 (some 0), .int .i64 1]) (l2 := [.cells false 2 []]) (.tup [.sl (some (H.length, 0)) 0 (some 0), .int .i64 1]) (resT Tryz.results248) [.cells false 2 []] rfl [2] (by decide) ⟨by first | (rw [hfinL, hfinE]; done) | (rw [hfinL, hfinE]; rfl) | (rw [hfinL]; done) | (rw [hfinL]; rfl), by first | (rw [hfinL, hfinE]; done) | (rw [hfinL, hfinE]; rfl) | (rw [hfinL]; done) | (rw [hfinL]; rfl)⟩ ?_)
      exact absW
    · have h2d := bsT h2
      have hv := h2d
      have g'20 := (jn @h2 (jn @h2d g'18))
      refine runTf g'20 ?_
      refine gd_split (fun h3 => ?_) (fun h3 => ?_)
      · have h3d := bsT h3
        have g'21 := (jn @h3 (jn @h3d g'20))
        refine runTf g'21 ?_
        refine gd_split (fun h4 => ?_) (fun h4 => ?_)
        · have h4d := bsT h4
          have g'22 := (jn @h4 (jn @h4d g'21))
          refine runTf g'22 ?_
          refine cond_split (fun h5 => ?_) (fun h5 => ?_)
          · have h5d := bsT h5
            have hz := trE_2 (lo := lo) (hi := hi) hp1 hv (by omega)
            have hfinE := hz.1
            have hfinL := hz.2
            have g'23 := (jn @h5 (jn @h5d g'22))
            refine runTf g'23 ?_
            refine hQ _ _ (end_byG (.inl rfl) hbel (x1 := .tup [.sl none 0 (some 0), .int .i64 2]) (l2 := [.cells false 2 []]) (.tup [.sl (some (H.length, 0)) 0 (some 0), .int .i64 2]) (resT Tryz.results248) [.cells false 2 []] rfl [2] (by decide) ⟨by first | (rw [hfinL, hfinE]; done) | (rw [hfinL, hfinE]; rfl) | (rw [hfinL]; done) | (rw [hfinL]; rfl), by first | (rw [hfinL, hfinE]; done) | (rw [hfinL, hfinE]; rfl) | (rw [hfinL]; done) | (rw [hfinL]; rfl)⟩ ?_)
            exact absW
          · have h5d := bsT h5
            have hlh : 0 ≤ lo ∧ lo ≤ hi ∧ hi ≤ 2048 := by omega
            have hz := trE_0 hp1 hv hlh
            have hfinE := hz.1
            have hfinL := hz.2
            have g'24 := (jn @h5 (jn @h5d g'22))
            refine runTf g'24 ?_
            refine call_v (by kernel_rfl) (psweep_c _ px py px py vx vy vd lo hi (by omega) (by omega) (by assumption) (by omega)) ?_
            refine runTf g'24 ?_
            refine hQ _ _ (end_byG (.inl rfl) hbel (x1 := .tup [.sl (some (H.length + 2, 0)) ((swpL px py px py vx vy vd lo hi).length) (capG (swpL px py px py vx vy vd lo hi).length), .int .i64 0]) (l2 := [.cells (ownG (swpL px py px py vx vy vd lo hi).length) 2 (prs (swpL px py px py vx vy vd lo hi))]) (.tup [.sl (some (H.length, 0)) ((swpL px py px py vx vy vd lo hi).length) (capG (swpL px py px py vx vy vd lo hi).length), .int .i64 0]) (resT Tryz.results248) [] rfl [2] (by decide) ⟨by first | (rw [hfinL, hfinE]; done) | (rw [hfinL, hfinE]; rfl) | (rw [hfinL]; done) | (rw [hfinL]; rfl), by first | (rw [hfinL, hfinE]; done) | (rw [hfinL, hfinE]; rfl) | (rw [hfinL]; done) | (rw [hfinL]; rfl)⟩ ?_)
            exact absW
        · have h4d := bsT h4
          have hz := trE_2 (lo := lo) (hi := hi) hp1 hv (by omega)
          have hfinE := hz.1
          have hfinL := hz.2
          have g'25 := (jn @h4 (jn @h4d g'21))
          refine runTf g'25 ?_
          refine hQ _ _ (end_byG (.inl rfl) hbel (x1 := .tup [.sl none 0 (some 0), .int .i64 2]) (l2 := [.cells false 2 []]) (.tup [.sl (some (H.length, 0)) 0 (some 0), .int .i64 2]) (resT Tryz.results248) [.cells false 2 []] rfl [2] (by decide) ⟨by first | (rw [hfinL, hfinE]; done) | (rw [hfinL, hfinE]; rfl) | (rw [hfinL]; done) | (rw [hfinL]; rfl), by first | (rw [hfinL, hfinE]; done) | (rw [hfinL, hfinE]; rfl) | (rw [hfinL]; done) | (rw [hfinL]; rfl)⟩ ?_)
          exact absW
      · have h3d := bsT h3
        have hz := trE_2 (lo := lo) (hi := hi) hp1 hv (by omega)
        have hfinE := hz.1
        have hfinL := hz.2
        have g'26 := (jn @h3 (jn @h3d g'20))
        refine runTf g'26 ?_
        refine hQ _ _ (end_byG (.inl rfl) hbel (x1 := .tup [.sl none 0 (some 0), .int .i64 2]) (l2 := [.cells false 2 []]) (.tup [.sl (some (H.length, 0)) 0 (some 0), .int .i64 2]) (resT Tryz.results248) [.cells false 2 []] rfl [2] (by decide) ⟨by first | (rw [hfinL, hfinE]; done) | (rw [hfinL, hfinE]; rfl) | (rw [hfinL]; done) | (rw [hfinL]; rfl), by first | (rw [hfinL, hfinE]; done) | (rw [hfinL, hfinE]; rfl) | (rw [hfinL]; done) | (rw [hfinL]; rfl)⟩ ?_)
        exact absW
  · have h1d := bsT h1
    have hz := trE_1 (px := px) (py := py) (vx := vx) (vy := vy) (vd := vd) (lo := lo) (hi := hi) (fun hh => by rw [h1d] at hh; exact absurd hh.1 (by decide))
    have hfinE := hz.1
    have hfinL := hz.2
    have g'27 := (jn @h1 @h1d)
    refine runTf g'27 ?_
    refine hQ _ _ (end_byG (.inl rfl) hbel (x1 := .tup [.sl none 0 (some 0), .int .i64 1]) (l2 := [.cells false 2 []]) (.tup [.sl (some (H.length, 0)) 0 (some 0), .int .i64 1]) (resT Tryz.results248) [.cells false 2 []] rfl [2] (by decide) ⟨by first | (rw [hfinL, hfinE]; done) | (rw [hfinL, hfinE]; rfl) | (rw [hfinL]; done) | (rw [hfinL]; rfl), by first | (rw [hfinL, hfinE]; done) | (rw [hfinL, hfinE]; rfl) | (rw [hfinL]; done) | (rw [hfinL]; rfl)⟩ ?_)
    exact absW
theorem swept_c (H : AHeap) (x0 : Int) (y0 : Int) (x1 : Int) (y1 : Int) (vx : Int) (vy : Int) (vd : Int) (lo : Int) (hi : Int) : ACalls Tryz.prog 174 [.agg [.int .i64 x0, .int .i64 y0, .int .i64 x1, .int .i64 y1], .agg [.int .i64 vx, .int .i64 vy, .int .i64 vd], .int .i64 lo, .int .i64 hi] H (fun v H' => v = .tup [.sl (some (H.length, 0)) ((sptL x0 y0 x1 y1 vx vy vd lo hi).length) (capG (sptL x0 y0 x1 y1 vx vy vd lo hi).length), .int .i64 (sptE x0 y0 x1 y1 vx vy vd lo hi)] ∧ H' = H ++ [.cells (ownG (sptL x0 y0 x1 y1 vx vy vd lo hi).length) 2 (prs (sptL x0 y0 x1 y1 vx vy vd lo hi))]) := by
  refine AcT true Tryz.func174 ?_; intro hbel Q hQ
  refine runT ?_
  refine call_v (by kernel_rfl) (pvrc_c _ x0 y0 x1 y1) ?_
  refine runT ?_
  refine gd_split (fun h1 => ?_) (fun h1 => ?_)
  · have h1d := bsT h1
    have hp1 := h1d
    have hp2 := rctB_iff.1 hp1
    have g'28 := (jn @h1 @h1d)
    refine runTf g'28 ?_
    refine call_v (by kernel_rfl) (pvv_c _ vx vy vd) ?_
    refine runTf g'28 ?_
    refine cond_split (fun h2 => ?_) (fun h2 => ?_)
    · have h2d := bsT h2
      have hz := sptE_1 (x0 := x0) (y0 := y0) (x1 := x1) (y1 := y1) (vx := vx) (vy := vy) (vd := vd) (lo := lo) (hi := hi) (fun hh => by rw [h2d] at hh; exact absurd hh.2 (by decide))
      have hfinE := hz.1
      have hfinL := hz.2
      have g'29 := (jn @h2 (jn @h2d g'28))
      refine runTf g'29 ?_
      refine hQ _ _ (end_byG (.inl rfl) hbel (x1 := .tup [.sl none 0 (some 0), .int .i64 1]) (l2 := [.cells false 2 []]) (.tup [.sl (some (H.length, 0)) 0 (some 0), .int .i64 1]) (resT Tryz.results174) [.cells false 2 []] rfl [2] (by decide) ⟨by first | (rw [hfinL, hfinE]; done) | (rw [hfinL, hfinE]; rfl) | (rw [hfinL]; done) | (rw [hfinL]; rfl), by first | (rw [hfinL, hfinE]; done) | (rw [hfinL, hfinE]; rfl) | (rw [hfinL]; done) | (rw [hfinL]; rfl)⟩ ?_)
      exact absW
    · have h2d := bsT h2
      have hv := h2d
      have g'30 := (jn @h2 (jn @h2d g'28))
      refine runTf g'30 ?_
      refine gd_split (fun h3 => ?_) (fun h3 => ?_)
      · have h3d := bsT h3
        have g'31 := (jn @h3 (jn @h3d g'30))
        refine runTf g'31 ?_
        refine gd_split (fun h4 => ?_) (fun h4 => ?_)
        · have h4d := bsT h4
          have g'32 := (jn @h4 (jn @h4d g'31))
          refine runTf g'32 ?_
          refine cond_split (fun h5 => ?_) (fun h5 => ?_)
          · have h5d := bsT h5
            have hz := sptE_2 (lo := lo) (hi := hi) hp1 hv (by omega)
            have hfinE := hz.1
            have hfinL := hz.2
            have g'33 := (jn @h5 (jn @h5d g'32))
            refine runTf g'33 ?_
            refine hQ _ _ (end_byG (.inl rfl) hbel (x1 := .tup [.sl none 0 (some 0), .int .i64 2]) (l2 := [.cells false 2 []]) (.tup [.sl (some (H.length, 0)) 0 (some 0), .int .i64 2]) (resT Tryz.results174) [.cells false 2 []] rfl [2] (by decide) ⟨by first | (rw [hfinL, hfinE]; done) | (rw [hfinL, hfinE]; rfl) | (rw [hfinL]; done) | (rw [hfinL]; rfl), by first | (rw [hfinL, hfinE]; done) | (rw [hfinL, hfinE]; rfl) | (rw [hfinL]; done) | (rw [hfinL]; rfl)⟩ ?_)
            exact absW
          · have h5d := bsT h5
            have hlh : 0 ≤ lo ∧ lo ≤ hi ∧ hi ≤ 2048 := by omega
            have g'34 := (jn @h5 (jn @h5d g'32))
            refine runTf g'34 ?_
            refine gd_split (fun h6 => ?_) (fun h6 => ?_)
            · have h6d := bsT h6
              have g'35 := (jn @h6 (jn @h6d g'34))
              refine runTf g'35 ?_
              refine cond_split (fun h7 => ?_) (fun h7 => ?_)
              · have h7d := bsT h7
                have hz := sptE_6 hp1 hv hlh (.inr h7d)
                have hfinE := hz.1
                have hfinL := hz.2
                have g'36 := (jn @h7 (jn @h7d g'35))
                refine runTf g'36 ?_
                refine hQ _ _ (end_byG (.inl rfl) hbel (x1 := .tup [.sl none 0 (some 0), .int .i64 6]) (l2 := [.cells false 2 []]) (.tup [.sl (some (H.length, 0)) 0 (some 0), .int .i64 6]) (resT Tryz.results174) [.cells false 2 []] rfl [2] (by decide) ⟨by first | (rw [hfinL, hfinE]; done) | (rw [hfinL, hfinE]; rfl) | (rw [hfinL]; done) | (rw [hfinL]; rfl), by first | (rw [hfinL, hfinE]; done) | (rw [hfinL, hfinE]; rfl) | (rw [hfinL]; done) | (rw [hfinL]; rfl)⟩ ?_)
                exact absW
              · have h7d := bsT h7
                have hz := sptE_0 hp1 hv hlh (by omega)
                have hfinE := hz.1
                have hfinL := hz.2
                have g'37 := (jn @h7 (jn @h7d g'35))
                refine runTf g'37 ?_
                refine call_v (by kernel_rfl) (psweep_c _ x0 y0 x1 y1 vx vy vd lo hi (by omega) (by omega) (by assumption) (by omega)) ?_
                refine runTf g'37 ?_
                refine hQ _ _ (end_byG (.inl rfl) hbel (x1 := .tup [.sl (some (H.length + 2, 0)) ((swpL x0 y0 x1 y1 vx vy vd lo hi).length) (capG (swpL x0 y0 x1 y1 vx vy vd lo hi).length), .int .i64 0]) (l2 := [.cells (ownG (swpL x0 y0 x1 y1 vx vy vd lo hi).length) 2 (prs (swpL x0 y0 x1 y1 vx vy vd lo hi))]) (.tup [.sl (some (H.length, 0)) ((swpL x0 y0 x1 y1 vx vy vd lo hi).length) (capG (swpL x0 y0 x1 y1 vx vy vd lo hi).length), .int .i64 0]) (resT Tryz.results174) [] rfl [2] (by decide) ⟨by first | (rw [hfinL, hfinE]; done) | (rw [hfinL, hfinE]; rfl) | (rw [hfinL]; done) | (rw [hfinL]; rfl), by first | (rw [hfinL, hfinE]; done) | (rw [hfinL, hfinE]; rfl) | (rw [hfinL]; done) | (rw [hfinL]; rfl)⟩ ?_)
                exact absW
            · have h6d := bsT h6
              have hz := sptE_6 hp1 hv hlh (.inl h6d)
              have hfinE := hz.1
              have hfinL := hz.2
              have g'38 := (jn @h6 (jn @h6d g'34))
              refine runTf g'38 ?_
              refine hQ _ _ (end_byG (.inl rfl) hbel (x1 := .tup [.sl none 0 (some 0), .int .i64 6]) (l2 := [.cells false 2 []]) (.tup [.sl (some (H.length, 0)) 0 (some 0), .int .i64 6]) (resT Tryz.results174) [.cells false 2 []] rfl [2] (by decide) ⟨by first | (rw [hfinL, hfinE]; done) | (rw [hfinL, hfinE]; rfl) | (rw [hfinL]; done) | (rw [hfinL]; rfl), by first | (rw [hfinL, hfinE]; done) | (rw [hfinL, hfinE]; rfl) | (rw [hfinL]; done) | (rw [hfinL]; rfl)⟩ ?_)
              exact absW
        · have h4d := bsT h4
          have hz := sptE_2 (lo := lo) (hi := hi) hp1 hv (by omega)
          have hfinE := hz.1
          have hfinL := hz.2
          have g'39 := (jn @h4 (jn @h4d g'31))
          refine runTf g'39 ?_
          refine hQ _ _ (end_byG (.inl rfl) hbel (x1 := .tup [.sl none 0 (some 0), .int .i64 2]) (l2 := [.cells false 2 []]) (.tup [.sl (some (H.length, 0)) 0 (some 0), .int .i64 2]) (resT Tryz.results174) [.cells false 2 []] rfl [2] (by decide) ⟨by first | (rw [hfinL, hfinE]; done) | (rw [hfinL, hfinE]; rfl) | (rw [hfinL]; done) | (rw [hfinL]; rfl), by first | (rw [hfinL, hfinE]; done) | (rw [hfinL, hfinE]; rfl) | (rw [hfinL]; done) | (rw [hfinL]; rfl)⟩ ?_)
          exact absW
      · have h3d := bsT h3
        have hz := sptE_2 (lo := lo) (hi := hi) hp1 hv (by omega)
        have hfinE := hz.1
        have hfinL := hz.2
        have g'40 := (jn @h3 (jn @h3d g'30))
        refine runTf g'40 ?_
        refine hQ _ _ (end_byG (.inl rfl) hbel (x1 := .tup [.sl none 0 (some 0), .int .i64 2]) (l2 := [.cells false 2 []]) (.tup [.sl (some (H.length, 0)) 0 (some 0), .int .i64 2]) (resT Tryz.results174) [.cells false 2 []] rfl [2] (by decide) ⟨by first | (rw [hfinL, hfinE]; done) | (rw [hfinL, hfinE]; rfl) | (rw [hfinL]; done) | (rw [hfinL]; rfl), by first | (rw [hfinL, hfinE]; done) | (rw [hfinL, hfinE]; rfl) | (rw [hfinL]; done) | (rw [hfinL]; rfl)⟩ ?_)
        exact absW
  · have h1d := bsT h1
    have hz := sptE_1 (x0 := x0) (y0 := y0) (x1 := x1) (y1 := y1) (vx := vx) (vy := vy) (vd := vd) (lo := lo) (hi := hi) (fun hh => by rw [h1d] at hh; exact absurd hh.1 (by decide))
    have hfinE := hz.1
    have hfinL := hz.2
    have g'41 := (jn @h1 @h1d)
    refine runTf g'41 ?_
    refine hQ _ _ (end_byG (.inl rfl) hbel (x1 := .tup [.sl none 0 (some 0), .int .i64 1]) (l2 := [.cells false 2 []]) (.tup [.sl (some (H.length, 0)) 0 (some 0), .int .i64 1]) (resT Tryz.results174) [.cells false 2 []] rfl [2] (by decide) ⟨by first | (rw [hfinL, hfinE]; done) | (rw [hfinL, hfinE]; rfl) | (rw [hfinL]; done) | (rw [hfinL]; rfl), by first | (rw [hfinL, hfinE]; done) | (rw [hfinL, hfinE]; rfl) | (rw [hfinL]; done) | (rw [hfinL]; rfl)⟩ ?_)
    exact absW
open Go.RowKit
/-- A box with the direction of a beam for one of its marks. -/
def dirE (b : T6) (m h : Int) : T9 := (b.1, b.2.1, b.2.2.1, b.2.2.2.1, b.2.2.2.2.1, b.2.2.2.2.2, (beamV h m).1, (beamV h m).2.1, (beamV h m).2.2)
def mkB (b : T6) : List Int := mrkL b.2.2.2.2.1 b.2.2.2.2.2.toNat
def dirB (b : T6) (m : Int) : Nat → List T9
  | 0 => []
  | j + 1 => dirB b m j ++ [dirE b m (gi (mkB b) j)]
def dirS (l : List T6) (m : Int) : Nat → List T9
  | 0 => []
  | i + 1 => dirS l m i ++ dirB (g6 l i) m (mkB (g6 l i)).length
def dirA (l : List T6) (m : Int) : List T9 := dirS l m l.length
theorem dirB_len (b : T6) (m : Int) : ∀ j : Nat, (dirB b m j).length = j
  | 0 => rfl
  | j + 1 => by simp only [dirB, List.length_append, dirB_len b m j]; rfl
theorem mkB_len {l : List T6} (h : setB l = true) {i : Nat} (hi : i < l.length) : 1 ≤ (mkB (g6 l i)).length ∧ (mkB (g6 l i)).length ≤ 256 ∧ (((mkB (g6 l i)).length : Nat) : Int) = g66 l i := by
  have := g66_bd h hi
  unfold mkB
  rw [mrkL_len]
  have e : (g6 l i).2.2.2.2.2 = g66 l i := rfl
  rw [e]; omega
theorem dirS_len {l : List T6} (h : setB l = true) (m : Int) : ∀ i : Nat, i ≤ l.length → i ≤ (dirS l m i).length ∧ (dirS l m i).length ≤ 256 * i
  | 0, _ => by simp [dirS]
  | i + 1, hi => by
    have ih := dirS_len h m i (by omega)
    have k := mkB_len h (show i < l.length by omega)
    simp only [dirS, List.length_append, dirB_len]; omega
theorem dirA_len {l : List T6} (h : setB l = true) (m : Int) : l.length ≤ (dirA l m).length ∧ (dirA l m).length ≤ 4096 := by
  have a := dirS_len h m l.length (Nat.le_refl _)
  have b := setB_len h
  unfold dirA; omega
/-- What the pairs are. -/
theorem dirB_mem {b : T6} {m : Int} {e : T9} : ∀ {j : Nat}, j ≤ (mkB b).length → (e ∈ dirB b m j ↔ ∃ q : Nat, q < j ∧ e = dirE b m (gi (mkB b) q))
  | 0, _ => by simp [dirB]
  | j + 1, hj => by
    rw [dirB, List.mem_append, dirB_mem (by omega), List.mem_singleton]
    constructor
    · rintro (⟨q, hq, rfl⟩ | rfl)
      · exact ⟨q, by omega, rfl⟩
      · exact ⟨j, by omega, rfl⟩
    · rintro ⟨q, hq, rfl⟩
      rcases Nat.lt_or_ge q j with h | h
      · exact .inl ⟨q, h, rfl⟩
      · obtain rfl : q = j := by omega
        exact .inr rfl
theorem dirS_mem {l : List T6} {m : Int} {e : T9} : ∀ {i : Nat}, i ≤ l.length → (e ∈ dirS l m i ↔ ∃ j q : Nat, j < i ∧ q < (mkB (g6 l j)).length ∧ e = dirE (g6 l j) m (gi (mkB (g6 l j)) q))
  | 0, _ => by simp [dirS]
  | i + 1, hi => by
    rw [dirS, List.mem_append, dirS_mem (by omega), dirB_mem (Nat.le_refl _)]
    constructor
    · rintro (⟨j, q, h1, h2, h3⟩ | ⟨q, h2, h3⟩)
      · exact ⟨j, q, by omega, h2, h3⟩
      · exact ⟨i, q, by omega, h2, h3⟩
    · rintro ⟨j, q, h1, h2, h3⟩
      rcases Nat.lt_or_ge j i with h | h
      · exact .inl ⟨j, q, h, h2, h3⟩
      · obtain rfl : j = i := by omega
        exact .inr ⟨q, h2, h3⟩
def pairB (e : T9) : Bool := bxB e.1 e.2.1 e.2.2.1 e.2.2.2.1 e.2.2.2.2.1 e.2.2.2.2.2.1 && vecB e.2.2.2.2.2.2.1 e.2.2.2.2.2.2.2.1 e.2.2.2.2.2.2.2.2
theorem dirA_ok {l : List T6} (h : setB l = true) {m : Int} {e : T9} (he : e ∈ dirA l m) : pairB e = true := by
  obtain ⟨j, q, hj, hq, rfl⟩ := (dirS_mem (Nat.le_refl _)).1 he
  unfold pairB dirE
  rw [Bool.and_eq_true]
  exact ⟨(setB_iff.1 h).2 (g6 l j) (g6_mem hj), beam_ok _ _⟩
/-- A pair's corners all meet a square before a distance. -/
def psB (e : T9) (s0 t0 s1 t1 far : Int) : Bool := sbfB e.1 e.2.1 e.2.2.2.2.2.2.1 e.2.2.2.2.2.2.2.1 e.2.2.2.2.2.2.2.2 far s0 t0 s1 t1 && (sbfB e.2.2.1 e.2.1 e.2.2.2.2.2.2.1 e.2.2.2.2.2.2.2.1 e.2.2.2.2.2.2.2.2 far s0 t0 s1 t1 && (sbfB e.1 e.2.2.2.1 e.2.2.2.2.2.2.1 e.2.2.2.2.2.2.2.1 e.2.2.2.2.2.2.2.2 far s0 t0 s1 t1 && sbfB e.2.2.1 e.2.2.2.1 e.2.2.2.2.2.2.1 e.2.2.2.2.2.2.2.1 e.2.2.2.2.2.2.2.2 far s0 t0 s1 t1))
def psC (e : T9) (far : Int) (c : Int × Int) : Bool := psB e (c.1 * 64) (c.2 * 64) (c.1 * 64 + 64) (c.2 * 64 + 64) far
def prvB (l : List T6) (m far : Int) (c : Int × Int) : Bool := (dirA l m).all fun e => psC e far c
def farF (r g : Int) : Int := if r = -1 then 1024 - g else r - g
/-- The cells of the ray from the first pair's first corner. -/
def fstL (l : List T6) (m far : Int) : List (Int × Int) := trL (g91 (dirA l m) 0) (g92 (dirA l m) 0) (g97 (dirA l m) 0) (g98 (dirA l m) 0) (g99 (dirA l m) 0) 0 far
def okcB (W Hh : Int) (l : List T6) (m far : Int) (c : Int × Int) : Bool := btw c.1 0 (W - 1) && (btw c.2 0 (Hh - 1) && prvB l m far c)
def prvL (W Hh : Int) (l : List T6) (m r g : Int) : List (Int × Int) := if farF r g ≤ 0 then [] else (fstL l m (farF r g)).filter (okcB W Hh l m (farF r g))
theorem flt_step {α : Type} {p : α → Bool} {l : List α} {j : Nat} (h : j < l.length) : (l.take (j + 1)).filter p = (l.take j).filter p ++ (if p l[j] = true then [l[j]] else []) := by
  rw [List.take_succ_eq_append_getElem h, List.filter_append]
  congr 1
  cases hp : p l[j] <;> simp [hp]
theorem flt_len {α : Type} {p : α → Bool} {l : List α} {j : Nat} : ((l.take j).filter p).length ≤ j := by
  have := List.length_filter_le p (l.take j)
  rw [List.length_take] at this; omega
theorem prvL_len (W Hh : Int) (l : List T6) (m r g : Int) : (prvL W Hh l m r g).length ≤ 7225 := by
  unfold prvL; split
  · simp
  · exact Nat.le_trans (List.length_filter_le _ _) (trL_len _ _ _ _ _ _ _)
/-- The cells of a ray are not far. -/
theorem trL_mem {px py vx vy vd lo hi : Int} {c : Int × Int} (h : c ∈ trL px py vx vy vd lo hi) : (-32768 ≤ c.1 ∧ c.1 ≤ 32768) ∧ -32768 ≤ c.2 ∧ c.2 ≤ 32768 := by
  unfold trL mkL at h
  split at h
  · rename_i he
    obtain ⟨h1, h2, hr⟩ := trE_z he
    have hq := ptB_iff.1 h1
    exact swp_bd ((swpL_mem (by omega) (by omega) h2 hr).1 h)
  · cases h
def sqO (x y : Int) : Bool := within x 16384 && within y 16384
open Go.RowKit
theorem befP_asymm {a b : Int × Int} (h : befP a b) : ¬ befP b a := by unfold befP at *; omega
theorem befP_irr {a : Int × Int} : ¬ befP a a := by unfold befP; omega
theorem befP_trans {a b c : Int × Int} (h : befP a b) (k : befP b c) : befP a c := by unfold befP at *; omega
theorem befP_tri (a b : Int × Int) : befP a b ∨ a = b ∨ befP b a := by
  unfold befP
  rcases Int.lt_trichotomy a.2 b.2 with h | h | h
  · exact .inl (.inl h)
  · rcases Int.lt_trichotomy a.1 b.1 with k | k | k
    · exact .inl (.inr ⟨h, k⟩)
    · exact .inr (.inl (Prod.ext k h))
    · exact .inr (.inr (.inr ⟨h.symm, k⟩))
  · exact .inr (.inr (.inl h))
/-- Equal neighbours are struck, the first of them stays. -/
def cptC : List (Int × Int) → List (Int × Int)
  | [] => []
  | [a] => [a]
  | a :: b :: l => if a = b then cptC (b :: l) else a :: cptC (b :: l)
theorem cptC_mem : ∀ {l : List (Int × Int)} {x : Int × Int}, x ∈ cptC l ↔ x ∈ l
  | [], _ => Iff.rfl
  | [_], _ => Iff.rfl
  | a :: b :: l, x => by
    unfold cptC
    split
    · rename_i h
      rw [cptC_mem (l := b :: l), List.mem_cons (l := b :: l)]
      exact ⟨.inr, fun k => k.elim (fun q => by rw [q, h]; exact List.mem_cons_self ..) id⟩
    · rw [List.mem_cons, List.mem_cons (l := b :: l), cptC_mem (l := b :: l)]
def leC (a b : Int × Int) : Prop := a = b ∨ befP a b
theorem cptC_strict : ∀ {l : List (Int × Int)}, l.Pairwise leC → (cptC l).Pairwise befP
  | [], _ => .nil
  | [a], _ => by unfold cptC; simp
  | a :: b :: l, h => by
    rw [List.pairwise_cons] at h
    have r := cptC_strict h.2
    unfold cptC
    split
    · exact r
    · rename_i hab
      rw [List.pairwise_cons]
      refine ⟨fun x hx => ?_, r⟩
      have hm := cptC_mem.1 hx
      have hb : befP a b := (h.1 b (List.mem_cons_self ..)).resolve_left hab
      rcases List.mem_cons.1 hm with q | q
      · rw [q]; exact hb
      · rcases (List.pairwise_cons.1 h.2).1 x q with k | k
        · rw [← k]; exact hb
        · exact befP_trans hb k
/-- Put one more cell into a row (the reference's put). -/
def putK (c : Int × Int) : List (Int × Int) → List (Int × Int)
  | [] => [c]
  | a :: l => if a.2 < c.2 ∨ (a.2 = c.2 ∧ a.1 < c.1) then a :: putK c l else if a = c then a :: l else c :: a :: l
theorem putK_mem {c x : Int × Int} : ∀ {l : List (Int × Int)}, x ∈ putK c l ↔ x = c ∨ x ∈ l
  | [] => by simp [putK]
  | a :: l => by
    unfold putK
    split
    · rw [List.mem_cons, putK_mem (l := l), List.mem_cons]
      exact ⟨fun k => k.elim (.inr ∘ .inl) (fun k => k.elim .inl (.inr ∘ .inr)), fun k => k.elim (.inr ∘ .inl) (fun k => k.elim .inl (.inr ∘ .inr))⟩
    · split
      · rename_i h
        exact ⟨.inr, fun k => k.elim (fun q => by rw [q, ← h]; exact List.mem_cons_self ..) id⟩
      · rw [List.mem_cons]
theorem putK_strict {c : Int × Int} : ∀ {l : List (Int × Int)}, l.Pairwise befP → (putK c l).Pairwise befP
  | [], _ => by unfold putK; simp
  | a :: l, h => by
    rw [List.pairwise_cons] at h
    unfold putK
    split
    · rename_i k
      rw [List.pairwise_cons]
      refine ⟨fun x hx => ?_, putK_strict h.2⟩
      rcases putK_mem.1 hx with q | q
      · rw [q]; exact k
      · exact h.1 x q
    · rename_i k
      split
      · exact List.pairwise_cons.2 h
      · rename_i e
        have hc : befP c a := ((befP_tri c a).resolve_right fun q => q.elim (fun q => e q.symm) (fun q => k q))
        rw [List.pairwise_cons]
        refine ⟨fun x hx => ?_, List.pairwise_cons.2 h⟩
        rcases List.mem_cons.1 hx with q | q
        · rw [q]; exact hc
        · exact befP_trans hc (h.1 x q)
/-- Sorted and compacted, or put in one by one: the same row. -/
theorem cpt_put {l s : List (Int × Int)} (hs : s.Pairwise leC) (hm : ∀ x, x ∈ s ↔ x ∈ l) : cptC s = l.foldl (fun o c => putK c o) [] := by
  have g : ∀ (l o : List (Int × Int)), o.Pairwise befP → (l.foldl (fun o c => putK c o) o).Pairwise befP ∧ ∀ x, x ∈ l.foldl (fun o c => putK c o) o ↔ x ∈ l ∨ x ∈ o := by
    intro l
    induction l with
    | nil => exact fun o ho => ⟨ho, fun x => by simp⟩
    | cons a l ih =>
      intro o ho
      have k := ih (putK a o) (putK_strict ho)
      refine ⟨k.1, fun x => ?_⟩
      rw [List.foldl_cons, k.2 x, putK_mem, List.mem_cons]
      exact ⟨fun q => q.elim (.inl ∘ .inr) (fun q => q.elim (.inl ∘ .inl) .inr), fun q => q.elim (fun q => q.elim (.inr ∘ .inl) .inl) (.inr ∘ .inr)⟩
  have k := g l [] .nil
  exact eq_sorted (cptC_strict hs) k.1 fun x => by rw [cptC_mem, hm, k.2]; simp
theorem cpt_snoc : ∀ (m : List (Int × Int)) (y x : Int × Int), cptC (m ++ [y] ++ [x]) = cptC (m ++ [y]) ++ (if y = x then [] else [x])
  | [], y, x => by
    show cptC [y, x] = cptC [y] ++ _
    unfold cptC
    split
    · rename_i h; subst h; simp [cptC]
    · rename_i h; simp [cptC]
  | [a], y, x => by
    show cptC (a :: y :: [x]) = cptC (a :: y :: []) ++ _
    simp only [cptC]
    by_cases h : a = y
    · by_cases k : y = x
      · simp [h, k]
      · simp [h, k]
    · by_cases k : y = x
      · simp [h, k]
      · simp [h, k]
  | a :: b :: m, y, x => by
    show cptC (a :: b :: (m ++ [y] ++ [x])) = cptC (a :: b :: (m ++ [y])) ++ _
    have ih := cpt_snoc (b :: m) y x
    simp only [List.cons_append] at ih
    rw [cptC, cptC, ih]
    by_cases h : a = b
    · rw [if_pos h, if_pos h]
    · rw [if_neg h, if_neg h, List.cons_append]
theorem cpt_step {l : List (Int × Int)} {j : Nat} (h1 : 1 ≤ j) (hj : j < l.length) : cptC (l.take (j + 1)) = cptC (l.take j) ++ (if l[j - 1]'(by omega) = l[j] then [] else [l[j]]) := by
  obtain ⟨i, rfl⟩ : ∃ i, j = i + 1 := ⟨j - 1, by omega⟩
  have e1 := List.take_succ_eq_append_getElem hj
  have e2 := List.take_succ_eq_append_getElem (show i < l.length by omega)
  rw [e1, e2]
  exact cpt_snoc _ _ _
theorem cpt_1 {l : List (Int × Int)} (h : l.length < 2) : cptC l = l := by
  match l, h with
  | [], _ => rfl
  | [_], _ => rfl
theorem cpt_len (l : List (Int × Int)) : (cptC l).length ≤ l.length := by
  match l with
  | [] => exact Nat.le_refl _
  | [_] => exact Nat.le_refl _
  | a :: b :: m =>
    have := cpt_len (b :: m)
    rw [cptC]
    split
    · exact Nat.le_trans this (by simp)
    · simp only [List.length_cons] at *; omega
/-- Two sorted rows with the same elements are one. -/
theorem leC_anti {a b : Int × Int} (h : leC a b) (k : leC b a) : a = b := by
  unfold leC at *
  rcases h with h | h
  · exact h
  · rcases k with k | k
    · exact k.symm
    · exact absurd k (befP_asymm h)
theorem sortP_eq : ∀ {l m : List (Int × Int)}, l.Perm m → l.Pairwise leC → m.Pairwise leC → l = m
  | [], m, h, _, _ => (List.Perm.nil_eq h)
  | a :: l, [], h, _, _ => absurd h.symm.nil_eq (by simp)
  | a :: l, b :: m, h, h1, h2 => by
    rw [List.pairwise_cons] at h1 h2
    have hab : a = b := by
      have ha : a ∈ b :: m := h.subset (List.mem_cons_self ..)
      have hb : b ∈ a :: l := h.symm.subset (List.mem_cons_self ..)
      rcases List.mem_cons.1 ha with e | e
      · exact e
      · rcases List.mem_cons.1 hb with e2 | e2
        · exact e2.symm
        · exact leC_anti (h1.1 b e2) (h2.1 a e)
    subst hab
    rw [sortP_eq (List.Perm.cons_inv h) h1.2 h2.2]
theorem leC_tot (a b : Int × Int) : leC a b ∨ leC b a := by
  unfold leC
  rcases befP_tri a b with h | h | h
  · exact .inl (.inr h)
  · exact .inl (.inl h)
  · exact .inr (.inr h)
theorem leC_trans {a b c : Int × Int} (h : leC a b) (k : leC b c) : leC a c := by
  unfold leC at *
  rcases h with rfl | h
  · exact k
  · rcases k with rfl | k
    · exact .inr h
    · exact .inr (befP_trans h k)
instance (a b : Int × Int) : Decidable (befP a b) := by unfold befP; infer_instance
instance (a b : Int × Int) : Decidable (leC a b) := by unfold leC; infer_instance
/-- The sorted row. -/
def srtC (l : List (Int × Int)) : List (Int × Int) := l.mergeSort fun a b => decide (leC a b)
theorem srtC_perm (l : List (Int × Int)) : (srtC l).Perm l := List.mergeSort_perm _ _
theorem srtC_len (l : List (Int × Int)) : (srtC l).length = l.length := (srtC_perm l).length_eq
theorem srtC_sorted (l : List (Int × Int)) : (srtC l).Pairwise leC := by
  have h := List.pairwise_mergeSort (le := fun a b => decide (leC a b)) (fun a b c h k => by simp only [decide_eq_true_eq] at *; exact leC_trans h k) (fun a b => by simp only [Bool.or_eq_true, decide_eq_true_eq]; exact leC_tot a b) l
  unfold srtC
  refine h.imp fun {a b} k => ?_
  simpa using k
theorem srtC_nil : srtC [] = [] := by simp [srtC]
open Go.RowKit
/-- The cells that the first beams prove free, one list behind the other. -/
def prS (W Hh : Int) (l : List T6) (sc : List (Int × Int)) (g : Int) : Nat → List (Int × Int)
  | 0 => []
  | i + 1 => prS W Hh l sc g i ++ prvL W Hh l (g1 sc i) (g2 sc i) g
def rowA (W Hh : Int) (l : List T6) (sc : List (Int × Int)) (g : Int) : List (Int × Int) := if tauB l = true then prS W Hh l sc g sc.length else []
def allL (W Hh : Int) (l : List T6) (sc : List (Int × Int)) (g : Int) : List (Int × Int) := cptC (srtC (rowA W Hh l sc g))
theorem prS_len (W Hh : Int) (l : List T6) (sc : List (Int × Int)) (g : Int) : ∀ i : Nat, (prS W Hh l sc g i).length ≤ 7225 * i
  | 0 => by simp [prS]
  | i + 1 => by
    have := prS_len W Hh l sc g i
    have := prvL_len W Hh l (g1 sc i) (g2 sc i) g
    simp only [prS, List.length_append]; omega
theorem allL_nil {W Hh : Int} {l : List T6} {sc : List (Int × Int)} {g : Int} (h : tauB l = false) : allL W Hh l sc g = [] ∧ rowA W Hh l sc g = [] := by
  have e : rowA W Hh l sc g = [] := if_neg (by rw [h]; decide)
  exact ⟨by unfold allL; rw [e, srtC_nil]; rfl, e⟩
/-- The cells that the rays from all pairs meet, one list behind the other. -/
def swS (l : List T9) (r g : Int) : Nat → List (Int × Int)
  | 0 => []
  | i + 1 => swS l r g i ++ sptL (g91 l i) (g92 l i) (g93 l i) (g94 l i) (g97 l i) (g98 l i) (g99 l i) (if 0 < r - g then r - g else 0) (r + g)
def rowU (l : List T6) (m r g : Int) : List (Int × Int) := if (decide (r = -1) || !tauB l) = true then [] else swS (dirA l m) r g (dirA l m).length
def susL (l : List T6) (m r g : Int) : List (Int × Int) := cptC (srtC (rowU l m r g))
theorem swS_len (l : List T9) (r g : Int) : ∀ i : Nat, (swS l r g i).length ≤ 7225 * i
  | 0 => by simp [swS]
  | i + 1 => by
    have := swS_len l r g i
    have := sptL_len (g91 l i) (g92 l i) (g93 l i) (g94 l i) (g97 l i) (g98 l i) (g99 l i) (if 0 < r - g then r - g else 0) (r + g)
    simp only [swS, List.length_append]; omega
theorem susL_nil {l : List T6} {m r g : Int} (h : r = -1 ∨ tauB l = false) : susL l m r g = [] ∧ rowU l m r g = [] := by
  have e : rowU l m r g = [] := if_pos (by rcases h with h | h <;> simp [h])
  exact ⟨by unfold susL; rw [e, srtC_nil]; rfl, e⟩
theorem dirA_tau {l : List T6} (hS : setB l = true) (h : tauB l = true) (m : Int) : (dirA l m).length ≤ 32 := by
  unfold tauB at h
  rw [Bool.and_eq_true, decide_eq_true_eq] at h
  have k : ∀ i : Nat, i ≤ l.length → ((dirS l m i).length : Int) = sumC l i := fun i => by
    induction i with
    | zero => intro _; rfl
    | succ i ih =>
      intro hi
      have := ih (by omega)
      have q := mkB_len hS (show i < l.length by omega)
      simp only [dirS, sumC, List.length_append, dirB_len]; omega
  have := k l.length (Nat.le_refl _)
  unfold dirA; omega
open Go.RowKit
open Go.RowKit
/-- What is known of a plan: each cell is not known, or as it is. -/
def BelP (ks xs : List Int) : Prop := ks.length = xs.length ∧ ∀ i : Nat, gi ks i = 0 ∨ gi ks i = gi xs i
theorem bel_free {W H x y : Int} {ks xs : List Int} (h : BelP ks xs) (k : atI W H ks x y = 1) : atI W H xs x y = 1 := by
  unfold atI at *
  split at k
  · rename_i hi
    rw [if_pos hi]
    rcases h.2 (y * W + x).toNat with q | q <;> omega
  · omega
theorem bel_vld {W H : Int} {ks xs : List Int} (h : BelP ks xs) (v : vldB W H xs = true) : vldB W H ks = true := by
  obtain ⟨a, b, c, d, e, f⟩ := vld_iff.1 v
  refine vld_iff.2 ⟨a, b, c, d, by rw [h.1]; exact e, fun v hv => ?_⟩
  obtain ⟨j, hj, rfl⟩ := List.mem_iff_getElem.1 hv
  rw [← gi_eq hj]
  rcases h.2 j with q | q
  · omega
  · rw [q]
    have hj' : j < xs.length := by rw [← h.1]; exact hj
    rw [gi_eq hj']; exact f _ (List.getElem_mem _)
theorem gi_setL {xs : List Int} {i j : Nat} {v : Int} (h : i < xs.length) : gi (xs.set i v) j = if i = j then v else gi xs j := by
  by_cases e : i = j
  · subst e; simp [gi, List.getD_eq_getElem?_getD, h]
  · simp [gi, List.getD_eq_getElem?_getD, e]
/-- A cell's place. -/
def cidx (W : Int) (c : Int × Int) : Nat := (c.2 * W + c.1).toNat
theorem cidx_lt {W H : Int} {xs : List Int} {c : Int × Int} (hl : (xs.length : Int) = W * H) (h : inB W H c.1 c.2 = true) : cidx W c < xs.length := by
  obtain ⟨h1, h2, h3, h4⟩ := inB_iff.1 h
  have k := Int.mul_le_mul_of_nonneg_right (show c.2 + 1 ≤ H by omega) (show 0 ≤ W by omega)
  have e : (c.2 + 1) * W = c.2 * W + W := by grind
  have e2 : H * W = W * H := Int.mul_comm _ _
  have k0 := Int.mul_nonneg h3 (show 0 ≤ W by omega)
  unfold cidx; omega
/-- What is learned of the free cells: nothing, if one of them is a wall. -/
def lrnF (W H : Int) : List (Int × Int) → List Int → Option (List Int)
  | [], o => some o
  | c :: l, o => if atI W H o c.1 c.2 = 2 then none else lrnF W H l (o.set (cidx W c) 1)
/-- What is learned of the echoes' suspects. -/
def lrnW (W H : Int) : List (List (Int × Int)) → List Int → Option (List Int)
  | [], o => some o
  | s :: l, o => match s.filter fun c => !(atI W H o c.1 c.2 == 1) with
    | [] => none
    | [c] => lrnW W H l (if inB W H c.1 c.2 = true then o.set (cidx W c) 2 else o)
    | _ => lrnW W H l o
/-- Learning keeps what is known. -/
def Keeps (p o : List Int) : Prop := o.length = p.length ∧ (∀ v ∈ o, v ≤ 2) ∧ ∀ i : Nat, i < p.length → ¬ gi p i = 0 → gi o i = gi p i
theorem set_le {o : List Int} {i : Nat} {v : Int} (h : ∀ x ∈ o, x ≤ 2) (hv : v ≤ 2) : ∀ x ∈ o.set i v, x ≤ 2 := fun x hx => by
  rcases List.mem_or_eq_of_mem_set hx with k | k
  · exact h x k
  · rw [k]; exact hv
theorem at_in {W H : Int} {xs : List Int} {c : Int × Int} (h : inB W H c.1 c.2 = true) : atI W H xs c.1 c.2 = gi xs (cidx W c) := if_pos h
theorem lrnF_keeps {W H : Int} {p : List Int} (hl : (p.length : Int) = W * H) (hp : ∀ i, i < p.length → 0 ≤ gi p i ∧ gi p i ≤ 2) : ∀ {l : List (Int × Int)} {o q : List Int}, (∀ c ∈ l, inB W H c.1 c.2 = true) → Keeps p o → lrnF W H l o = some q → Keeps p q
  | [], o, q, _, hk, h => by unfold lrnF at h; cases h; exact hk
  | c :: l, o, q, hc, hk, h => by
    unfold lrnF at h
    split at h
    · cases h
    · rename_i hw
      have hin := hc c (List.mem_cons_self ..)
      have hlt := cidx_lt hl hin
      rw [at_in hin] at hw
      refine lrnF_keeps hl hp (fun c hc' => hc c (List.mem_cons_of_mem _ hc')) ⟨by rw [List.length_set]; exact hk.1, set_le hk.2.1 (by decide), fun i hi h0 => ?_⟩ h
      rw [gi_setL (by rw [hk.1]; exact hlt)]
      split
      · rename_i e
        subst e
        have := hk.2.2 _ hi h0
        have := hp _ hi
        omega
      · exact hk.2.2 i hi h0
theorem lrnW_keeps {W H : Int} {p : List Int} (hl : (p.length : Int) = W * H) (hp : ∀ i, i < p.length → 0 ≤ gi p i ∧ gi p i ≤ 2) : ∀ {l : List (List (Int × Int))} {o q : List Int}, Keeps p o → lrnW W H l o = some q → Keeps p q
  | [], o, q, hk, h => by unfold lrnW at h; cases h; exact hk
  | s :: l, o, q, hk, h => by
    unfold lrnW at h
    split at h
    · cases h
    · rename_i c hs
      refine lrnW_keeps hl hp ?_ h
      split
      · rename_i hin
        have hlt := cidx_lt hl hin
        have hm : c ∈ s.filter fun c => !(atI W H o c.1 c.2 == 1) := by rw [hs]; exact List.mem_cons_self ..
        have hn := (List.mem_filter.1 hm).2
        rw [at_in hin] at hn
        refine ⟨by rw [List.length_set]; exact hk.1, set_le hk.2.1 (by decide), fun i hi h0 => ?_⟩
        rw [gi_setL (by rw [hk.1]; exact hlt)]
        split
        · rename_i e
          subst e
          have h1 := hk.2.2 _ hi h0
          have h2 := hp _ hi
          have h3 : ¬ gi o (cidx W c) = 1 := by simpa using hn
          omega
        · exact hk.2.2 i hi h0
      · exact hk
    · exact lrnW_keeps hl hp hk h
/-- Learning stays true of a building: its free cells are free there, and each echo's suspects have a wall of it. -/
theorem lrnF_true {W H : Int} {t : List Int} (hl : (t.length : Int) = W * H) : ∀ {l : List (Int × Int)} {o : List Int}, (∀ c ∈ l, inB W H c.1 c.2 = true ∧ atI W H t c.1 c.2 = 1) → BelP o t → ∃ q, lrnF W H l o = some q ∧ BelP q t
  | [], o, _, hk => ⟨o, rfl, hk⟩
  | c :: l, o, hc, hk => by
    obtain ⟨hin, ht⟩ := hc c (List.mem_cons_self ..)
    have hlt := cidx_lt hl hin
    rw [at_in hin] at ht
    unfold lrnF
    rw [at_in hin, if_neg (by rcases hk.2 (cidx W c) with q | q <;> omega)]
    refine lrnF_true hl (fun c hc' => hc c (List.mem_cons_of_mem _ hc')) ⟨by rw [List.length_set]; exact hk.1, fun i => ?_⟩
    rw [gi_setL (by rw [hk.1]; exact hlt)]
    split
    · rename_i e; subst e; exact .inr ht.symm
    · exact hk.2 i
theorem lrnW_true {W H : Int} {t : List Int} (hl : (t.length : Int) = W * H) : ∀ {l : List (List (Int × Int))} {o : List Int}, (∀ s ∈ l, ∃ c ∈ s, atI W H t c.1 c.2 = 2) → BelP o t → ∃ q, lrnW W H l o = some q ∧ BelP q t
  | [], o, _, hk => ⟨o, rfl, hk⟩
  | s :: l, o, hc, hk => by
    obtain ⟨w, hw, h2⟩ := hc s (List.mem_cons_self ..)
    have ih := fun {o} hk => lrnW_true hl (l := l) (o := o) (fun s hs => hc s (List.mem_cons_of_mem _ hs)) hk
    have hm : w ∈ s.filter fun c => !(atI W H o c.1 c.2 == 1) := List.mem_filter.2 ⟨hw, by
      have : ¬ atI W H o w.1 w.2 = 1 := fun k => by have := bel_free hk k; omega
      simpa using this⟩
    unfold lrnW
    split
    · rename_i hs; rw [hs] at hm; cases hm
    · rename_i c hs
      rw [hs, List.mem_singleton] at hm
      subst hm
      refine ih ?_
      split
      · rename_i hin
        have hlt := cidx_lt hl hin
        rw [at_in hin] at h2
        refine ⟨by rw [List.length_set]; exact hk.1, fun i => ?_⟩
        rw [gi_setL (by rw [hk.1]; exact hlt)]
        split
        · rename_i e; subst e; exact .inr h2.symm
        · exact hk.2 i
      · exact hk
    · exact ih hk
/-- The echoes' suspects. -/
def echL (l : List T6) (sc : List (Int × Int)) (g : Int) : List (List (Int × Int)) := (sc.filter fun e => !(e.2 == -1)).map fun e => susL l e.1 e.2 g
/-- What is learned, if the arguments are valid. -/
def lnO (W Hh : Int) (xs : List Int) (l : List T6) (sc : List (Int × Int)) (g : Int) : Option (List Int) := if tauB l = true then (lrnF W Hh (allL W Hh l sc g) xs).bind (lrnW W Hh (echL l sc g)) else some xs
def lnE (W Hh : Int) (xs : List Int) (l : List T6) (sc : List (Int × Int)) (g : Int) : Int := if rgtA W Hh xs l sc g = true then (match lnO W Hh xs l sc g with | none => 11 | some _ => 0) else 1
def lnX (W Hh : Int) (xs : List Int) (l : List T6) (sc : List (Int × Int)) (g : Int) : List Int := if rgtA W Hh xs l sc g = true then (lnO W Hh xs l sc g).getD [] else []
def lnZ (W Hh : Int) (xs : List Int) (l : List T6) (sc : List (Int × Int)) (g : Int) (n : Int) : Int := if lnE W Hh xs l sc g = 0 then n else 0
section
variable {W Hh : Int} {xs : List Int} {l : List T6} {sc : List (Int × Int)} {g : Int}
theorem ln_1 (h : rgtA W Hh xs l sc g = false) : lnE W Hh xs l sc g = 1 ∧ lnX W Hh xs l sc g = [] ∧ lnZ W Hh xs l sc g W = 0 ∧ lnZ W Hh xs l sc g Hh = 0 := by
  have e : lnE W Hh xs l sc g = 1 := if_neg (by rw [h]; decide)
  exact ⟨e, if_neg (by rw [h]; decide), if_neg (by rw [e]; decide), if_neg (by rw [e]; decide)⟩
theorem ln_11 (h : rgtA W Hh xs l sc g = true) (k : lnO W Hh xs l sc g = none) : lnE W Hh xs l sc g = 11 ∧ lnX W Hh xs l sc g = [] ∧ lnZ W Hh xs l sc g W = 0 ∧ lnZ W Hh xs l sc g Hh = 0 := by
  have e : lnE W Hh xs l sc g = 11 := by unfold lnE; rw [if_pos h, k]
  exact ⟨e, by unfold lnX; rw [if_pos h, k]; rfl, if_neg (by rw [e]; decide), if_neg (by rw [e]; decide)⟩
theorem ln_0 {o : List Int} (h : rgtA W Hh xs l sc g = true) (k : lnO W Hh xs l sc g = some o) : lnE W Hh xs l sc g = 0 ∧ lnX W Hh xs l sc g = o ∧ lnZ W Hh xs l sc g W = W ∧ lnZ W Hh xs l sc g Hh = Hh := by
  have e : lnE W Hh xs l sc g = 0 := by unfold lnE; rw [if_pos h, k]
  exact ⟨e, by unfold lnX; rw [if_pos h, k]; rfl, if_pos e, if_pos e⟩
theorem prS_in : ∀ {i : Nat} {c : Int × Int}, c ∈ prS W Hh l sc g i → inB W Hh c.1 c.2 = true
  | 0, _, h => by cases h
  | i + 1, c, h => by
    unfold prS at h
    rcases List.mem_append.1 h with h | h
    · exact prS_in h
    · unfold prvL at h
      split at h
      · cases h
      · have k := (List.mem_filter.1 h).2
        unfold okcB at k
        rw [Bool.and_eq_true, Bool.and_eq_true, btw_iff, btw_iff] at k
        exact inB_iff.2 ⟨by omega, by omega, by omega, by omega⟩
theorem allL_in {c : Int × Int} (h : c ∈ allL W Hh l sc g) : inB W Hh c.1 c.2 = true := by
  unfold allL at h
  have h := (srtC_perm _).mem_iff.1 (cptC_mem.1 h)
  unfold rowA at h
  split at h
  · exact prS_in h
  · cases h
/-- The cells that are set free by the first of a list. -/
def lfS (W : Int) (A : List (Int × Int)) (xs : List Int) : Nat → List Int
  | 0 => xs
  | i + 1 => (lfS W A xs i).set ((g2 A i * W) + g1 A i).toNat 1
theorem vld_set {o : List Int} {i : Nat} {v : Int} (h : vldB W Hh o = true) (hv : v ≤ 2) : vldB W Hh (o.set i v) = true := by
  have q := vld_iff.1 h
  exact vld_iff.2 ⟨q.w0, q.w1, q.h0, q.h1, by rw [List.length_set]; exact q.len, set_le q.le hv⟩
theorem lfS_vld {A : List (Int × Int)} (h : vldB W Hh xs = true) : ∀ i : Nat, vldB W Hh (lfS W A xs i) = true
  | 0 => h
  | i + 1 => vld_set (lfS_vld h i) (by decide)
theorem lrnF_step {A : List (Int × Int)} {o : List Int} {i : Nat} (hi : i < A.length) (hA : ∀ c ∈ A, inB W Hh c.1 c.2 = true) : lrnF W Hh (A.drop i) o = if gi o ((g2 A i * W) + g1 A i).toNat = 2 then none else lrnF W Hh (A.drop (i + 1)) (o.set ((g2 A i * W) + g1 A i).toNat 1) := by
  rw [List.drop_eq_getElem_cons hi]
  have h := hA _ (List.getElem_mem hi)
  have e : cidx W A[i] = ((g2 A i * W) + g1 A i).toNat := by rw [← pr_eq hi]; rfl
  conv => lhs; unfold lrnF
  rw [at_in h, e]
theorem gin_mem {A : List (Int × Int)} {i : Nat} (hi : i < A.length) (hA : ∀ c ∈ A, inB W Hh c.1 c.2 = true) : inB W Hh (g1 A i) (g2 A i) = true := by
  have h := hA _ (List.getElem_mem hi)
  rw [← pr_eq hi] at h; exact h
/-- What an echo makes of a plan, by the suspects that are not free. -/
def frP (W Hh : Int) (o : List Int) (c : Int × Int) : Bool := atI W Hh o c.1 c.2 == 1
def lwU (W Hh : Int) (o : List Int) (d : List (Int × Int)) : List Int := if d.length = 1 ∧ btw (g1 d 0) 0 (W - 1) = true ∧ btw (g2 d 0) 0 (Hh - 1) = true then o.set ((g2 d 0 * W) + g1 d 0).toNat 2 else o
def lwS (W Hh : Int) (l : List T6) (sc : List (Int × Int)) (g : Int) (o : List Int) : Nat → List Int
  | 0 => o
  | i + 1 => if g2 sc i = -1 then lwS W Hh l sc g o i else lwU W Hh (lwS W Hh l sc g o i) (delL (frP W Hh (lwS W Hh l sc g o i)) (susL l (g1 sc i) (g2 sc i) g))
theorem lwU_vld {o : List Int} {d : List (Int × Int)} (h : vldB W Hh o = true) : vldB W Hh (lwU W Hh o d) = true := by
  unfold lwU; split
  · exact vld_set h (by decide)
  · exact h
theorem lwS_vld {o : List Int} (h : vldB W Hh o = true) : ∀ i : Nat, vldB W Hh (lwS W Hh l sc g o i) = true
  | 0 => h
  | i + 1 => by
    unfold lwS; split
    · exact lwS_vld h i
    · exact lwU_vld (lwS_vld h i)
theorem lrnW_step {o : List Int} {i : Nat} (hi : i < sc.length) : lrnW W Hh (echL l (sc.drop i) g) o = if g2 sc i = -1 then lrnW W Hh (echL l (sc.drop (i + 1)) g) o else if (delL (frP W Hh o) (susL l (g1 sc i) (g2 sc i) g)).length = 0 then none else lrnW W Hh (echL l (sc.drop (i + 1)) g) (lwU W Hh o (delL (frP W Hh o) (susL l (g1 sc i) (g2 sc i) g))) := by
  have e : sc[i] = (g1 sc i, g2 sc i) := (pr_eq hi).symm
  unfold echL
  rw [List.drop_eq_getElem_cons hi, List.filter_cons, e]
  by_cases h : g2 sc i = -1
  · rw [if_pos h, if_neg (by simp [h])]
  · rw [if_neg h, if_pos (by simpa using h), List.map_cons]
    conv => lhs; unfold lrnW
    have hd : ∀ s : List (Int × Int), (s.filter fun c => !(atI W Hh o c.1 c.2 == 1)) = delL (frP W Hh o) s := fun _ => rfl
    simp only [hd]
    generalize delL (frP W Hh o) (susL l (g1 sc i) (g2 sc i) g) = d
    match d with
    | [] => simp
    | [c] =>
      simp only [List.length_cons, List.length_nil]
      unfold lwU
      have q : (btw (g1 [c] 0) 0 (W - 1) = true ∧ btw (g2 [c] 0) 0 (Hh - 1) = true) ↔ inB W Hh c.1 c.2 = true := by
        rw [btw_iff, btw_iff, inB_iff]; show ((0 ≤ c.1 ∧ c.1 ≤ W - 1) ∧ 0 ≤ c.2 ∧ c.2 ≤ Hh - 1) ↔ _; omega
      simp only [List.length_cons, List.length_nil, Nat.zero_add, true_and, q, Nat.one_ne_zero, if_false]
      rfl
    | a :: b :: t => simp [lwU]
theorem lwS_skip {o : List Int} {i : Nat} (h : g2 sc i = -1) : lwS W Hh l sc g o (i + 1) = lwS W Hh l sc g o i := by simp only [lwS]; rw [if_pos h]
theorem lwS_same {o : List Int} {i : Nat} (h : ¬ g2 sc i = -1) (k : ¬ ((delL (frP W Hh (lwS W Hh l sc g o i)) (susL l (g1 sc i) (g2 sc i) g)).length = 1 ∧ btw (g1 (delL (frP W Hh (lwS W Hh l sc g o i)) (susL l (g1 sc i) (g2 sc i) g)) 0) 0 (W - 1) = true ∧ btw (g2 (delL (frP W Hh (lwS W Hh l sc g o i)) (susL l (g1 sc i) (g2 sc i) g)) 0) 0 (Hh - 1) = true)) : lwS W Hh l sc g o (i + 1) = lwS W Hh l sc g o i := by simp only [lwS]; rw [if_neg h]; exact if_neg k
theorem lwS_set {o : List Int} {i : Nat} (h : ¬ g2 sc i = -1) (k : (delL (frP W Hh (lwS W Hh l sc g o i)) (susL l (g1 sc i) (g2 sc i) g)).length = 1 ∧ btw (g1 (delL (frP W Hh (lwS W Hh l sc g o i)) (susL l (g1 sc i) (g2 sc i) g)) 0) 0 (W - 1) = true ∧ btw (g2 (delL (frP W Hh (lwS W Hh l sc g o i)) (susL l (g1 sc i) (g2 sc i) g)) 0) 0 (Hh - 1) = true) : lwS W Hh l sc g o (i + 1) = (lwS W Hh l sc g o i).set ((g2 (delL (frP W Hh (lwS W Hh l sc g o i)) (susL l (g1 sc i) (g2 sc i) g)) 0 * W) + g1 (delL (frP W Hh (lwS W Hh l sc g o i)) (susL l (g1 sc i) (g2 sc i) g)) 0).toNat 2 := by simp only [lwS]; rw [if_neg h]; exact if_pos k
/-- One round of the second part. -/
theorem lwS_next {o : List Int} {i : Nat} (hi : i < sc.length) (h : g2 sc i = -1 ∨ ¬ (delL (frP W Hh (lwS W Hh l sc g o i)) (susL l (g1 sc i) (g2 sc i) g)).length = 0) : lrnW W Hh (echL l (sc.drop i) g) (lwS W Hh l sc g o i) = lrnW W Hh (echL l (sc.drop (i + 1)) g) (lwS W Hh l sc g o (i + 1)) := by
  rw [lrnW_step hi]
  simp only [lwS]
  by_cases k : g2 sc i = -1
  · rw [if_pos k, if_pos k]
  · rw [if_neg k, if_neg k, if_neg (by rcases h with h | h; exact absurd h k; exact h)]
theorem lwS_bad {o : List Int} {i : Nat} (hi : i < sc.length) (h : ¬ g2 sc i = -1) (k : (delL (frP W Hh (lwS W Hh l sc g o i)) (susL l (g1 sc i) (g2 sc i) g)).length = 0) : lrnW W Hh (echL l (sc.drop i) g) (lwS W Hh l sc g o i) = none := by
  rw [lrnW_step hi, if_neg h, if_pos k]
theorem vld_pos {o : List Int} (h : vldB W Hh o = true) : 0 < o.length := by
  have q := vld_iff.1 h
  have := (q.idx (show inB W Hh 0 0 = true from inB_iff.2 (by have := q.w0; have := q.h0; omega))).2.2.2.2.1
  omega
theorem pad_len {p : Int × Int → Bool} {l : List (Int × Int)} : (padL l.length (delL p l)).length = l.length := by
  have := delL_le (p := p) (l := l)
  unfold padL; simp; omega
theorem pad_g1 {n : Nat} {d : List (Int × Int)} (h : ¬ d.length = 0) : g1 (padL n d) 0 = g1 d 0 := by
  match d, h with
  | a :: t, _ => rfl
theorem pad_g2 {n : Nat} {d : List (Int × Int)} (h : ¬ d.length = 0) : g2 (padL n d) 0 = g2 d 0 := by
  match d, h with
  | a :: t, _ => rfl
theorem susL_len {m r : Int} (hS : setB l = true) : (susL l m r g).length ≤ 7225 * 4096 := by
  have h1 := swS_len (dirA l m) r g (dirA l m).length
  have h2 := dirA_len hS m
  have h3 : (rowU l m r g).length ≤ 7225 * 4096 := by
    unfold rowU; split
    · simp
    · omega
  unfold susL
  have := cpt_len (srtC (rowU l m r g)); rw [srtC_len] at this; omega
theorem allL_len : (allL W Hh l sc g).length ≤ 7225 * sc.length := by
  have h1 := prS_len W Hh l sc g sc.length
  have h3 : (rowA W Hh l sc g).length ≤ 7225 * sc.length := by
    unfold rowA; split
    · exact h1
    · simp
  unfold allL
  have := cpt_len (srtC (rowA W Hh l sc g)); rw [srtC_len] at this; omega
end
set_option linter.unusedSimpArgs false
set_option linter.unusedVariables false
open Go.RowKit
section
variable {W Hh : Int} {xs : List Int} {sc : List (Int × Int)}
end
set_option linter.unusedSimpArgs false
set_option linter.unusedVariables false
open Go.RowKit
set_option maxHeartbeats 4000000
set_option maxRecDepth 100000
open Go.RowKit
theorem arep_z {k : IntKind} {n : Nat} : (List.range n).map (fun j => ([.int k 0] : List AV).getD (j % 1) .any) = ints k (List.replicate n 0) := by
  rw [← ints_rep]
  refine List.ext_getElem (by simp) fun i h1 h2 => ?_
  simp [Nat.mod_one]
def lisS (f : Int) (n i : Nat) : List Int := mrkL f i ++ List.replicate (n - i) 0
theorem lisS_len {f : Int} {n i : Nat} (h : i ≤ n) : (lisS f n i).length = n := by unfold lisS; rw [List.length_append, mrkL_len, List.length_replicate]; omega
theorem lisS_set {f : Int} {n i : Nat} (h : i < n) : (lisS f n i).set i ((f + (i : Int)) % 256) = lisS f n (i + 1) := by
  unfold lisS
  obtain ⟨k, hk⟩ : ∃ k, n - i = k + 1 := ⟨n - i - 1, by omega⟩
  rw [hk, List.replicate_succ, List.set_append_right _ _ (by rw [mrkL_len]; exact Nat.le_refl _), mrkL_len, Nat.sub_self, List.set_cons_zero, mrkL_succ, List.append_assoc, show n - (i + 1) = k by omega]
  rfl
theorem lisS_0 (f : Int) (n : Nat) : lisS f n 0 = List.replicate n 0 := rfl
theorem lisS_n (f : Int) (n : Nat) : lisS f n n = mrkL f n := by unfold lisS; rw [Nat.sub_self]; simp
theorem hlist_c (H : AHeap) (f : Int) (c : Int) (ha : arcB f c = true) : ACalls Tryz.prog 113 [.agg [.int .i64 f, .int .i64 c]] H (fun v H' => v = .sl (some (H.length, 0)) ((mrkL f c.toNat).length) none ∧ H' = H ++ [.cells true 1 (ints .i64 (mrkL f c.toNat))]) := by
  have ka := arcB_iff.1 ha
  have harep := arep_z (k := .i64) (n := c.toNat)
  have hrt : ((c.toNat : Nat) : Int) = c := by omega
  refine AcT true Tryz.func113 ?_; intro hbel Q hQ
  have g'13 := (jn @ha (jn @harep @hrt))
  refine runTf g'13 ?_
  refine call_v (by kernel_rfl) (varc_c _ f c) ?_
  have g'14 := (jn @ints_rep (jn @List.length_replicate.{0} g'13))
  refine runTf g'14 ?_
  refine go_loop try_mixed (by kernel_rfl) (fun k F Hx => ∃ i : Nat, i + k = c.toNat ∧ F = [(1, .ptr (some (H.length, 0))), (3, .sl (some (H.length + 1, 0)) ((lisS f c.toNat i).length) none), (12, .int .i64 ((c.toNat : Nat) : Int)), (13, .int .i64 ((i : Nat) : Int))] ∧ Hx = H ++ [.cells true 0 [.int .i64 f, .int .i64 c], .cells true 1 (ints .i64 (lisS f c.toNat i))]) (c.toNat) ?_ ?_
  · refine ⟨_, _, _, ⟨0, by omega, rfl, rfl⟩, Abs.byG hbel [] rfl [0, 1] (by decide) ?_⟩
    exact absRf (jn @lisS_0 (jn @List.length_replicate.{0} @hrt))
  · rintro k0 F Hx ⟨i, hm0, rfl, rfl⟩ J0 hJ0
    have hln := lisS_len (f := f) (n := c.toNat) (i := i) (by omega)
    have g'15 := (jn @ints_len (jn @ints_ones g'14))
    refine runTf g'15 ?_
    refine cond_split (fun h1 => ?_) (fun h1 => ?_)
    · have h1d := bsT h1
      have hln2 := lisS_len (f := f) (n := c.toNat) (i := i + 1) (by omega)
      have hst : (lisS f c.toNat i).set i ((((f + ((i : Nat) : Int)) % 256).toNat : Nat) : Int) = lisS f c.toNat (i + 1) := by rw [show ((((f + ((i : Nat) : Int)) % 256).toNat : Nat) : Int) = (f + ((i : Nat) : Int)) % 256 by omega]; exact lisS_set (by omega)
      have g'16 := (jn @h1 (jn @h1d g'15))
      refine runTf g'16 ?_
      refine call_v (by kernel_rfl) (mark_c _ (f + ((i : Nat) : Int))) ?_
      have g'17 := (jn @ints_set1 (jn @List.length_set.{0} g'16))
      refine runTf g'17 ?_
      refine hJ0 _ _ ⟨k0 - 1, by omega, _, _, _, ⟨i + 1, by omega, rfl, rfl⟩, Abs.byG hbel [] rfl [0, 1] (by decide) ?_⟩
      exact absRf (jn @hst (jn @List.length_set.{0} (jn @hln (jn @hln2 @hrt))))
    · have h1d := bsT h1
      obtain rfl : i = c.toNat := by omega
      have g'18 := (jn @h1 (jn @h1d g'15))
      refine runTf g'18 ?_
      refine hQ _ _ (end_byG (.inl rfl) hbel (x1 := .sl (some (H.length + 1, 0)) ((lisS f c.toNat c.toNat).length) none) (l2 := [.cells true 1 (ints .i64 (lisS f c.toNat c.toNat))]) (.sl (some (H.length, 0)) ((lisS f c.toNat c.toNat).length) none) (resT Tryz.results113) [] rfl [1] (by decide) ⟨by rw [lisS_n], by rw [lisS_n]⟩ ?_)
      exact absW
theorem rect_c (H : AHeap) (x0 : Int) (y0 : Int) (x1 : Int) (y1 : Int) (f : Int) (c : Int) (ha : bxB x0 y0 x1 y1 f c = true) : ACalls Tryz.prog 115 [.agg [.int .i64 x0, .int .i64 y0, .int .i64 x1, .int .i64 y1, .int .i64 f, .int .i64 c]] H (fun v H' => v = .agg [.int .i64 x0, .int .i64 y0, .int .i64 x1, .int .i64 y1] ∧ H' = H) := by
  refine AcT true Tryz.func115 ?_; intro hbel Q hQ
  have g'19 := @ha
  refine runTf g'19 ?_
  refine call_v (by kernel_rfl) (bxv_c _ x0 y0 x1 y1 f c) ?_
  refine runTf g'19 ?_
  exact hQ _ _ (end_plain (.inl rfl) hbel (x := .agg [.int .i64 x0, .int .i64 y0, .int .i64 x1, .int .i64 y1]) (resT Tryz.results115) rfl ⟨rfl, rfl⟩)
open Go.RowKit
set_option maxRecDepth 100000 in
theorem idx_r (H : AHeap) (s : AV) (l : List T9) (hs : Sl H 9 s l.length (r9 l)) (hl : l.length ≤ 1000000000) (g : FuncId) (caps : List AV) (hok : okFn Tryz.prog g = true) (hc : AV.bels H.length caps = true) (p : T9 → Bool) (hf : ∀ j, j < l.length → ACalls Tryz.prog g (.agg [.int .i64 (g91 l j), .int .i64 (g92 l j), .int .i64 (g93 l j), .int .i64 (g94 l j), .int .i64 (g95 l j), .int .i64 (g96 l j), .int .i64 (g97 l j), .int .i64 (g98 l j), .int .i64 (g99 l j)] :: caps) H (fun v H' => v = .bool (p (g91 l j, g92 l j, g93 l j, g94 l j, g95 l j, g96 l j, g97 l j, g98 l j, g99 l j)) ∧ H' = H)) :
    ACalls Tryz.prog 315 [s, .fn g caps] H (fun v H' => v = .int .i64 (idxI p l) ∧ H' = H) := by
  obtain ⟨b, own, cap, rfl, hb⟩ := hs
  have hbl := getElem?_lt hb
  have hmv := fun m sel => mvs_caps (n := H.length) (m := m) (sel := sel) hc
  (refine ACalls_run try_mixed Tryz.func315 true _ rfl (Nat.le_of_ble_eq_true (by kernel_rfl)) (by kernel_rfl) ?_; intro hbel Q hQ hQ' c hc; unfold Tryz.f315 at hc; simp only [Option.some.injEq] at hc; subst hc; clear hQ')
  simp -implicitDefEqProofs (disch := omega) only [simprocAttr, amset, tyset, Function.comp_apply, one1, lenV, calleeOf, lateOk, belowV, aop, AV.ofValue, AV.ofCell, AV.cells, AV.flat, AV.one, arep, aBin, aAppend, aConv]
  refine go_loop try_mixed (by kernel_rfl) (fun k F Hx => ∃ i : Nat, i + k = l.length ∧ (l.take i).any p = false ∧ F = [(0, .sl (some (b, 0)) l.length none), (1, .fn g caps), (7, .int .i64 l.length), (8, .int .i64 (i : Nat))] ∧ Hx = H) l.length ?_ ?_
  · refine ⟨_, _, _, ⟨0, by omega, rfl, rfl, rfl⟩, Abs.by0 hbel ?_⟩
    exact absWf @hmv
  · rintro k F Hx ⟨i, hik, ht, rfl, rfl⟩ J hJ
    by_cases hi : i < l.length
    · have hii : (i : Int) < (l.length : Int) := by omega
      have q1 := r9_load hi
      have hg := g9_eq hi
      simp -implicitDefEqProofs (disch := omega) only [hii, hb, q1, r9_len, r9_one, simprocAttr, amset, tyset, Function.comp_apply, one1, lenV, calleeOf, lateOk, belowV, aop, AV.ofValue, AV.ofCell, AV.cells, AV.flat, AV.one, arep, aBin, aAppend, aConv]
      iterate 2 refine And.intro (by omega) ?_
      refine call_v hok (hf i hi) ?_
      have hst := any_step (p := p) hi
      rw [ht, Bool.false_or, ← hg] at hst
      cases h1 : p (g91 l i, g92 l i, g93 l i, g94 l i, g95 l i, g96 l i, g97 l i, g98 l i, g99 l i)
      · rw [h1] at hst
        simp -implicitDefEqProofs (disch := omega) only [h1, simprocAttr, amset, tyset, Function.comp_apply, one1, lenV, calleeOf, lateOk, belowV, aop, AV.ofValue, AV.ofCell, AV.cells, AV.flat, AV.one, arep, aBin, aAppend, aConv]
        refine hJ _ _ ⟨k - 1, by omega, _, _, _, ⟨i + 1, by omega, hst, rfl, rfl⟩, Abs.by0 hbel ?_⟩
        exact absWf @hmv
      · simp -implicitDefEqProofs (disch := omega) only [h1, simprocAttr, amset, tyset, Function.comp_apply, one1, lenV, calleeOf, lateOk, belowV, aop, AV.ofValue, AV.ofCell, AV.cells, AV.flat, AV.one, arep, aBin, aAppend, aConv]
        exact hQ _ _ (end_plain0 (.inl rfl) hbel (x := .int .i64 (i : Nat)) (resT Tryz.results315) rfl ⟨by rw [idxI_at hi ht (by rw [← hg]; exact h1)], rfl⟩)
    · have hnn : ¬ ((i : Int) < (l.length : Int)) := by omega
      simp -implicitDefEqProofs (disch := omega) only [hnn, simprocAttr, amset, tyset, Function.comp_apply, one1, lenV, calleeOf, lateOk, belowV, aop, AV.ofValue, AV.ofCell, AV.cells, AV.flat, AV.one, arep, aBin, aAppend, aConv]
      rw [List.take_of_length_le (by omega)] at ht
      exact hQ _ _ (end_plain0 (.inl rfl) hbel (x := .int .i64 (-1)) (resT Tryz.results315) rfl ⟨by rw [idxI_none ht], rfl⟩)
theorem has_r (H : AHeap) (s : AV) (l : List T9) (hs : Sl H 9 s l.length (r9 l)) (hl : l.length ≤ 1000000000) (g : FuncId) (caps : List AV) (hok : okFn Tryz.prog g = true) (hc : AV.bels H.length caps = true) (p : T9 → Bool) (hf : ∀ j, j < l.length → ACalls Tryz.prog g (.agg [.int .i64 (g91 l j), .int .i64 (g92 l j), .int .i64 (g93 l j), .int .i64 (g94 l j), .int .i64 (g95 l j), .int .i64 (g96 l j), .int .i64 (g97 l j), .int .i64 (g98 l j), .int .i64 (g99 l j)] :: caps) H (fun v H' => v = .bool (p (g91 l j, g92 l j, g93 l j, g94 l j, g95 l j, g96 l j, g97 l j, g98 l j, g99 l j)) ∧ H' = H)) :
    ACalls Tryz.prog 252 [s, .fn g caps] H (fun v H' => v = .bool (l.any p) ∧ H' = H) := by
  have key := idx_r H s l hs hl g caps hok hc p hf
  obtain ⟨b, own, cap, rfl, hb⟩ := hs
  have hbl := getElem?_lt hb
  (refine ACalls_run try_mixed Tryz.func252 true _ rfl (Nat.le_of_ble_eq_true (by kernel_rfl)) (by kernel_rfl) ?_; intro hbel Q hQ hQ' c hc; unfold Tryz.f252 at hc; simp only [Option.some.injEq] at hc; subst hc; clear hQ')
  simp -implicitDefEqProofs (disch := omega) only [simprocAttr, amset, tyset, Function.comp_apply, one1, lenV, calleeOf, lateOk, belowV, aop, AV.ofValue, AV.ofCell, AV.cells, AV.flat, AV.one, arep, aBin, aAppend, aConv]
  refine call_v (by kernel_rfl) key ?_
  simp -implicitDefEqProofs (disch := omega) only [simprocAttr, amset, tyset, Function.comp_apply, one1, lenV, calleeOf, lateOk, belowV, aop, AV.ofValue, AV.ofCell, AV.cells, AV.flat, AV.one, arep, aBin, aAppend, aConv]
  exact hQ _ _ (end_plain0 (.inl rfl) hbel (x := .bool (decide (0 ≤ idxI p l))) (resT Tryz.results252) rfl ⟨by rw [idxI_any], rfl⟩)
open Go.RowKit
set_option maxRecDepth 100000 in
theorem idx_m (H : AHeap) (s : AV) (l : List (Int × Int)) (hs : Sl H 2 s l.length (prs l)) (hl : l.length ≤ 1000000000) (g : FuncId) (caps : List AV) (hok : okFn Tryz.prog g = true) (hc : AV.bels H.length caps = true) (p : (Int × Int) → Bool) (hf : ∀ j, j < l.length → ACalls Tryz.prog g (.agg [.int .i64 (g1 l j), .int .i64 (g2 l j)] :: caps) H (fun v H' => v = .bool (p (g1 l j, g2 l j)) ∧ H' = H)) :
    ACalls Tryz.prog 247 [s, .fn g caps] H (fun v H' => v = .int .i64 (idxI p l) ∧ H' = H) := by
  obtain ⟨b, own, cap, rfl, hb⟩ := hs
  have hbl := getElem?_lt hb
  have hmv := fun m sel => mvs_caps (n := H.length) (m := m) (sel := sel) hc
  (refine ACalls_run try_mixed Tryz.func247 true _ rfl (Nat.le_of_ble_eq_true (by kernel_rfl)) (by kernel_rfl) ?_; intro hbel Q hQ hQ' c hc; unfold Tryz.f247 at hc; simp only [Option.some.injEq] at hc; subst hc; clear hQ')
  simp -implicitDefEqProofs (disch := omega) only [simprocAttr, amset, tyset, Function.comp_apply, one1, lenV, calleeOf, lateOk, belowV, aop, AV.ofValue, AV.ofCell, AV.cells, AV.flat, AV.one, arep, aBin, aAppend, aConv]
  refine go_loop try_mixed (by kernel_rfl) (fun k F Hx => ∃ i : Nat, i + k = l.length ∧ (l.take i).any p = false ∧ F = [(0, .sl (some (b, 0)) l.length none), (1, .fn g caps), (7, .int .i64 l.length), (8, .int .i64 (i : Nat))] ∧ Hx = H) l.length ?_ ?_
  · refine ⟨_, _, _, ⟨0, by omega, rfl, rfl, rfl⟩, Abs.by0 hbel ?_⟩
    exact absWf @hmv
  · rintro k F Hx ⟨i, hik, ht, rfl, rfl⟩ J hJ
    by_cases hi : i < l.length
    · have hii : (i : Int) < (l.length : Int) := by omega
      have q1 := prs_load hi
      have hg := pr_eq hi
      simp -implicitDefEqProofs (disch := omega) only [hii, hb, q1, prs_len, prs_one, simprocAttr, amset, tyset, Function.comp_apply, one1, lenV, calleeOf, lateOk, belowV, aop, AV.ofValue, AV.ofCell, AV.cells, AV.flat, AV.one, arep, aBin, aAppend, aConv]
      iterate 2 refine And.intro (by omega) ?_
      refine call_v hok (hf i hi) ?_
      have hst := any_step (p := p) hi
      rw [ht, Bool.false_or, ← hg] at hst
      cases h1 : p (g1 l i, g2 l i)
      · rw [h1] at hst
        simp -implicitDefEqProofs (disch := omega) only [h1, simprocAttr, amset, tyset, Function.comp_apply, one1, lenV, calleeOf, lateOk, belowV, aop, AV.ofValue, AV.ofCell, AV.cells, AV.flat, AV.one, arep, aBin, aAppend, aConv]
        refine hJ _ _ ⟨k - 1, by omega, _, _, _, ⟨i + 1, by omega, hst, rfl, rfl⟩, Abs.by0 hbel ?_⟩
        exact absWf @hmv
      · simp -implicitDefEqProofs (disch := omega) only [h1, simprocAttr, amset, tyset, Function.comp_apply, one1, lenV, calleeOf, lateOk, belowV, aop, AV.ofValue, AV.ofCell, AV.cells, AV.flat, AV.one, arep, aBin, aAppend, aConv]
        exact hQ _ _ (end_plain0 (.inl rfl) hbel (x := .int .i64 (i : Nat)) (resT Tryz.results247) rfl ⟨by rw [idxI_at hi ht (by rw [← hg]; exact h1)], rfl⟩)
    · have hnn : ¬ ((i : Int) < (l.length : Int)) := by omega
      simp -implicitDefEqProofs (disch := omega) only [hnn, simprocAttr, amset, tyset, Function.comp_apply, one1, lenV, calleeOf, lateOk, belowV, aop, AV.ofValue, AV.ofCell, AV.cells, AV.flat, AV.one, arep, aBin, aAppend, aConv]
      rw [List.take_of_length_le (by omega)] at ht
      exact hQ _ _ (end_plain0 (.inl rfl) hbel (x := .int .i64 (-1)) (resT Tryz.results247) rfl ⟨by rw [idxI_none ht], rfl⟩)
theorem has_m (H : AHeap) (s : AV) (l : List (Int × Int)) (hs : Sl H 2 s l.length (prs l)) (hl : l.length ≤ 1000000000) (g : FuncId) (caps : List AV) (hok : okFn Tryz.prog g = true) (hc : AV.bels H.length caps = true) (p : (Int × Int) → Bool) (hf : ∀ j, j < l.length → ACalls Tryz.prog g (.agg [.int .i64 (g1 l j), .int .i64 (g2 l j)] :: caps) H (fun v H' => v = .bool (p (g1 l j, g2 l j)) ∧ H' = H)) :
    ACalls Tryz.prog 166 [s, .fn g caps] H (fun v H' => v = .bool (l.any p) ∧ H' = H) := by
  have key := idx_m H s l hs hl g caps hok hc p hf
  obtain ⟨b, own, cap, rfl, hb⟩ := hs
  have hbl := getElem?_lt hb
  (refine ACalls_run try_mixed Tryz.func166 true _ rfl (Nat.le_of_ble_eq_true (by kernel_rfl)) (by kernel_rfl) ?_; intro hbel Q hQ hQ' c hc; unfold Tryz.f166 at hc; simp only [Option.some.injEq] at hc; subst hc; clear hQ')
  simp -implicitDefEqProofs (disch := omega) only [simprocAttr, amset, tyset, Function.comp_apply, one1, lenV, calleeOf, lateOk, belowV, aop, AV.ofValue, AV.ofCell, AV.cells, AV.flat, AV.one, arep, aBin, aAppend, aConv]
  refine call_v (by kernel_rfl) key ?_
  simp -implicitDefEqProofs (disch := omega) only [simprocAttr, amset, tyset, Function.comp_apply, one1, lenV, calleeOf, lateOk, belowV, aop, AV.ofValue, AV.ofCell, AV.cells, AV.flat, AV.one, arep, aBin, aAppend, aConv]
  exact hQ _ _ (end_plain0 (.inl rfl) hbel (x := .bool (decide (0 ≤ idxI p l))) (resT Tryz.results166) rfl ⟨by rw [idxI_any], rfl⟩)
open Go.RowKit
theorem kwithin_c (H : AHeap) (n : Int) (lo : Int) (hi : Int) : ACalls Tryz.prog 86 [.int .i64 n, .int .i64 lo, .int .i64 hi] H (fun v H' => v = .bool (btw n lo hi) ∧ H' = H) := by
  refine AcT true Tryz.func86 ?_; intro hbel Q hQ
  refine runT ?_
  refine gd_split (fun h1 => ?_) (fun h1 => ?_)
  · have h1d := bsT h1
    have g'1 := (jn @h1 @h1d)
    refine runTf g'1 ?_
    exact hQ _ _ (end_plain0 (.inl rfl) hbel (x := .bool (decide (n ≤ hi))) (resT Tryz.results86) rfl ⟨by simp [btw, h1d], rfl⟩)
  · have h1d := bsT h1
    have g'2 := (jn @h1 @h1d)
    refine runTf g'2 ?_
    exact hQ _ _ (end_plain0 (.inl rfl) hbel (x := .bool false) (resT Tryz.results86) rfl ⟨by simp [btw, h1d], rfl⟩)
theorem kvb_c (H : AHeap) (m : Int) (r : Int) : ACalls Tryz.prog 165 [.agg [.int .i64 m, .int .i64 r]] H (fun v H' => v = .bool (beaB m r) ∧ H' = H) := by
  refine AcT true Tryz.func165 ?_; intro hbel Q hQ
  refine runT ?_
  refine call_v (by kernel_rfl) (kwithin_c _ m 0 255) ?_
  refine runT ?_
  refine gd_split (fun h1 => ?_) (fun h1 => ?_)
  · have h1d := bsT h1
    have g'3 := (jn @h1 @h1d)
    refine runTf g'3 ?_
    refine call_v (by kernel_rfl) (kwithin_c _ r (-1) 1024) ?_
    refine runTf g'3 ?_
    exact hQ _ _ (end_plain (.inl rfl) hbel (x := .bool (btw r (-1) 1024)) (resT Tryz.results165) rfl ⟨by simp [beaB, h1d], rfl⟩)
  · have h1d := bsT h1
    have g'4 := (jn @h1 @h1d)
    refine runTf g'4 ?_
    exact hQ _ _ (end_plain (.inl rfl) hbel (x := .bool false) (resT Tryz.results165) rfl ⟨by simp [beaB, h1d], rfl⟩)
theorem kright1_c (H : AHeap) (m : Int) (r : Int) : ACalls Tryz.prog 164 [.agg [.int .i64 m, .int .i64 r]] H (fun v H' => v = .bool (!(beaE (m, r))) ∧ H' = H) := by
  refine AcT true Tryz.func164 ?_; intro hbel Q hQ
  refine runT ?_
  refine call_v (by kernel_rfl) (kvb_c _ m r) ?_
  refine runT ?_
  exact hQ _ _ (end_plain (.inl rfl) hbel (x := .bool (!(beaB m r))) (resT Tryz.results164) rfl ⟨rfl, rfl⟩)
theorem kset1_c (H : AHeap) (x0 : Int) (y0 : Int) (x1 : Int) (y1 : Int) (f : Int) (c : Int) : ACalls Tryz.prog 240 [.agg [.int .i64 x0, .int .i64 y0, .int .i64 x1, .int .i64 y1, .int .i64 f, .int .i64 c]] H (fun v H' => v = .bool (!(bxB x0 y0 x1 y1 f c)) ∧ H' = H) := by
  refine AcT true Tryz.func240 ?_; intro hbel Q hQ
  refine runT ?_
  refine call_v (by kernel_rfl) (bxv_c _ x0 y0 x1 y1 f c) ?_
  refine runT ?_
  exact hQ _ _ (end_plain (.inl rfl) hbel (x := .bool (!(bxB x0 y0 x1 y1 f c))) (resT Tryz.results240) rfl ⟨rfl, rfl⟩)
end Go.Proofs.YtcokgigjmjlmnaaGreat
