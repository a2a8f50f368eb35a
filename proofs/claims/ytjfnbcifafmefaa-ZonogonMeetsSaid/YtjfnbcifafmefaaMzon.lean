/- Plain facts on generators: directions in a half plane, the canonical form and that it is one only. Conditions: as each theorem states. -/
import Derived.Test.YtjfnbcifafmefaaAmT
namespace Go.Proofs.Ytjfnbcifafmefaa
set_option linter.unusedSimpArgs false
set_option linter.unusedVariables false
open Go.RowKit
abbrev Pt := Int × Int
def crs (a b : Pt) : Int := a.1 * b.2 - a.2 * b.1
/-- In the upper half plane (or on its right border), and not zero. -/
def up (p : Pt) : Prop := 0 < p.2 ∨ (p.2 = 0 ∧ 0 < p.1)
instance (p : Pt) : Decidable (up p) := inferInstanceAs (Decidable (_ ∨ _))
theorem crs_self (a : Pt) : crs a a = 0 := by unfold crs; rw [Int.mul_comm]; omega
theorem crs_anti (a b : Pt) : crs b a = -crs a b := by unfold crs; rw [Int.mul_comm b.1, Int.mul_comm b.2]; omega
theorem crs_id (x y z : Pt) : y.2 * crs x z = z.2 * crs x y + x.2 * crs y z := by unfold crs; grind
theorem crs_id1 (x y z : Pt) : y.1 * crs x z = z.1 * crs x y + x.1 * crs y z := by unfold crs; grind
theorem up_y {p : Pt} (h : up p) : 0 ≤ p.2 := by unfold up at h; omega
theorem up_ne {p : Pt} (h : up p) : p ≠ (0, 0) := by rintro rfl; unfold up at h; simp at h
theorem crs_pos_y {x y : Pt} (hx : up x) (hy : up y) (h : 0 < crs x y) : 0 < y.2 := by
  have h1 := up_y hx
  have h2 := up_y hy
  rcases Int.lt_or_eq_of_le h2 with h3 | h3
  · exact h3
  · exfalso
    have h4 : 0 < y.1 := by unfold up at hy; omega
    unfold crs at h
    rw [← h3, Int.mul_zero] at h
    have := Int.mul_nonneg h1 (Int.le_of_lt h4)
    omega
theorem pos_of {a b : Int} (h : 0 < a * b) (ha : 0 < a) : 0 < b := Int.lt_of_mul_lt_mul_left (a := a) (b := 0) (c := b) (by simpa using h) (Int.le_of_lt ha)
theorem nonneg_of {a b : Int} (h : 0 ≤ a * b) (ha : 0 < a) : 0 ≤ b := Int.le_of_mul_le_mul_left (a := a) (b := 0) (c := b) (by simpa using h) ha
theorem crs_trans {x y z : Pt} (hx : up x) (hy : up y) (hz : up z) (h1 : 0 < crs x y) (h2 : 0 < crs y z) : 0 < crs x z := by
  have y0 := crs_pos_y hx hy h1
  have z0 := crs_pos_y hy hz h2
  have e := crs_id x y z
  have a := Int.mul_pos z0 h1
  have b := Int.mul_nonneg (up_y hx) (Int.le_of_lt h2)
  exact pos_of (by omega) y0
theorem crs_ntrans {x y z : Pt} (hx : up x) (hy : up y) (hz : up z) (h1 : 0 ≤ crs x y) (h2 : 0 ≤ crs y z) : 0 ≤ crs x z := by
  have e := crs_id x y z
  have a := Int.mul_nonneg (up_y hz) h1
  have b := Int.mul_nonneg (up_y hx) h2
  rcases Int.lt_or_eq_of_le (up_y hy) with h | h
  · exact nonneg_of (by omega) h
  · have y1 : 0 < y.1 := by unfold up at hy; omega
    have hx2 : x.2 = 0 := by
      unfold crs at h1
      rw [← h, Int.mul_zero] at h1
      rcases Int.lt_or_eq_of_le (up_y hx) with k | k
      · have := Int.mul_pos k y1; omega
      · exact k.symm
    have hx1 : 0 < x.1 := by unfold up at hx; omega
    unfold crs
    rw [hx2, Int.zero_mul, Int.sub_zero]
    exact Int.mul_nonneg (Int.le_of_lt hx1) (up_y hz)
theorem par_trans {x y z : Pt} (hx : up x) (hy : up y) (hz : up z) (h1 : crs x y = 0) (h2 : crs y z = 0) : crs x z = 0 := by
  have a := crs_ntrans hx hy hz (by omega) (by omega)
  have b := crs_ntrans hz hy hx (by rw [crs_anti]; omega) (by rw [crs_anti]; omega)
  rw [crs_anti] at b
  omega
/-- Behind a parallel one the order is the same. -/
theorem crs_par_l {x y z : Pt} (hx : up x) (hy : up y) (hz : up z) (h1 : crs x y = 0) (h2 : 0 < crs y z) : 0 < crs x z := by
  have a := crs_ntrans hx hy hz (by omega) (by omega)
  rcases Int.lt_or_eq_of_le a with h | h
  · exact h
  · have := par_trans hy hx hz (by rw [crs_anti]; omega) h.symm
    omega
theorem crs_par_r {x y z : Pt} (hx : up x) (hy : up y) (hz : up z) (h1 : 0 < crs x y) (h2 : crs y z = 0) : 0 < crs x z := by
  have a := crs_ntrans hx hy hz (by omega) (by omega)
  rcases Int.lt_or_eq_of_le a with h | h
  · exact h
  · have := par_trans hx hz hy h.symm (by rw [crs_anti]; omega)
    omega
def padd (a b : Pt) : Pt := (a.1 + b.1, a.2 + b.2)
theorem padd_comm (a b : Pt) : padd a b = padd b a := by unfold padd; rw [Int.add_comm, Int.add_comm a.2]
theorem padd_assoc (a b c : Pt) : padd (padd a b) c = padd a (padd b c) := by simp [padd, Int.add_assoc]
theorem padd_zero (a : Pt) : padd a (0, 0) = a := by simp [padd]
theorem zero_padd (a : Pt) : padd (0, 0) a = a := by simp [padd]
theorem crs_add_l (a b c : Pt) : crs (padd a b) c = crs a c + crs b c := by unfold crs padd; grind
theorem crs_add_r (a b c : Pt) : crs a (padd b c) = crs a b + crs a c := by unfold crs padd; grind
theorem up_add {a b : Pt} (h1 : up a) (h2 : up b) : up (padd a b) := by unfold up padd at *; simp only; omega
def nrm (g : Pt) : Pt := if g.2 < 0 ∨ (g.2 = 0 ∧ g.1 < 0) then (-g.1, -g.2) else g
theorem nrm_up {g : Pt} (h : nrm g ≠ (0, 0)) : up (nrm g) := by
  unfold nrm at *
  split
  · unfold up; simp only; omega
  · rename_i hc
    rw [if_neg hc] at h
    have : g.1 ≠ 0 ∨ g.2 ≠ 0 := by
      rcases Decidable.em (g.1 = 0) with e | e
      · right; intro e2; exact h (Prod.ext e e2)
      · exact .inl e
    unfold up; omega
/-- The sum of those that are parallel to g. -/
def dsum : List Pt → Pt → Pt
  | [], _ => (0, 0)
  | h :: l, g => if crs h g = 0 then padd h (dsum l g) else dsum l g
theorem dsum_append (g : Pt) : ∀ l m : List Pt, dsum (l ++ m) g = padd (dsum l g) (dsum m g)
  | [], m => by rw [List.nil_append]; exact (zero_padd _).symm
  | h :: l, m => by
    simp only [List.cons_append, dsum, dsum_append g l m]
    split
    · rw [padd_assoc]
    · rfl
theorem dsum_perm {l m : List Pt} (g : Pt) (h : l.Perm m) : dsum l g = dsum m g := by
  induction h with
  | nil => rfl
  | cons x _ ih => simp only [dsum, ih]
  | swap x y l =>
    simp only [dsum]
    split <;> split <;> try rfl
    rw [← padd_assoc, ← padd_assoc, padd_comm y x]
  | trans _ _ ih1 ih2 => rw [ih1, ih2]
theorem dsum_none {l : List Pt} {g : Pt} (h : ∀ e ∈ l, crs e g ≠ 0) : dsum l g = (0, 0) := by
  induction l with
  | nil => rfl
  | cons x l ih =>
    simp only [dsum]
    rw [if_neg (h x (by simp)), ih fun e he => h e (by simp [he])]
/-- C is the canonical form of the directions in S. -/
structure Can (C S : List Pt) : Prop where
  sorted : C.Pairwise fun a b => 0 < crs a b
  ups : ∀ e ∈ C, up e
  sums : ∀ g, up g → dsum C g = dsum S g
theorem Can.perm {C S S' : List Pt} (h : Can C S) (hp : S.Perm S') : Can C S' := ⟨h.sorted, h.ups, fun g hg => by rw [h.sums g hg, dsum_perm g hp]⟩
theorem Can.own {C S : List Pt} (h : Can C S) {e : Pt} (he : e ∈ C) : dsum C e = e := by
  obtain ⟨A, B, rfl⟩ := List.append_of_mem he
  have hs := h.sorted
  rw [List.pairwise_append] at hs
  obtain ⟨h1, h2, h3⟩ := hs
  rw [List.pairwise_cons] at h2
  rw [dsum_append]
  simp only [dsum, crs_self, if_true]
  rw [dsum_none (l := A) fun a ha => by have := h3 a ha e (by simp); omega, dsum_none (l := B) fun b hb => by have := h2.1 b hb; rw [crs_anti]; omega, padd_zero, zero_padd]
theorem Can.par {C S : List Pt} (h : Can C S) {g : Pt} (hg : up g) (hne : dsum C g ≠ (0, 0)) : dsum C g ∈ C := by
  have hex : ∃ e ∈ C, crs e g = 0 := by
    apply Classical.byContradiction
    intro hno
    exact hne (dsum_none fun e he h0 => hno ⟨e, he, h0⟩)
  obtain ⟨e, he, h0⟩ := hex
  have hu := h.ups e he
  have heq : dsum C g = dsum C e := by
    have : ∀ l : List Pt, (∀ x ∈ l, up x) → dsum l g = dsum l e := by
      intro l
      induction l with
      | nil => exact fun _ => rfl
      | cons x l ih =>
        intro hl
        have hx := hl x (by simp)
        simp only [dsum, ih fun y hy => hl y (by simp [hy])]
        by_cases hc : crs x g = 0
        · rw [if_pos hc, if_pos (par_trans hx hg hu hc (by rw [crs_anti]; omega))]
        · rw [if_neg hc, if_neg fun h1 => hc (par_trans hx hu hg h1 h0)]
    exact this C h.ups
  rw [heq, h.own he]; exact he
theorem eq_of_sorted {r : Pt → Pt → Prop} (has : ∀ a b, r a b → ¬ r b a) : ∀ (l m : List Pt), l.Pairwise r → m.Pairwise r → (∀ x, x ∈ l ↔ x ∈ m) → l = m
  | [], [], _, _, _ => rfl
  | [], b :: m, _, _, h => absurd ((h b).2 (by simp)) (by simp)
  | a :: l, [], _, _, h => absurd ((h a).1 (by simp)) (by simp)
  | a :: l, b :: m, h1, h2, h => by
    rw [List.pairwise_cons] at h1 h2
    have hirr : ∀ x, ¬ r x x := fun x hx => has x x hx hx
    have hab : a = b := by
      rcases List.mem_cons.1 ((h a).1 (by simp)) with e | hm
      · exact e
      · rcases List.mem_cons.1 ((h b).2 (by simp)) with e | hl
        · exact e.symm
        · exact absurd (h1.1 b hl) (has _ _ (h2.1 a hm))
    subst hab
    have : l = m := eq_of_sorted has l m h1.2 h2.2 fun x => by
      constructor
      · intro hx
        rcases List.mem_cons.1 ((h x).1 (by simp [hx])) with e | hm
        · subst e; exact absurd (h1.1 x hx) (hirr x)
        · exact hm
      · intro hx
        rcases List.mem_cons.1 ((h x).2 (by simp [hx])) with e | hm
        · subst e; exact absurd (h2.1 x hx) (hirr x)
        · exact hm
    rw [this]
/-- The canonical form is one only. -/
theorem Can.eq {C C' S : List Pt} (h : Can C S) (h' : Can C' S) : C = C' := by
  refine eq_of_sorted (r := fun a b => 0 < crs a b) (fun a b h => by rw [crs_anti]; omega) C C' h.sorted h'.sorted fun x => ?_
  have key : ∀ {C C' : List Pt}, Can C S → Can C' S → ∀ x, x ∈ C → x ∈ C' := fun {C C'} h h' x hx => by
    have e : dsum C' x = x := by rw [h'.sums x (h.ups x hx), ← h.sums x (h.ups x hx), h.own hx]
    have := h'.par (h.ups x hx) (by rw [e]; exact up_ne (h.ups x hx))
    rwa [e] at this
  exact ⟨key h h' x, key h' h x⟩
end Go.Proofs.Ytjfnbcifafmefaa
