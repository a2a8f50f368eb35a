/- Proved: the law ZonogonReduces returns true on every input, and its arguments read afterwards as before. Conditions: none beyond the given row's. -/
import Derived.Test.YtbmfgcccgonaeaaG3
import Derived.Test.YtbmfgcccgonaeaaG2
namespace Go.Proofs.Ytbmfgcccgonaeaa
set_option linter.unusedSimpArgs false
set_option linter.unusedVariables false
open Go.RowKit
theorem absI_neg (x : Int) : absI (-x) = absI x := by unfold absI; split <;> split <;> omega
theorem absI_le {x M : Int} : absI x ≤ M ↔ -M ≤ x ∧ x ≤ M := by unfold absI; split <;> omega
theorem absI_nn (x : Int) : 0 ≤ absI x := by unfold absI; split <;> omega
theorem le_absI (x : Int) : x ≤ absI x := by unfold absI; split <;> omega
theorem absI_of_nn {x : Int} (h : 0 ≤ x) : absI x = x := by unfold absI; split <;> omega
theorem absI_of_np {x : Int} (h : x ≤ 0) : absI x = -x := by unfold absI; split <;> omega
theorem absI_zero : absI 0 = 0 := rfl
theorem crs_zero_r (a : Pt) : crs a (0, 0) = 0 := by unfold crs; simp
theorem dotP_add (n g h : Pt) : dotP n (padd g h) = dotP n g + dotP n h := by unfold dotP padd; simp only [Int.mul_add]; omega
theorem dotP_neg (n g : Pt) : dotP n (-g.1, -g.2) = -dotP n g := by unfold dotP; simp only [Int.mul_neg]; omega
theorem dotP_negl (n g : Pt) : dotP (-n.1, -n.2) g = -dotP n g := by unfold dotP; simp only [Int.neg_mul]; omega
theorem dotP_zero (n : Pt) : dotP n (0, 0) = 0 := by unfold dotP; simp
theorem par_pos {g h : Pt} (hg : up g) (hh : up h) (h0 : crs g h = 0) : ∃ a b : Int, 0 < a ∧ 0 < b ∧ a * h.1 = b * g.1 ∧ a * h.2 = b * g.2 := by
  unfold crs at h0
  have e1 : g.1 * h.2 = g.2 * h.1 := by omega
  rcases Int.lt_or_eq_of_le (up_y hg) with g2 | g2
  · have h2 : 0 < h.2 := by
      rcases Int.lt_or_eq_of_le (up_y hh) with h2 | h2
      · exact h2
      exfalso
      rw [← h2, Int.mul_zero] at e1
      have : h.1 = 0 := by
        rcases Int.mul_eq_zero.1 e1.symm with h | h
        · omega
        exact h
      unfold up at hh; omega
    exact ⟨g.2, h.2, g2, h2, by rw [← e1, Int.mul_comm], Int.mul_comm _ _⟩
  have g1p : 0 < g.1 := by unfold up at hg; omega
  rw [← g2, Int.zero_mul] at e1
  have h2 : h.2 = 0 := by
    rcases Int.mul_eq_zero.1 e1 with h | h
    · omega
    exact h
  have h1p : 0 < h.1 := by unfold up at hh; omega
  exact ⟨g.1, h.1, g1p, h1p, Int.mul_comm _ _, by rw [h2, ← g2]; simp⟩
theorem abs_par {g h : Pt} (hg : up g) (hh : up h) (h0 : crs g h = 0) (n : Pt) : absI (dotP n (padd g h)) = absI (dotP n g) + absI (dotP n h) := by
  obtain ⟨a, b, ha, hb, e1, e2⟩ := par_pos hg hh h0
  have e : a * dotP n h = b * dotP n g := by
    unfold dotP
    have q1 : a * (n.1 * h.1 + n.2 * h.2) = n.1 * (a * h.1) + n.2 * (a * h.2) := by grind
    have q2 : b * (n.1 * g.1 + n.2 * g.2) = n.1 * (b * g.1) + n.2 * (b * g.2) := by grind
    rw [q1, q2, e1, e2]
  rw [dotP_add]
  rcases Int.le_total 0 (dotP n g) with k | k
  · have h1 : 0 ≤ dotP n h := nonneg_of (a := a) (by rw [e]; exact Int.mul_nonneg (by omega) k) ha
    rw [absI_of_nn k, absI_of_nn h1, absI_of_nn (by omega)]
  have h1 : 0 ≤ -dotP n h := nonneg_of (a := a) (by rw [Int.mul_neg, e, ← Int.mul_neg]; exact Int.mul_nonneg (by omega) (by omega)) ha
  rw [absI_of_np k, absI_of_np (by omega : dotP n h ≤ 0), absI_of_np (by omega)]; omega
theorem spr_cons (n g : Pt) (l : List Pt) : spr n (g :: l) = absI (dotP n g) + spr n l := rfl
theorem spr_nn (n : Pt) : ∀ l : List Pt, 0 ≤ spr n l
  | [] => by simp [spr]
  | g :: l => by have := spr_nn n l; have := absI_nn (dotP n g); rw [spr_cons]; omega
theorem spr_putC {C : List Pt} {g : Pt} (hg : up g) (hs : C.Pairwise fun a b => 0 < crs a b) (hu : ∀ e ∈ C, up e) (n : Pt) : spr n (putC C g) = spr n C + absI (dotP n g) := by
  rcases split_at hg C hs hu with ⟨A, B, rfl, h1, h2⟩ | ⟨A, e, B, rfl, h1, h0, h2⟩
  · rw [putC_none h1 h2, spr_app, spr_app, spr_cons]; omega
  rw [putC_some h1 h0 h2, spr_app, spr_app, spr_cons, spr_cons, abs_par (hu e (by simp)) hg (by rw [crs_anti]; omega)]; omega
theorem abs_nrm (n g : Pt) : absI (dotP n (nrm g)) = absI (dotP n g) := by
  unfold nrm; split
  · rw [dotP_neg, absI_neg]
  rfl
/-- The canonical form reaches as far as the generators. -/
theorem spr_canon (n : Pt) (l : List Pt) : spr n (canonL l) = spr n l := by
  refine snoc_ind (P := fun l => spr n (canonL l) = spr n l) rfl (fun S g ih => ?_) l
  have hc := canonL_can S
  rw [canonL_snoc, spr_app, spr_cons, ← abs_nrm n g]
  show spr n (putL (canonL S) g) = spr n S + (absI (dotP n (nrm g)) + 0)
  unfold putL
  split
  · rename_i h; rw [h, dotP_zero, ih, absI_zero]; omega
  rename_i h; rw [spr_putC (nrm_up h) hc.sorted hc.ups, ih]; omega
theorem spr_negl (n : Pt) : ∀ l : List Pt, spr (-n.1, -n.2) l = spr n l
  | [] => rfl
  | g :: l => by rw [spr_cons, spr_cons, spr_negl n l, dotP_negl, absI_neg]
/-- d is not beyond the sum of the segments in any direction. -/
def inZ (L : List Pt) (d : Pt) : Prop := ∀ n : Pt, dotP n d ≤ spr n L
theorem inZ.abs {L : List Pt} {d : Pt} (h : inZ L d) (n : Pt) : absI (dotP n d) ≤ spr n L := by
  rw [absI_le]
  have h1 := h n
  have h2 := h (-n.1, -n.2)
  rw [dotP_negl, spr_negl] at h2
  omega
theorem inZ_canon {l : List Pt} {d : Pt} : inZ (canonL l) d ↔ inZ l d := by
  constructor <;> intro h n <;> have := h n <;> rw [spr_canon] at * <;> exact this
/-- The sum of directions. -/
def vsum : List Pt → Pt
  | [] => (0, 0)
  | g :: l => padd g (vsum l)
theorem vsum_app : ∀ l m : List Pt, vsum (l ++ m) = padd (vsum l) (vsum m)
  | [], m => by simp [vsum, padd]
  | g :: l, m => by simp only [List.cons_append, vsum, vsum_app l m, padd_assoc]
def psub (a b : Pt) : Pt := (a.1 - b.1, a.2 - b.2)
theorem dotP_sub (n g h : Pt) : dotP n (psub g h) = dotP n g - dotP n h := by unfold dotP psub; simp only [Int.mul_sub]; omega
theorem dot_le_spr (n : Pt) : ∀ l : List Pt, dotP n (vsum l) ≤ spr n l ∧ -spr n l ≤ dotP n (vsum l)
  | [] => by simp [vsum, dotP_zero, spr]
  | g :: l => by
    have ih := dot_le_spr n l
    have h := absI_le.1 (Int.le_refl (absI (dotP n g)))
    rw [spr_cons]
    show dotP n (padd g (vsum l)) ≤ _ ∧ _ ≤ dotP n (padd g (vsum l))
    rw [dotP_add]; omega
theorem dot_eq_spr (n : Pt) : ∀ l : List Pt, (∀ g ∈ l, 0 ≤ dotP n g) → dotP n (vsum l) = spr n l
  | [], _ => by simp [vsum, dotP_zero, spr]
  | g :: l, h => by
    have ih := dot_eq_spr n l fun e he => h e (by simp [he])
    rw [spr_cons, absI_of_nn (h g (by simp)), ← ih]
    show dotP n (padd g (vsum l)) = _
    rw [dotP_add]
theorem dot_eq_nspr (n : Pt) : ∀ l : List Pt, (∀ g ∈ l, dotP n g ≤ 0) → dotP n (vsum l) = -spr n l
  | [], _ => by simp [vsum, dotP_zero, spr]
  | g :: l, h => by
    have ih := dot_eq_nspr n l fun e he => h e (by simp [he])
    rw [spr_cons, absI_of_np (h g (by simp))]
    show dotP n (padd g (vsum l)) = _
    rw [dotP_add]; omega
/-- A sum of some and the opposite of the others is in. -/
theorem inZ_split (A B : List Pt) : inZ (A ++ B) (psub (vsum A) (vsum B)) := fun n => by
  rw [dotP_sub, spr_app]
  have h1 := dot_le_spr n A
  have h2 := dot_le_spr n B
  omega
/-- Between two directions on one side of a line there is none on the other. -/
theorem mid_pos {g a b n : Pt} (h1 : 0 < crs g a) (h2 : 0 < crs a b) (h3 : 0 < crs g b) (k1 : 0 < dotP n g) (k2 : 0 < dotP n b) : 0 < dotP n a := by
  have e : crs g b * dotP n a = crs a b * dotP n g + crs g a * dotP n b := by unfold crs dotP; grind
  have q1 := Int.mul_pos h2 k1
  have q2 := Int.mul_pos h1 k2
  exact pos_of (a := crs g b) (by omega) h3
theorem sign_split (n : Pt) : ∀ L : List Pt, L.Pairwise (fun a b => 0 < crs a b) →
    ∃ A B, L = A ++ B ∧ (((∀ a ∈ A, 0 ≤ dotP n a) ∧ ∀ b ∈ B, dotP n b ≤ 0) ∨ ((∀ a ∈ A, dotP n a ≤ 0) ∧ ∀ b ∈ B, 0 ≤ dotP n b))
  | [], _ => ⟨[], [], rfl, .inl ⟨by simp, by simp⟩⟩
  | g :: L, hs => by
    rw [List.pairwise_cons] at hs
    obtain ⟨A, B, rfl, h⟩ := sign_split n L hs.2
    have hs2 := List.pairwise_append.1 hs.2
    have hm : ∀ m : Pt, (∀ x : Pt, dotP m x = dotP n x) ∨ (∀ x : Pt, dotP m x = -dotP n x) → 0 < dotP m g → ∀ b ∈ B, 0 < dotP m b → ∀ a ∈ A, 0 < dotP m a := fun m _ kg b hb kb a ha =>
      mid_pos (hs.1 a (by simp [ha])) (hs2.2.2 a ha b hb) (hs.1 b (by simp [hb])) kg kb
    rcases Int.lt_trichotomy (dotP n g) 0 with k | k | k
    · rcases h with ⟨hA, hB⟩ | ⟨hA, hB⟩
      · by_cases hall : ∀ b ∈ B, 0 ≤ dotP n b
        · refine ⟨[g], A ++ B, rfl, .inr ⟨by simpa using Int.le_of_lt k, fun b hb => ?_⟩⟩
          rcases List.mem_append.1 hb with hb | hb
          · exact hA b hb
          exact hall b hb
        have : ∃ b ∈ B, dotP n b < 0 := by
          apply Classical.byContradiction
          intro hno
          exact hall fun b hb => Int.not_lt.1 fun hlt => hno ⟨b, hb, hlt⟩
        obtain ⟨b, hb, kb⟩ := this
        have hA0 : A = [] := by
          cases A with
          | nil => rfl
          | cons a A =>
            have := hm (-n.1, -n.2) (.inr fun x => dotP_negl n x) (by rw [dotP_negl]; omega) b hb (by rw [dotP_negl]; omega) a (by simp)
            rw [dotP_negl] at this
            have := hA a (by simp)
            omega
        subst hA0
        refine ⟨g :: B, [], by simp, .inr ⟨fun a ha => ?_, by simp⟩⟩
        rcases List.mem_cons.1 ha with rfl | ha
        · omega
        exact hB a ha
      refine ⟨g :: A, B, rfl, .inr ⟨fun a ha => ?_, hB⟩⟩
      rcases List.mem_cons.1 ha with rfl | ha
      · omega
      exact hA a ha
    · rcases h with ⟨hA, hB⟩ | ⟨hA, hB⟩
      · refine ⟨g :: A, B, rfl, .inl ⟨fun a ha => ?_, hB⟩⟩
        rcases List.mem_cons.1 ha with rfl | ha
        · omega
        exact hA a ha
      refine ⟨g :: A, B, rfl, .inr ⟨fun a ha => ?_, hB⟩⟩
      rcases List.mem_cons.1 ha with rfl | ha
      · omega
      exact hA a ha
    rcases h with ⟨hA, hB⟩ | ⟨hA, hB⟩
    · refine ⟨g :: A, B, rfl, .inl ⟨fun a ha => ?_, hB⟩⟩
      rcases List.mem_cons.1 ha with rfl | ha
      · omega
      exact hA a ha
    by_cases hall : ∀ b ∈ B, dotP n b ≤ 0
    · refine ⟨[g], A ++ B, rfl, .inl ⟨by simpa using Int.le_of_lt k, fun b hb => ?_⟩⟩
      rcases List.mem_append.1 hb with hb | hb
      · exact hA b hb
      exact hall b hb
    have : ∃ b ∈ B, 0 < dotP n b := by
      apply Classical.byContradiction
      intro hno
      exact hall fun b hb => Int.not_lt.1 fun hlt => hno ⟨b, hb, hlt⟩
    obtain ⟨b, hb, kb⟩ := this
    have hA0 : A = [] := by
      cases A with
      | nil => rfl
      | cons a A =>
        have := hm n (.inl fun x => rfl) k b hb kb a (by simp)
        have := hA a (by simp)
        omega
    subst hA0
    refine ⟨g :: B, [], by simp, .inl ⟨fun a ha => ?_, by simp⟩⟩
    rcases List.mem_cons.1 ha with rfl | ha
    · omega
    exact hB a ha
/-- How far the sum reaches to the sides of a generator. -/
def wid (g : Pt) (L : List Pt) : Int := spr (0 - g.2, g.1) L
theorem dotP_perp (g h : Pt) : dotP (0 - g.2, g.1) h = crs g h := by unfold dotP crs; simp only [Int.sub_mul, Int.zero_mul]; omega
theorem crs_vsum (g : Pt) (L : List Pt) : crs g (vsum L) = dotP (0 - g.2, g.1) (vsum L) := (dotP_perp g _).symm
theorem wid_at {P Q : List Pt} {g : Pt} (hs : (P ++ g :: Q).Pairwise fun a b => 0 < crs a b) : wid g (P ++ g :: Q) = crs g (vsum Q) - crs g (vsum P) := by
  rw [List.pairwise_append, List.pairwise_cons] at hs
  obtain ⟨-, ⟨h1, -⟩, h2⟩ := hs
  unfold wid
  rw [spr_app, spr_cons, dotP_perp, crs_self, crs_vsum, crs_vsum, dot_eq_spr _ Q (fun q hq => by rw [dotP_perp]; exact Int.le_of_lt (h1 q hq)), dot_eq_nspr _ P (fun p hp => by rw [dotP_perp, crs_anti]; have := h2 p hp g (by simp); omega), absI_zero]
  omega
theorem two_sides {ei eo w n : Pt} (h : 0 < crs ei eo) (h1 : 0 ≤ crs ei w) (h2 : 0 ≤ crs eo w) (k1 : 0 ≤ dotP n ei) (k2 : dotP n eo ≤ 0) : dotP n w ≤ 0 := by
  have e : crs ei eo * dotP n w = crs ei w * dotP n eo - crs eo w * dotP n ei := by unfold crs dotP; grind
  have q1 := Int.mul_nonneg h1 (by omega : 0 ≤ -dotP n eo)
  have q2 := Int.mul_nonneg h2 k1
  rw [Int.mul_neg] at q1
  have : 0 ≤ crs ei eo * -dotP n w := by rw [Int.mul_neg]; omega
  have := nonneg_of this h
  omega
/-- By the sides of at least two generators: not beyond in any direction. -/
theorem inZ_sides {L : List Pt} (hs : L.Pairwise fun a b => 0 < crs a b) (h2 : 2 ≤ L.length) {d : Pt} (hd : ∀ g ∈ L, absI (crs g d) ≤ wid g L) : inZ L d := by
  have key : ∀ (n d : Pt) (A B : List Pt), L = A ++ B → (∀ g ∈ L, absI (crs g d) ≤ wid g L) → (∀ a ∈ A, 0 ≤ dotP n a) → (∀ b ∈ B, dotP n b ≤ 0) → dotP n d ≤ spr n L := by
    intro n d A B hL hd hA hB
    subst hL
    have hv : dotP n (psub (vsum A) (vsum B)) = spr n (A ++ B) := by rw [dotP_sub, dot_eq_spr n A hA, dot_eq_nspr n B hB, spr_app]; omega
    rw [← hv]
    suffices h : dotP n (psub d (psub (vsum A) (vsum B))) ≤ 0 by rw [dotP_sub] at h; omega
    -- the corner's two sides
    rcases List.eq_nil_or_concat A with rfl | ⟨A1, a, rfl⟩
    · cases B with
      | nil => simp at h2
      | cons b B1 =>
        rcases List.eq_nil_or_concat B1 with rfl | ⟨B2, z, rfl⟩
        · simp at h2
        rw [List.concat_eq_append] at *
        simp only [List.nil_append] at *
        have w1 := wid_at (P := []) (Q := B2 ++ [z]) (g := b) hs
        have w2 := wid_at (P := b :: B2) (Q := []) (g := z) (by simpa using hs)
        simp only [List.nil_append] at w1
        have hbz : 0 < crs b z := (List.pairwise_cons.1 hs).1 z (by simp)
        have d1 := absI_le.1 (hd b (by simp))
        have d2 := absI_le.1 (hd z (by simp))
        have e2 : b :: B2 ++ [z] = b :: (B2 ++ [z]) := rfl
        rw [e2] at w2
        refine two_sides (ei := (-z.1, -z.2)) (eo := b) ?_ ?_ ?_ ?_ (hB b (by simp))
        · have : crs (-z.1, -z.2) b = crs b z := by unfold crs; grind
          omega
        · have e : crs (-z.1, -z.2) (psub d (psub (vsum []) (vsum (b :: (B2 ++ [z]))))) = -(crs z d) - crs z (vsum (b :: B2)) := by
            rw [← e2, vsum_app]; simp only [vsum]; unfold crs psub padd; grind
          rw [e]
          simp only [vsum, crs_zero_r] at w2 ⊢
          omega
        · have e : crs b (psub d (psub (vsum []) (vsum (b :: (B2 ++ [z]))))) = crs b d + crs b (vsum (B2 ++ [z])) := by
            simp only [vsum]; unfold crs psub padd; grind
          rw [e]
          simp only [vsum, crs_zero_r] at w1
          omega
        rw [dotP_neg]; have := hB z (by simp); omega
    rw [List.concat_eq_append] at *
    cases B with
    | cons b B1 =>
      have hs' : (A1 ++ a :: (b :: B1)).Pairwise fun a b => 0 < crs a b := by simpa using hs
      have w1 := wid_at (P := A1) (Q := b :: B1) (g := a) hs'
      have w2 := wid_at (P := A1 ++ [a]) (Q := B1) (g := b) hs
      have e1 : A1 ++ a :: (b :: B1) = A1 ++ [a] ++ b :: B1 := by simp
      rw [e1] at w1
      have hab : 0 < crs a b := (List.pairwise_cons.1 (List.pairwise_append.1 hs').2.1).1 b (by simp)
      have d1 := absI_le.1 (hd a (by simp))
      have d2 := absI_le.1 (hd b (by simp))
      refine two_sides (ei := a) (eo := b) hab ?_ ?_ (hA a (by simp)) (hB b (by simp))
      · have e : crs a (psub d (psub (vsum (A1 ++ [a])) (vsum (b :: B1)))) = crs a d - crs a (vsum A1) + crs a (vsum (b :: B1)) := by
          rw [vsum_app]; simp only [vsum]; unfold crs psub padd; grind
        rw [e]; omega
      have e : crs b (psub d (psub (vsum (A1 ++ [a])) (vsum (b :: B1)))) = crs b d - crs b (vsum (A1 ++ [a])) + crs b (vsum B1) := by
        simp only [vsum]; unfold crs psub padd; grind
      rw [e]; omega
    | nil =>
      rw [List.append_nil] at *
      cases A1 with
      | nil => simp at h2
      | cons f A2 =>
        have w1 := wid_at (P := []) (Q := A2 ++ [a]) (g := f) (by simpa using hs)
        have w2 := wid_at (P := f :: A2) (Q := []) (g := a) hs
        simp only [List.nil_append] at w1
        have e1 : f :: (A2 ++ [a]) = f :: A2 ++ [a] := rfl
        rw [e1] at w1
        have hfa : 0 < crs f a := (List.pairwise_cons.1 (show (f :: (A2 ++ [a])).Pairwise (fun a b => 0 < crs a b) from hs)).1 a (by simp)
        have d1 := absI_le.1 (hd f (by simp))
        have d2 := absI_le.1 (hd a (by simp))
        refine two_sides (ei := a) (eo := (-f.1, -f.2)) ?_ ?_ ?_ (hA a (by simp)) ?_
        · have : crs a (-f.1, -f.2) = crs f a := by unfold crs; grind
          omega
        · have e : crs a (psub d (psub (vsum (f :: A2 ++ [a])) (vsum []))) = crs a d - crs a (vsum (f :: A2)) := by
            rw [vsum_app]; simp only [vsum]; unfold crs psub padd; grind
          rw [e]
          simp only [vsum, crs_zero_r] at w2 ⊢
          omega
        · have e : crs (-f.1, -f.2) (psub d (psub (vsum (f :: A2 ++ [a])) (vsum []))) = -(crs f d) + crs f (vsum (A2 ++ [a])) := by
            rw [← e1]; simp only [vsum]; unfold crs psub padd; grind
          rw [e]
          simp only [vsum, crs_zero_r] at w1
          omega
        rw [dotP_neg]; have := hA f (by simp); omega
  intro n
  obtain ⟨A, B, hL, h⟩ := sign_split n L hs
  rcases h with ⟨hA, hB⟩ | ⟨hA, hB⟩
  · exact key n d A B hL hd hA hB
  have := key (-n.1, -n.2) (-d.1, -d.2) A B hL (fun g hg => by
    have : crs g (-d.1, -d.2) = -crs g d := by unfold crs; grind
    rw [this, absI_neg]; exact hd g hg) (fun a ha => by rw [dotP_negl]; have := hA a ha; omega) (fun b hb => by rw [dotP_negl]; have := hB b hb; omega)
  rw [dotP_negl, dotP_neg, spr_negl] at this
  omega
theorem dot_self_pos {g : Pt} (hg : up g) : 0 < dotP g g := by
  unfold dotP
  have h1 : 0 ≤ g.1 * g.1 := by rcases Int.le_total 0 g.1 with h | h; exact Int.mul_nonneg h h; have := Int.mul_nonneg (by omega : 0 ≤ -g.1) (by omega : 0 ≤ -g.1); rwa [Int.neg_mul_neg] at this
  have h2 : 0 ≤ g.2 * g.2 := Int.mul_nonneg (up_y hg) (up_y hg)
  unfold up at hg
  rcases hg with h | h
  · have := Int.mul_pos h h; omega
  have := Int.mul_pos h.2 h.2; omega
theorem inZ_one {g d : Pt} (hg : up g) (h1 : crs g d = 0) (h2 : absI (dotP g d) ≤ dotP g g) : inZ [g] d := fun n => by
  have e : dotP g g * dotP n d = dotP g d * dotP n g + crs g d * (g.1 * n.2 - g.2 * n.1) := by unfold dotP crs; grind
  rw [h1, Int.zero_mul, Int.add_zero] at e
  have hp := dot_self_pos hg
  show dotP n d ≤ absI (dotP n g) + 0
  rw [Int.add_zero]
  have hb := mul_bd (a := dotP g d) (b := dotP n g) (A := dotP g g) (B := absI (dotP n g)) (absI_le.1 h2) (absI_le.1 (Int.le_refl _))
  rw [← e] at hb
  exact Int.le_of_mul_le_mul_left hb.2 hp
theorem inZ_nil {d : Pt} : inZ [] d ↔ d = (0, 0) := by
  constructor
  · intro h
    have h1 := h (1, 0); have h2 := h (-1, 0); have h3 := h (0, 1); have h4 := h (0, -1)
    simp only [dotP, spr] at h1 h2 h3 h4
    exact Prod.ext (by omega) (by omega)
  rintro rfl n
  rw [dotP_zero]; exact Int.le_refl 0
/-- By the directions that the program tries. -/
theorem beyond_iff {L : List Pt} (hs : L.Pairwise fun a b => 0 < crs a b) (hu : ∀ e ∈ L, up e) (d : Pt) : (nrmls L).any (beyond L d) = false ↔ inZ L d := by
  constructor
  · intro h
    have hall : ∀ m ∈ nrmls L, absI (dotP m d) ≤ spr m L := fun m hm => by
      have := List.any_eq_false.1 h m hm
      simp only [beyond, decide_eq_true_eq] at this
      omega
    have hside : ∀ g ∈ L, absI (crs g d) ≤ wid g L := fun g hg => by
      have := hall (0 - g.2, g.1) (by unfold nrmls; simp only [List.mem_append, List.mem_flatMap]; exact .inr ⟨g, hg, by simp⟩)
      rw [dotP_perp] at this
      exact this
    have hown : ∀ g ∈ L, absI (dotP g d) ≤ spr g L := fun g hg => hall g (by unfold nrmls; simp only [List.mem_append, List.mem_flatMap]; exact .inr ⟨g, hg, by simp⟩)
    match L, hs, hu, hall, hside, hown with
    | [], _, _, hall, _, _ =>
      have h1 := absI_le.1 (hall (1, 0) (by simp [nrmls]))
      have h2 := absI_le.1 (hall (0, 1) (by simp [nrmls]))
      simp only [dotP, spr] at h1 h2
      exact inZ_nil.2 (Prod.ext (by omega) (by omega))
    | [g], _, hu, _, hside, hown =>
      have h1 := absI_le.1 (hside g (by simp))
      have h2 := hown g (by simp)
      have e : wid g [g] = 0 := by unfold wid; rw [spr_cons, dotP_perp, crs_self]; rfl
      rw [e] at h1
      have e2 : spr g [g] = dotP g g := by rw [spr_cons, absI_of_nn (Int.le_of_lt (dot_self_pos (hu g (by simp))))]; simp [spr]
      rw [e2] at h2
      exact inZ_one (hu g (by simp)) (by omega) h2
    | g :: g' :: L, hs, _, _, hside, _ => exact inZ_sides hs (by simp) hside
  intro h
  refine List.any_eq_false.2 fun m _ => ?_
  simp only [beyond, decide_eq_true_eq]
  have := h.abs m
  omega
open Go.RowKit
theorem take_snoc' {l : List Pt} {i : Nat} (h : i < l.length) : l.take (i + 1) = l.take i ++ [gp l i] := by rw [List.take_succ_eq_append_getElem h, gp_eq h]
theorem vsum_take {l : List Pt} {i : Nat} (h : i < l.length) : vsum (l.take (i + 1)) = ((vsum (l.take i)).1 + g1 l i, (vsum (l.take i)).2 + g2 l i) := by
  rw [take_snoc' h, vsum_app]; simp [vsum, padd, gp]
theorem cor0_eq (x y : Int) (l : List Pt) : ∀ i, i ≤ l.length → cor0 x y l i = (x - (vsum (l.take i)).1, y - (vsum (l.take i)).2)
  | 0, _ => by simp [cor0, vsum]
  | i + 1, h => by
    rw [cor0, cor0_eq x y l i (by omega), vsum_take (by omega)]
    exact Prod.ext (by simp only; omega) (by simp only; omega)
theorem stp_lo {l : List Pt} {i : Nat} (h : i < l.length) : stp l i = (g1 l i, g2 l i) := by unfold stp; rw [if_neg (by omega), Nat.mod_eq_of_lt h]
theorem stp_hi {l : List Pt} {k : Nat} (h : k < l.length) : stp l (l.length + k) = (-g1 l k, -g2 l k) := by unfold stp; rw [if_pos (by omega), Nat.add_mod_left, Nat.mod_eq_of_lt h]
theorem rcp_lo (l : List Pt) (p : Pt) : ∀ i, i ≤ l.length → rcp l p i = (p.1 + 2 * (vsum (l.take i)).1, p.2 + 2 * (vsum (l.take i)).2)
  | 0, _ => by simp [rcp, vsum]
  | i + 1, h => by
    rw [rcp, rcp_lo l p i (by omega), vsum_take (by omega), stp_lo (by omega)]
    exact Prod.ext (by simp only; omega) (by simp only; omega)
theorem rcp_hi (l : List Pt) (p : Pt) : ∀ k, k ≤ l.length → rcp l p (l.length + k) = (p.1 + 2 * (vsum l).1 - 2 * (vsum (l.take k)).1, p.2 + 2 * (vsum l).2 - 2 * (vsum (l.take k)).2)
  | 0, _ => by rw [Nat.add_zero, rcp_lo l p _ (Nat.le_refl _), List.take_length]; simp [vsum]
  | k + 1, h => by
    rw [← Nat.add_assoc, rcp, rcp_hi l p k (by omega), vsum_take (by omega), stp_hi (by omega)]
    exact Prod.ext (by simp only; omega) (by simp only; omega)
theorem rco_eq (l : List Pt) (p : Pt) : ∀ j, rco l p j = p :: (List.range j).map fun i => rcp l p (i + 1)
  | 0 => by simp [rco]
  | j + 1 => by rw [rco, rco_eq l p j, List.range_succ, List.map_append]; rfl
theorem rco_gp (l : List Pt) (p : Pt) : ∀ m i, i ≤ m → gp (rco l p m) i = rcp l p i
  | m, 0, _ => by
    rw [gp_eq (by rw [rco_len]; omega)]
    simp only [rco_eq]; rfl
  | m, i + 1, h => by
    rw [gp_eq (by rw [rco_len]; omega)]
    simp only [rco_eq]
    simp
theorem corR_len (x y : Int) (l : List Pt) : (corR x y l).length = 2 * l.length - 1 + 1 := rco_len _ _ _
theorem corR_gp (x y : Int) (l : List Pt) {i : Nat} (h : i ≤ 2 * l.length - 1) : gp (corR x y l) i = rcp l (cor0 x y l l.length) i := rco_gp _ _ _ _ h
/-- A corner is a sum of some and the opposite of the others. -/
theorem cor_lo (x y : Int) (l : List Pt) {i : Nat} (h : i ≤ l.length) : rcp l (cor0 x y l l.length) i = padd (x, y) (psub (vsum (l.take i)) (vsum (l.drop i))) := by
  rw [rcp_lo _ _ _ h, cor0_eq _ _ _ _ (Nat.le_refl _), List.take_length]
  have e : vsum l = padd (vsum (l.take i)) (vsum (l.drop i)) := by rw [← vsum_app, List.take_append_drop]
  rw [e]; unfold padd psub
  exact Prod.ext (by simp only; omega) (by simp only; omega)
theorem cor_hi (x y : Int) (l : List Pt) {k : Nat} (h : k ≤ l.length) : rcp l (cor0 x y l l.length) (l.length + k) = padd (x, y) (psub (vsum (l.drop k)) (vsum (l.take k))) := by
  rw [rcp_hi _ _ _ h, cor0_eq _ _ _ _ (Nat.le_refl _), List.take_length]
  have e : vsum l = padd (vsum (l.take k)) (vsum (l.drop k)) := by rw [← vsum_app, List.take_append_drop]
  rw [e]; unfold padd psub
  exact Prod.ext (by simp only; omega) (by simp only; omega)
theorem swap_in {A B : List Pt} {d : Pt} (h : inZ (A ++ B) d) : inZ (B ++ A) d := fun n => by have := h n; rw [spr_app] at *; omega
/-- Each corner is in. -/
theorem cor_in (x y : Int) (l : List Pt) {i : Nat} (h : i < 2 * l.length - 1 + 1) : inZ l (psub (gp (corR x y l) i) (x, y)) := by
  rw [corR_gp x y l (by omega)]
  rcases Nat.lt_or_ge i (l.length + 1) with hk | hk
  · rw [cor_lo x y l (by omega)]
    have := inZ_split (l.take i) (l.drop i)
    rw [List.take_append_drop] at this
    have e : psub (padd (x, y) (psub (vsum (l.take i)) (vsum (l.drop i)))) (x, y) = psub (vsum (l.take i)) (vsum (l.drop i)) := by unfold psub padd; exact Prod.ext (by simp only; omega) (by simp only; omega)
    rw [e]; exact this
  obtain ⟨k, rfl⟩ : ∃ k, i = l.length + k := ⟨i - l.length, by omega⟩
  rw [cor_hi x y l (by omega)]
  have := swap_in (inZ_split (l.drop k) (l.take k))
  rw [List.take_append_drop] at this
  have e : psub (padd (x, y) (psub (vsum (l.drop k)) (vsum (l.take k)))) (x, y) = psub (vsum (l.drop k)) (vsum (l.take k)) := by unfold psub padd; exact Prod.ext (by simp only; omega) (by simp only; omega)
  rw [e]; exact this
open Go.RowKit
set_option maxHeartbeats 4000000
set_option maxRecDepth 100000
theorem rcorners_c (H : AHeap) (x y : Int) (s : AV) (l : List (Int × Int)) (hs : Sl H 2 s l.length (prs l)) (hl : l.length ≤ 40) (hB : ∀ e ∈ l, Bd 134217728 e) (hxy : -1099511627776 ≤ x ∧ x ≤ 1099511627776 ∧ -1099511627776 ≤ y ∧ y ≤ 1099511627776) : ACalls Try.prog 33 [.agg [iV x, iV y, s]] H (fun v H' => v = .sl (some (H.length, 0)) ((corR x y l).length) (capG (corR x y l).length) ∧ H' = H ++ [.cells (ownG (corR x y l).length) 2 (prs (corR x y l))]) := by
  obtain ⟨bs, os, cs, rfl, hbs⟩ := hs
  have hbls := getElem?_lt hbs
  have hb0s := fun l => get_app (l := l) hbs
  have hp0 : Bd 1200000000000 (cor0 x y l l.length) := by
      have h1 := cor0_bd (A := 1099511627776) (M := 134217728) hxy hB l.length (Nat.le_refl _)
      have h2 : ((l.length : Nat) : Int) * 134217728 ≤ 40 * 134217728 := by omega
      unfold Bd at *; omega
  refine AcT true Try.func33 ?_; intro hbel Q hQ
  have g'1 := (jn @hbs (jn @hb0s (jn @rem_nat @rem_nat1)))
  refine runTf g'1 ?_
  refine glp (fun k F Hx => ∃ i : Nat, i + k = l.length ∧ F = [(1, .ptr (some (H.length, 0))), (3, .ptr (some (H.length + 1, 0))), (4, iV ((i : Nat) : Int))] ∧ Hx = H ++ [.cells true 0 [iV x, iV y, .sl (some (bs, 0)) l.length cs], .cells true 0 [iV ((cor0 x y l i).1), iV ((cor0 x y l i).2)]]) (l.length) ?_ ?_
  · refine ⟨_, _, _, ⟨0, by omega, rfl, rfl⟩, bS hbel [0, 1] (absWf @cor0.eq_1)⟩
  rintro k0 F Hx ⟨i, hm0, rfl, rfl⟩ J0 hJ0
  refine runTf g'1 ?_
  refine cond_split (fun h1 => ?_) (fun h1 => ?_)
  · have h1d := h1
    try simp only [Bool.not_eq_true', Bool.not_eq_false', decide_eq_true_eq, decide_eq_false_iff_not, beq_iff_eq, bne_iff_ne, ne_eq, Bool.not_eq_true, Bool.not_eq_false, beq_eq_false_iff_ne, bne_eq_false_iff_eq, Classical.not_not, Bool.and_eq_true, Bool.and_eq_false_imp] at h1d
    have hgi := gpb (i := i) hB (by omega)
    have hcb0 := cor0_bd (A := 1099511627776) (M := 134217728) hxy hB i (by omega)
    unfold Bd at hcb0
    have q2 := prs_at0 (l := l) (j := i) (by omega)
    have q3 := prs_at1 (l := l) (j := i) (by omega)
    have g'2 := (jn h1 (jn h1d (jn q2 (jn q3 g'1))))
    refine runTf g'2 ?_
    refine hJ0 _ _ ⟨k0 - 1, by omega, _, _, _, ⟨i + 1, by omega, rfl, rfl⟩, bS hbel [0, 1] (absWf @cor0.eq_2)⟩
  have h1d := h1
  try simp only [Bool.not_eq_true', Bool.not_eq_false', decide_eq_true_eq, decide_eq_false_iff_not, beq_iff_eq, bne_iff_ne, ne_eq, Bool.not_eq_true, Bool.not_eq_false, beq_eq_false_iff_ne, bne_eq_false_iff_eq, Classical.not_not, Bool.and_eq_true, Bool.and_eq_false_imp] at h1d
  have hIl : i = l.length := by omega
  subst hIl
  have g'3 := j2 h1 h1d g'1
  refine runTf g'3 ?_
  refine glp (fun k F Hx => ∃ i : Nat, i + k = 2 * l.length - 1 ∧ F = [(1, .ptr (some (H.length, 0))), (3, .ptr (some (H.length + 1, 0))), (5, .sl (some (H.length + 2, 0)) ((rco l (cor0 x y l l.length) i).length) (capG (rco l (cor0 x y l l.length) i).length)), (6, iV ((i : Nat) : Int))] ∧ Hx = H ++ [.cells true 0 [iV x, iV y, .sl (some (bs, 0)) l.length cs], .cells true 0 [iV ((rcp l (cor0 x y l l.length) i).1), iV ((rcp l (cor0 x y l l.length) i).2)], .cells (ownG (rco l (cor0 x y l l.length) i).length) 2 (prs (rco l (cor0 x y l l.length) i))]) (2 * l.length - 1) ?_ ?_
  · refine ⟨_, _, _, ⟨0, by omega, rfl, rfl⟩, bS hbel [0, 1, 2] (absRf (jn @rco.eq_1 @rcp.eq_1))⟩
  rintro k1 F Hx ⟨i, hm1, rfl, rfl⟩ J1 hJ1
  have g'4 := (jn @prs_len (jn @prs_one g'3))
  refine runTf g'4 ?_
  refine cond_split (fun h4 => ?_) (fun h4 => ?_)
  · have h4d := h4
    try simp only [Bool.not_eq_true', Bool.not_eq_false', decide_eq_true_eq, decide_eq_false_iff_not, beq_iff_eq, bne_iff_ne, ne_eq, Bool.not_eq_true, Bool.not_eq_false, beq_eq_false_iff_ne, bne_eq_false_iff_eq, Classical.not_not, Bool.and_eq_true, Bool.and_eq_false_imp] at h4d
    have hmod : i % l.length < l.length := Nat.mod_lt _ (by omega)
    have hgm := gpb (i := i % l.length) hB hmod
    have hrb := rcp_bd hp0 hB (by omega) i
    have hrl := rco_len l (cor0 x y l l.length) i
    unfold Bd at hrb
    have q5 := prs_load (l := l) (j := i % l.length) (by omega)
    have g'5 := (jn h4 (jn h4d (jn q5 g'4)))
    refine runTf g'5 ?_
    refine cond_split (fun h6 => ?_) (fun h6 => ?_)
    · have h6d := h6
      try simp only [Bool.not_eq_true', Bool.not_eq_false', decide_eq_true_eq, decide_eq_false_iff_not, beq_iff_eq, bne_iff_ne, ne_eq, Bool.not_eq_true, Bool.not_eq_false, beq_eq_false_iff_ne, bne_eq_false_iff_eq, Classical.not_not, Bool.and_eq_true, Bool.and_eq_false_imp] at h6d
      have hst : stp l i = (-g1 l (i % l.length), -g2 l (i % l.length)) := if_pos (by omega)
      have g'6 := (jn h6 (jn h6d (jn @capG_s g'5)))
      refine runTf g'6 ?_
      refine hJ1 _ _ ⟨k1 - 1, by omega, _, _, _, ⟨i + 1, by omega, rfl, rfl⟩, bS hbel [0, 1, 5] (absRf (jn @rco.eq_2 (jn @rcp.eq_2 (jn @hst @Int.zero_sub))))⟩
    have h6d := h6
    try simp only [Bool.not_eq_true', Bool.not_eq_false', decide_eq_true_eq, decide_eq_false_iff_not, beq_iff_eq, bne_iff_ne, ne_eq, Bool.not_eq_true, Bool.not_eq_false, beq_eq_false_iff_ne, bne_eq_false_iff_eq, Classical.not_not, Bool.and_eq_true, Bool.and_eq_false_imp] at h6d
    have hst : stp l i = (g1 l (i % l.length), g2 l (i % l.length)) := if_neg (by omega)
    have g'7 := (jn h6 (jn h6d (jn @capG_s g'5)))
    refine runTf g'7 ?_
    refine hJ1 _ _ ⟨k1 - 1, by omega, _, _, _, ⟨i + 1, by omega, rfl, rfl⟩, bS hbel [0, 1, 5] (absRf (jn @rco.eq_2 (jn @rcp.eq_2 (jn @hst @Int.zero_sub))))⟩
  have h4d := h4
  try simp only [Bool.not_eq_true', Bool.not_eq_false', decide_eq_true_eq, decide_eq_false_iff_not, beq_iff_eq, bne_iff_ne, ne_eq, Bool.not_eq_true, Bool.not_eq_false, beq_eq_false_iff_ne, bne_eq_false_iff_eq, Classical.not_not, Bool.and_eq_true, Bool.and_eq_false_imp] at h4d
  have hfin : i = 2 * l.length - 1 := by omega
  have g'8 := j2 h4 h4d g'4
  refine runTf g'8 ?_
  refine hQ _ _ (end_byG (.inl rfl) hbel (x1 := .sl (some (H.length + 2, 0)) ((rco l (cor0 x y l l.length) i).length) (capG (rco l (cor0 x y l l.length) i).length)) (l2 := [.cells (ownG (rco l (cor0 x y l l.length) i).length) 2 (prs (rco l (cor0 x y l l.length) i))]) (.sl (some (H.length, 0)) ((rco l (cor0 x y l l.length) i).length) (capG (rco l (cor0 x y l l.length) i).length)) (resT Try.results33) [] rfl [2] (by decide) ⟨by simp [corR, h1d, h4d, hfin], by simp [corR, h1d, h4d, hfin]⟩ ?_)
  exact absW
/-- The corners of any zonogon, by the reference. -/
def corV (x y : Int) (l : List Pt) : List Pt := if validB x y l = true then corR x y (canonL l) else []
theorem rCorners_c (H : AHeap) (x y : Int) (s : AV) (l : List (Int × Int)) (hs : Sl H 2 s l.length (prs l)) (hl : l.length ≤ 1000000) : ACalls Try.prog 9 [.agg [iV x, iV y, s]] H (fun v H' => v = .sl (some (H.length, 0)) ((corV x y l).length) (capG (corV x y l).length) ∧ H' = H ++ [.cells (ownG (corV x y l).length) 2 (prs (corV x y l))]) := by
  obtain ⟨bs, os, cs, rfl, hbs⟩ := hs
  have hbls := getElem?_lt hbs
  have hb0s := fun l => get_app (l := l) hbs
  refine AcT true Try.func9 ?_; intro hbel Q hQ
  have g'9 := (jn @hbs @hb0s)
  refine runTf g'9 ?_
  refine cvr g'9 (rvalid_c _ x y _ l (.inr ⟨_, _, _, rfl, by first | exact hb0s _ | exact hbs⟩) (by omega)) ?_
  refine cond_split (fun h1 => ?_) (fun h1 => ?_)
  · have h1d := h1
    try simp only [Bool.not_eq_true', Bool.not_eq_false', decide_eq_true_eq, decide_eq_false_iff_not, beq_iff_eq, bne_iff_ne, ne_eq, Bool.not_eq_true, Bool.not_eq_false, beq_eq_false_iff_ne, bne_eq_false_iff_eq, Classical.not_not, Bool.and_eq_true, Bool.and_eq_false_imp] at h1d
    have g'10 := j2 h1 h1d g'9
    refine runTf g'10 ?_
    refine hQ _ _ (end_byG (.inl rfl) hbel (x1 := .sl none 0 (some 0)) (l2 := [.cells false 2 []]) (.sl (some (H.length, 0)) 0 (some 0)) (resT Try.results9) [.cells false 2 []] rfl [1] (by decide) ⟨by simp [corV, capG_0, ownG_0, prs_nil, h1d], by simp [corV, capG_0, ownG_0, prs_nil, h1d]⟩ ?_)
    exact absW
  have h1d := h1
  try simp only [Bool.not_eq_true', Bool.not_eq_false', decide_eq_true_eq, decide_eq_false_iff_not, beq_iff_eq, bne_iff_ne, ne_eq, Bool.not_eq_true, Bool.not_eq_false, beq_eq_false_iff_ne, bne_eq_false_iff_eq, Classical.not_not, Bool.and_eq_true, Bool.and_eq_false_imp] at h1d
  obtain ⟨hl16, hlB⟩ := valid_bd h1d
  have hxy := valid_bd3 h1d
  have hB2 : ∀ e ∈ l, Bd 268435456 e := fun e he => by have := hlB e he; unfold Bd at *; omega
  have hB4 : ∀ e ∈ l, Bd 4194304 e := fun e he => by have := hlB e he; unfold Bd at *; omega
  have hcb := canon_bd16 hl16 hlB
  have hcl := canonL_len l
  have hc27 : ∀ e ∈ canonL l, Bd 134217728 e := fun e he => by have := hcb e he; unfold Bd at *; omega
  have g'11 := j2 h1 h1d g'9
  refine runTf g'11 ?_
  refine cvr g'11 (rcanon_u _ x y _ l (.inr ⟨_, _, _, rfl, by first | exact hb0s _ | exact hbs⟩) (by first | omega | (simp only [List.length_cons, List.length_nil]; omega) | exact Nat.le_trans (mkL_len _ _) (by first | omega | simp) | exact Nat.le_trans (vL_len _ _) (by first | omega | simp) | exact Nat.le_trans corV_len (by omega) | exact Nat.le_trans (canonL_len _) (by first | omega | simp)) (by assumption)) ?_
  refine cvr g'11 (rcorners_c _ x y _ (canonL l) ⟨_, _, _, by first | rfl | (rw [List.length_append]; rfl), by first | rfl | (rw [get_newk]; rfl) | (rw [get_new0]; rfl) | (rw [get_newk, prs_append]; rfl) | (rw [get_new0, prs_append]; rfl)⟩ (by first | omega | (simp only [List.length_cons, List.length_nil]; omega) | exact Nat.le_trans (mkL_len _ _) (by first | omega | simp) | exact Nat.le_trans (vL_len _ _) (by first | omega | simp) | exact Nat.le_trans corV_len (by omega) | exact Nat.le_trans (canonL_len _) (by first | omega | simp)) (by assumption) (by omega)) ?_
  refine hQ _ _ (end_byG (.inl rfl) hbel (x1 := .sl (some (H.length + 2, 0)) ((corR x y (canonL l)).length) (capG (corR x y (canonL l)).length)) (l2 := [.cells (ownG (corR x y (canonL l)).length) 2 (prs (corR x y (canonL l)))]) (.sl (some (H.length, 0)) ((corR x y (canonL l)).length) (capG (corR x y (canonL l)).length)) (resT Try.results9) [] rfl [2] (by decide) ⟨by simp [corV, capG_0, ownG_0, prs_nil, h1d], by simp [corV, capG_0, ownG_0, prs_nil, h1d]⟩ ?_)
  exact absW
open Go.RowKit
theorem spr_axis {n : Pt} (hn : n = (1, 0) ∨ n = (0, 1)) : ∀ l : List Pt, (∀ e ∈ l, Bd 65536 e) → spr n l ≤ l.length * 65536
  | [], _ => by simp [spr]
  | g :: l, h => by
    have ih := spr_axis hn l fun e he => h e (by simp [he])
    have hg := h g (by simp)
    have : absI (dotP n g) ≤ 65536 := by
      rw [absI_le]
      unfold Bd at hg
      rcases hn with rfl | rfl <;> (unfold dotP; simp only; omega)
    rw [spr_cons, List.length_cons, Int.natCast_add]
    simp only [Int.natCast_one]
    omega
theorem in_bd {x y : Int} {l : List Pt} (hv : validB x y l = true) {p : Pt} (h : inZ l (psub p (x, y))) : Bd 9437184 p := by
  obtain ⟨hl16, hlB⟩ := valid_bd hv
  have hxy := valid_bd3 hv
  have a1 := h.abs (1, 0)
  have a2 := h.abs (0, 1)
  rw [absI_le] at a1 a2
  have b1 := spr_axis (.inl rfl) l hlB
  have b2 := spr_axis (.inr rfl) l hlB
  have c : ((l.length : Nat) : Int) * 65536 ≤ 16 * 65536 := Int.mul_le_mul_of_nonneg_right (by omega) (by decide)
  unfold dotP psub at a1 a2
  simp only at a1 a2
  unfold Bd
  omega
theorem corR_bd {x y : Int} {l : List Pt} (hv : validB x y l = true) : ∀ e ∈ corR x y (canonL l), Bd 9437184 e := fun e he => by
  obtain ⟨i, hi, rfl⟩ := List.getElem_of_mem he
  refine in_bd hv (inZ_canon.1 ?_)
  rw [corR_len] at hi
  have := cor_in x y (canonL l) hi
  rwa [gp_eq (by rw [corR_len]; exact hi)] at this
theorem corV_pos {x y : Int} {l : List Pt} (hv : validB x y l = true) : corV x y l = corR x y (canonL l) := if_pos hv
theorem hasB_iff {x y : Int} {l : List Pt} {x2 y2 : Int} : hasB x y l x2 y2 = true ↔ validB x y l = true ∧ within x2 16777216 = true ∧ within y2 16777216 = true ∧ inZ l (x2 - x, y2 - y) := by
  have hc := canonL_can l
  have h2 := beyond_iff hc.sorted hc.ups (x2 - x, y2 - y)
  rw [inZ_canon] at h2
  unfold hasB
  simp only [Bool.and_eq_true, Bool.not_eq_true', h2]
open Go.RowKit
/-- The length of a generator, by which it is sorted. -/
def key (g : Pt) : Int := absI g.1 + absI g.2
/-- One more into a sorted row, behind those that are as long. -/
def insG (x : Pt) : List Pt → List Pt
  | [] => [x]
  | y :: s => if key x < key y then x :: y :: s else y :: insG x s
def isrt (l : List Pt) : List Pt := l.foldl (fun s x => insG x s) []
theorem insG_perm (x : Pt) : ∀ s : List Pt, (insG x s).Perm (x :: s)
  | [] => .refl _
  | y :: s => by
    unfold insG
    split
    · exact .refl _
    exact ((insG_perm x s).cons y).trans (.swap x y s)
theorem foldl_perm : ∀ (l s : List Pt), (l.foldl (fun s x => insG x s) s).Perm (s ++ l)
  | [], s => by simp
  | x :: l, s => by
    rw [List.foldl_cons]
    refine (foldl_perm l _).trans ?_
    refine ((insG_perm x s).append_right l).trans ?_
    exact (List.perm_middle (l₁ := s) (l₂ := l) (a := x)).symm
theorem isrt_perm (l : List Pt) : (isrt l).Perm l := foldl_perm l []
theorem isrt_len (l : List Pt) : (isrt l).length = l.length := (isrt_perm l).length_eq
theorem insG_sorted (x : Pt) : ∀ s : List Pt, s.Pairwise (fun a b => key a ≤ key b) → (insG x s).Pairwise (fun a b => key a ≤ key b)
  | [], _ => by simp [insG]
  | y :: s, h => by
    rw [List.pairwise_cons] at h
    unfold insG
    split
    · rename_i hk
      refine List.pairwise_cons.2 ⟨fun b hb => ?_, List.pairwise_cons.2 h⟩
      rcases List.mem_cons.1 hb with rfl | hb
      · omega
      have := h.1 b hb; omega
    rename_i hk
    refine List.pairwise_cons.2 ⟨fun b hb => ?_, insG_sorted x s h.2⟩
    rcases List.mem_cons.1 ((insG_perm x s).mem_iff.1 hb) with rfl | hb
    · omega
    exact h.1 b hb
theorem foldl_sorted : ∀ (l s : List Pt), s.Pairwise (fun a b => key a ≤ key b) → (l.foldl (fun s x => insG x s) s).Pairwise (fun a b => key a ≤ key b)
  | [], _, h => h
  | x :: l, s, h => foldl_sorted l _ (insG_sorted x s h)
theorem isrt_sorted (l : List Pt) : (isrt l).Pairwise (fun a b => key a ≤ key b) := foldl_sorted l [] .nil
theorem isrt_snoc (l : List Pt) (x : Pt) : isrt (l ++ [x]) = insG x (isrt l) := by unfold isrt; rw [List.foldl_append]; rfl
theorem insG_lt {x y : Pt} (h : key x < key y) : ∀ s : List Pt, insG x (s ++ [y]) = insG x s ++ [y]
  | [] => by simp [insG, h]
  | z :: s => by
    rw [List.cons_append, insG, insG]
    split
    · rfl
    rw [insG_lt h s]; rfl
theorem insG_ge {x : Pt} : ∀ s : List Pt, (∀ a ∈ s, key a ≤ key x) → insG x s = s ++ [x]
  | [], _ => rfl
  | z :: s, h => by
    rw [insG, if_neg (by have := h z (by simp); omega), insG_ge s fun a ha => h a (by simp [ha])]; rfl
/-- Sorting in place: a generator moves on to the front while it is shorter. -/
def swpG (l : List Pt) (j : Nat) : List Pt := (l.set j (gp l (j - 1))).set (j - 1) (gp l j)
def sinkG : Nat → List Pt → List Pt
  | 0, l => l
  | j + 1, l => if key (gp l (j + 1)) < key (gp l j) then sinkG j (swpG l (j + 1)) else l
theorem swpG_len {l : List Pt} {j : Nat} : (swpG l j).length = l.length := by unfold swpG; rw [List.length_set, List.length_set]
theorem gp_app {A R : List Pt} {x : Pt} : gp (A ++ x :: R) A.length = x := by
  rw [gp_eq (by simp)]; simp
theorem gp_app2 {A R : List Pt} {y x : Pt} : gp (A ++ y :: x :: R) (A.length + 1) = x := by
  have : A ++ y :: x :: R = (A ++ [y]) ++ x :: R := by simp
  rw [this, show A.length + 1 = (A ++ [y]).length by simp, gp_app]
theorem swpG_app {A R : List Pt} {y x : Pt} : swpG (A ++ y :: x :: R) (A.length + 1) = A ++ x :: y :: R := by
  unfold swpG
  rw [Nat.add_sub_cancel, gp_app, gp_app2]
  rw [List.set_append_right _ _ (by omega), show A.length + 1 - A.length = 1 by omega]
  simp
theorem sinkG_ins (x : Pt) : ∀ (n : Nat) (A R : List Pt), A.length = n → A.Pairwise (fun a b => key a ≤ key b) → sinkG n (A ++ x :: R) = insG x A ++ R
  | 0, A, R, h, _ => by rw [List.eq_nil_of_length_eq_zero h]; rfl
  | n + 1, A, R, h, hs => by
    obtain ⟨B, y, rfl⟩ : ∃ B y, A = B ++ [y] := ⟨A.dropLast, A.getLast (by intro e; rw [e] at h; cases h), (List.dropLast_concat_getLast _).symm⟩
    have hb : B.length = n := by simpa using h
    subst hb
    have e : B ++ [y] ++ x :: R = B ++ y :: x :: R := by simp
    rw [e, sinkG, gp_app2, gp_app]
    rw [List.pairwise_append] at hs
    split
    · rename_i hk
      rw [swpG_app, sinkG_ins x B.length B (y :: R) rfl hs.1, insG_lt hk]; simp
    rename_i hk
    rw [insG_ge (B ++ [y]) fun a ha => ?_]
    · simp
    rcases List.mem_append.1 ha with q | q
    · have := hs.2.2 a q y (by simp); omega
    rw [List.mem_singleton.1 q]; omega
/-- The row behind i rounds. -/
def srtS (l : List Pt) : Nat → List Pt
  | 0 => l
  | i + 1 => sinkG (i + 1) (srtS l i)
theorem sinkG_len : ∀ {n : Nat} {l : List Pt}, (sinkG n l).length = l.length
  | 0, _ => rfl
  | n + 1, l => by
    unfold sinkG; split
    · rw [sinkG_len, swpG_len]
    rfl
theorem srtS_len {l : List Pt} : ∀ {i : Nat}, (srtS l i).length = l.length
  | 0 => rfl
  | i + 1 => by rw [srtS, sinkG_len, srtS_len]
theorem srtS_eq {l : List Pt} : ∀ {i : Nat}, i < l.length → srtS l i = isrt (l.take (i + 1)) ++ l.drop (i + 1)
  | 0, h => by
    obtain ⟨x, l, rfl⟩ : ∃ x m, l = x :: m := by cases l; cases h; exact ⟨_, _, rfl⟩
    rfl
  | i + 1, h => by
    have e : l.drop (i + 1) = gp l (i + 1) :: l.drop (i + 2) := by rw [List.drop_eq_getElem_cons h, gp_eq h]
    rw [srtS, srtS_eq (by omega), e, sinkG_ins _ (i + 1) _ _ (by rw [isrt_len, List.length_take]; omega) (isrt_sorted _)]
    rw [List.take_succ_eq_append_getElem h, isrt_snoc, gp_eq h]
theorem srtS_all {l : List Pt} (h : 0 < l.length) : srtS l (l.length - 1) = isrt l := by
  rw [srtS_eq (by omega), show l.length - 1 + 1 = l.length by omega, List.take_length, List.drop_length, List.append_nil]
/-- The first of the shortest ones, as the reference looks for it. -/
def bstG (l : List Pt) : Nat → Nat
  | 0 => 0
  | i + 1 => if key (gp l i) < key (gp l (bstG l i)) then i else bstG l i
theorem bst_lt {l : List Pt} : ∀ {i : Nat}, 0 < i → bstG l i < i
  | 1, _ => by
    unfold bstG; split
    · omega
    show bstG l 0 < 1; unfold bstG; omega
  | i + 2, _ => by
    unfold bstG; split
    · omega
    have := bst_lt (l := l) (i := i + 1) (by omega); omega
theorem bst_min {l : List Pt} : ∀ {i j : Nat}, j < i → key (gp l (bstG l i)) ≤ key (gp l j) ∧ (j < bstG l i → key (gp l (bstG l i)) < key (gp l j))
  | i + 1, j, h => by
    have e : bstG l (i + 1) = if key (gp l i) < key (gp l (bstG l i)) then i else bstG l i := rfl
    rcases Nat.lt_or_ge j i with q | q
    · have ih := bst_min (l := l) q
      by_cases hk : key (gp l i) < key (gp l (bstG l i))
      · rw [e, if_pos hk]; exact ⟨by omega, fun _ => by omega⟩
      rw [e, if_neg hk]; exact ih
    obtain rfl : j = i := by omega
    by_cases hk : key (gp l j) < key (gp l (bstG l j))
    · rw [e, if_pos hk]; exact ⟨by omega, fun k => by omega⟩
    rw [e, if_neg hk]
    refine ⟨by omega, fun k => ?_⟩
    rcases Nat.eq_zero_or_pos j with z | z
    · subst z; simp [bstG] at k
    have := bst_lt (l := l) z; omega
/-- The row without its first shortest one. -/
def rstG (l : List Pt) : List Pt := l.take (bstG l l.length) ++ l.drop (bstG l l.length + 1)
theorem rst_len {l : List Pt} (h : 0 < l.length) : (rstG l).length = l.length - 1 := by
  have := bst_lt (l := l) h
  unfold rstG; rw [List.length_append, List.length_take, List.length_drop]; omega
theorem foldl_min (m : Pt) : ∀ (B s : List Pt), (∀ b ∈ B, key m ≤ key b) → B.foldl (fun s x => insG x s) (m :: s) = m :: B.foldl (fun s x => insG x s) s
  | [], _, _ => rfl
  | b :: B, s, h => by
    rw [List.foldl_cons, List.foldl_cons, insG, if_neg (by have := h b (by simp); omega)]
    exact foldl_min m B _ fun x hx => h x (by simp [hx])
theorem isrt_min {A B : List Pt} {m : Pt} (hA : ∀ a ∈ A, key m < key a) (hB : ∀ b ∈ B, key m ≤ key b) : isrt (A ++ m :: B) = m :: isrt (A ++ B) := by
  have e : isrt (A ++ m :: B) = B.foldl (fun s x => insG x s) (insG m (isrt A)) := by unfold isrt; rw [List.foldl_append, List.foldl_cons]
  have e2 : isrt (A ++ B) = B.foldl (fun s x => insG x s) (isrt A) := by unfold isrt; rw [List.foldl_append]
  have e3 : insG m (isrt A) = m :: isrt A := by
    cases h : isrt A with
    | nil => rfl
    | cons y s =>
      have hy : y ∈ A := (isrt_perm A).mem_iff.1 (by rw [h]; simp)
      rw [insG, if_pos (hA y hy)]
  rw [e, e3, foldl_min m B _ hB, e2]
theorem isrt_step {l : List Pt} (h : 0 < l.length) : isrt l = gp l (bstG l l.length) :: isrt (rstG l) := by
  have hb := bst_lt (l := l) h
  have e : l = l.take (bstG l l.length) ++ gp l (bstG l l.length) :: l.drop (bstG l l.length + 1) := by
    rw [gp_eq hb, ← List.drop_eq_getElem_cons hb, List.take_append_drop]
  have k := isrt_min (A := l.take (bstG l l.length)) (B := l.drop (bstG l l.length + 1)) (m := gp l (bstG l l.length)) (fun a ha => ?_) (fun b hb' => ?_)
  · rw [← e] at k; exact k
  · obtain ⟨j, hj, rfl⟩ := List.mem_iff_getElem.1 ha
    rw [List.length_take] at hj
    have q := (bst_min (l := l) (i := l.length) (j := j) (by omega)).2 (by omega)
    rw [List.getElem_take, ← gp_eq (by omega : j < l.length)]; exact q
  obtain ⟨j, hj, rfl⟩ := List.mem_iff_getElem.1 hb'
  rw [List.length_drop] at hj
  have q := (bst_min (l := l) (i := l.length) (j := bstG l l.length + 1 + j) (by omega)).1
  rw [List.getElem_drop, ← gp_eq (by omega : bstG l l.length + 1 + j < l.length)]; exact q
/-- What is left behind n rounds, and the sums of what is taken. -/
def lftG (l : List Pt) : Nat → List Pt
  | 0 => l
  | n + 1 => rstG (lftG l n)
def pckG (l : List Pt) (n : Nat) : Pt := gp (lftG l n) (bstG (lftG l n) (lftG l n).length)
def sumX (l : List Pt) : Nat → Int
  | 0 => 0
  | n + 1 => sumX l n + absI (pckG l n).1
def sumY (l : List Pt) : Nat → Int
  | 0 => 0
  | n + 1 => sumY l n + absI (pckG l n).2
theorem lft_len {l : List Pt} : ∀ {n : Nat}, n ≤ l.length → (lftG l n).length = l.length - n
  | 0, _ => rfl
  | n + 1, h => by
    have ih := lft_len (l := l) (n := n) (by omega)
    rw [lftG, rst_len (by omega), ih]; omega
theorem isrt_lft {l : List Pt} : ∀ {n : Nat}, n ≤ l.length → (isrt l).drop n = isrt (lftG l n) ∧ ∀ i : Nat, i < n → gp (isrt l) i = pckG l i
  | 0, _ => ⟨rfl, fun i h => by omega⟩
  | n + 1, h => by
    have ih := isrt_lft (l := l) (n := n) (by omega)
    have hl := lft_len (l := l) (n := n) (by omega)
    have st := isrt_step (l := lftG l n) (by omega)
    have e : (isrt l).drop n = pckG l n :: isrt (rstG (lftG l n)) := ih.1.trans st
    have hn : n < (isrt l).length := by rw [isrt_len]; omega
    have e2 := List.drop_eq_getElem_cons hn
    rw [e] at e2
    injection e2 with a b
    refine ⟨b.symm, fun i hi => ?_⟩
    rcases Nat.lt_or_ge i n with q | q
    · exact ih.2 i q
    obtain rfl : i = n := by omega
    rw [gp_eq hn]; exact a.symm
/-- The sums over the first of the sorted row. -/
def sumA (l : List Pt) : Nat → Int
  | 0 => 0
  | n + 1 => sumA l n + absI (g1 l n)
def sumB (l : List Pt) : Nat → Int
  | 0 => 0
  | n + 1 => sumB l n + absI (g2 l n)
theorem sum_eq {l : List Pt} : ∀ {n : Nat}, n ≤ l.length → sumA (isrt l) n = sumX l n ∧ sumB (isrt l) n = sumY l n
  | 0, _ => ⟨rfl, rfl⟩
  | n + 1, h => by
    have ih := sum_eq (l := l) (n := n) (by omega)
    have k := (isrt_lft (l := l) (n := n + 1) h).2 n (by omega)
    have k1 : g1 (isrt l) n = (pckG l n).1 := by rw [← k]; rfl
    have k2 : g2 (isrt l) n = (pckG l n).2 := by rw [← k]; rfl
    rw [sumA, sumX, sumB, sumY, ih.1, ih.2, k1, k2]; exact ⟨rfl, rfl⟩
theorem sumA_spr (l : List Pt) : ∀ {n : Nat}, n ≤ l.length → sumA l n = spr (1, 0) (l.take n) ∧ sumB l n = spr (0, 1) (l.take n)
  | 0, _ => ⟨rfl, rfl⟩
  | n + 1, h => by
    have ih := sumA_spr l (n := n) (by omega)
    have e : l.take (n + 1) = l.take n ++ [gp l n] := by rw [List.take_succ_eq_append_getElem (by omega), gp_eq (by omega)]
    rw [sumA, sumB, e, spr_app, spr_app, ih.1, ih.2]
    have q1 : spr (1, 0) [gp l n] = absI (g1 l n) := by
      show absI (dotP (1, 0) (gp l n)) + 0 = _
      have : dotP (1, 0) (gp l n) = g1 l n := by unfold dotP gp; simp
      rw [this]; omega
    have q2 : spr (0, 1) [gp l n] = absI (g2 l n) := by
      show absI (dotP (0, 1) (gp l n)) + 0 = _
      have : dotP (0, 1) (gp l n) = g2 l n := by unfold dotP gp; simp
      rw [this]; omega
    rw [q1, q2]; exact ⟨rfl, rfl⟩
theorem spr_perm {l m : List Pt} (n : Pt) (h : l.Perm m) : spr n l = spr n m := by
  induction h with
  | nil => rfl
  | cons x _ ih => rw [spr_cons, spr_cons, ih]
  | swap x y l => rw [spr_cons, spr_cons, spr_cons, spr_cons]; omega
  | trans _ _ a b => rw [a, b]
theorem dirs_perm {l m : List Pt} (h : l.Perm m) : (dirs l).Perm (dirs m) := by unfold dirs; exact (h.map _).filter _
theorem canon_perm {l m : List Pt} (h : l.Perm m) : canonL l = canonL m := ((canonL_can l).perm (dirs_perm h)).eq (canonL_can m)
/-- Generators of nothing count for nothing. -/
theorem canon_zero (l : List Pt) : canonL (l ++ [(0, 0), (0, 0)]) = canonL l := by
  unfold canonL
  rw [List.foldl_append]
  have e : ∀ C : List Pt, putL C (0, 0) = C := fun C => by unfold putL; rw [if_pos (by decide)]
  simp only [List.foldl_cons, List.foldl_nil, e]
/-- A box holds what it stands for. -/
theorem box_spr (n : Pt) : ∀ l : List Pt, spr n l ≤ spr n [(spr (1, 0) l, 0), (0, spr (0, 1) l)]
  | [] => by
    rw [show spr (1, 0) ([] : List Pt) = 0 from rfl, show spr (0, 1) ([] : List Pt) = 0 from rfl]
    exact spr_nn n _
  | g :: l => by
    have ih := box_spr n l
    have h1 : ∀ a b : Int, spr n [(a, 0), (0, b)] = absI (n.1 * a) + absI (n.2 * b) := fun a b => by
      show absI (dotP n (a, 0)) + (absI (dotP n (0, b)) + 0) = _
      unfold dotP; simp
    have am : ∀ x y : Int, absI (x * y) = absI x * absI y := fun x y => by
      rcases Int.le_total 0 x with p | p
      · rcases Int.le_total 0 y with q | q
        · rw [absI_of_nn p, absI_of_nn q, absI_of_nn (Int.mul_nonneg p q)]
        rw [absI_of_nn p, absI_of_np q, absI_of_np (Int.mul_nonpos_of_nonneg_of_nonpos p q), Int.mul_neg]
      rcases Int.le_total 0 y with q | q
      · rw [absI_of_np p, absI_of_nn q, absI_of_np (Int.mul_nonpos_of_nonpos_of_nonneg p q), Int.neg_mul]
      rw [absI_of_np p, absI_of_np q, absI_of_nn (Int.mul_nonneg_of_nonpos_of_nonpos p q), Int.neg_mul_neg]
    rw [h1] at ih ⊢
    rw [spr_cons, spr_cons, spr_cons]
    have e1 : dotP (1, 0) g = g.1 := by unfold dotP; simp
    have e2 : dotP (0, 1) g = g.2 := by unfold dotP; simp
    rw [e1, e2]
    rw [am, am] at ih ⊢
    have nn1 := spr_nn (1, 0) l
    have nn2 := spr_nn (0, 1) l
    have z1 := absI_nn g.1
    have z2 := absI_nn g.2
    rw [absI_of_nn nn1, absI_of_nn nn2] at ih
    rw [absI_of_nn (by omega : 0 ≤ absI g.1 + spr (1, 0) l), absI_of_nn (by omega : 0 ≤ absI g.2 + spr (0, 1) l), Int.mul_add, Int.mul_add]
    have hd : absI (dotP n g) ≤ absI n.1 * absI g.1 + absI n.2 * absI g.2 := by
      rw [← am, ← am]
      unfold dotP
      have p1 := le_absI (n.1 * g.1); have p2 := le_absI (n.2 * g.2)
      have p3 := le_absI (-(n.1 * g.1)); have p4 := le_absI (-(n.2 * g.2))
      rw [absI_neg] at p3 p4
      refine absI_le.2 ⟨by omega, by omega⟩
    omega
theorem red_in {l : List Pt} {n : Nat} (hn : n ≤ l.length) {d : Pt} (h : inZ l d) : inZ (lftG l n ++ [(sumX l n, 0), (0, sumY l n)]) d := fun v => by
  have k := h v
  have hs := sum_eq hn
  have ha := sumA_spr (isrt l) (n := n) (by rw [isrt_len]; exact hn)
  have e : spr v l = spr v ((isrt l).take n) + spr v (lftG l n) := by
    rw [← spr_perm v (isrt_perm l), ← spr_perm v (isrt_perm (lftG l n)), ← (isrt_lft hn).1, ← spr_app, List.take_append_drop]
  have b := box_spr v ((isrt l).take n)
  rw [← ha.1, ← ha.2, hs.1, hs.2] at b
  rw [spr_app]
  omega
theorem swpG_mem {l : List Pt} {j : Nat} {e : Pt} (hj : j < l.length) (h : e ∈ swpG l j) : e ∈ l := by
  unfold swpG at h
  rcases List.mem_or_eq_of_mem_set h with q | q
  · rcases List.mem_or_eq_of_mem_set q with q | q
    · exact q
    rw [q, gp_eq (by omega : j - 1 < l.length)]; exact List.getElem_mem _
  rw [q, gp_eq hj]; exact List.getElem_mem _
theorem sinkG_mem : ∀ {n : Nat} {l : List Pt} {e : Pt}, n < l.length → e ∈ sinkG n l → e ∈ l
  | 0, _, _, _, h => h
  | n + 1, l, e, hn, h => by
    unfold sinkG at h
    split at h
    · exact swpG_mem hn (sinkG_mem (by rw [swpG_len]; omega) h)
    exact h
theorem srtS_mem {l : List Pt} : ∀ {i : Nat} {e : Pt}, i < l.length → e ∈ srtS l i → e ∈ l
  | 0, _, _, h => h
  | i + 1, e, hi, h => srtS_mem (by omega) (sinkG_mem (by rw [srtS_len]; exact hi) h)
theorem sink_y {m : List Pt} {q : Nat} (h : absI (g1 m (q + 1)) + absI (g2 m (q + 1)) < absI (g1 m q) + absI (g2 m q)) : sinkG (q + 1) m = sinkG q (swpG m (q + 1)) := if_pos h
theorem sink_n {m : List Pt} {q : Nat} (h : ¬ absI (g1 m (q + 1)) + absI (g2 m (q + 1)) < absI (g1 m q) + absI (g2 m q)) : sinkG (q + 1) m = m := if_neg h
theorem swp_set {m : List Pt} {q : Nat} : (m.set (q + 1) (g1 m q, g2 m q)).set q (g1 m (q + 1), g2 m (q + 1)) = swpG m (q + 1) := rfl
open Go.RowKit
open Go.RowKit
open Go.RowKit
theorem prs_set2 {l : List (Int × Int)} {j : Nat} {a b : Int} (h : j < l.length) : ((prs l).set (j * 2) (.int .i64 a)).set (j * 2 + 1) (.int .i64 b) = prs (l.set j (a, b)) := by
  induction l generalizing j with
  | nil => simp at h
  | cons p l ih =>
    cases j with
    | zero => simp [prs_cons]
    | succ j =>
      have e1 : (j + 1) * 2 = (j * 2).succ.succ := by omega
      have e2 : (j + 1) * 2 + 1 = (j * 2 + 1).succ.succ := by omega
      rw [prs_cons, e2, e1]
      show _ :: _ :: ((prs l).set (j * 2) (.int .i64 a)).set (j * 2 + 1) (.int .i64 b) = _
      rw [ih (by simpa using h)]
      rfl
open Go.RowKit
theorem bels_prs {n : Nat} : ∀ {l : List (Int × Int)}, AV.bels n (prs l) = true
  | [] => rfl
  | p :: l => by rw [prs_cons]; simp only [AV.bels, AV.bel, Bool.true_and]; exact bels_prs
theorem HBel.put {n : Nat} {H : AHeap} (h : HBel n H) (b : Nat) {x : ABlk} (hx : x.bel n = true) : HBel n (H.set b x) := fun c y hy => by
  rw [List.getElem?_set] at hy
  split at hy
  · split at hy
    · simp at hy; subst hy; exact hx
    cases hy
  exact h c y hy
open Go.RowKit
theorem set_last {H : AHeap} {a b : ABlk} : (H ++ [a]).set H.length b = H ++ [b] := by
  rw [List.set_append_right _ _ (Nat.le_refl _), Nat.sub_self]; rfl
theorem end_own {P : Program} {fn : Func} {H l1 : AHeap} {b0 b1 : ABlk} {R : AV → AHeap → Prop} {F : Fr} {e : Exit} (he : e = .ret ∨ e = .normal) (hbel : HBel (H ++ [b0]).length (H ++ [b0])) (hb : b1.bel (H ++ [b0]).length = true) {x : AV} (hx : aResult P fn F (H ++ b1 :: l1) = some x) (hp : x.bel 0 = true) (hR : R x (H ++ [b1])) : AEnd P fn (H ++ [b0]).length R e F (H ++ b1 :: l1) := by
  have h := hbel.put H.length hb
  rw [set_last] at h
  have hl : (H ++ [b1]).length = (H ++ [b0]).length := by rw [List.length_append, List.length_append]; rfl
  have ha : (H ++ [b1]) ++ l1 = H ++ b1 :: l1 := by rw [List.append_assoc]; rfl
  have k : AEnd P fn (H ++ [b1]).length R e F ((H ++ [b1]) ++ l1) := end_plain he (by rw [hl]; exact h) (x := x) (by rw [ha]; exact hx) hp hR
  rw [hl, ha] at k; exact k
/-- A call of a function without results, by its text. -/
theorem AcN {P : Program} (q : Bool) {f : FuncId} {fn : Func} {args : List AV} {R : AV → AHeap → Prop} {H : AHeap} (hf : P.funcs[f]? = some fn) {c : Code} (h : HBel H.length H → ∀ Q : Exit → Fr → AHeap → Prop, (∀ F H', AEnd P fn H.length R .normal F H' → Q .normal F H') → AGo P fn.ntmps H.length q Q [.code c] (argF 0 args) H)
    (hb : fn.body = some c := by rfl) (hm : P.follows .mixedOrders = true := by exact try_mixed) (ha : args.length ≤ fn.ntmps := by exact Nat.le_of_ble_eq_true (by kernel_rfl)) (hc : codeOk fn.ntmps q c = true := by kernel_rfl) : ACalls P f args H R :=
  ACalls_run hm hf q _ rfl ha (by rw [hb]; exact congrArg some hc) fun hbel Q _ hQ c' hc' => by
    rw [hb] at hc'
    injection hc' with hc'
    subst hc'
    exact h hbel Q hQ
/-- A state seen as another one, the caller's last block as it is. -/
theorem Abs.byO {n : Nat} {H : AHeap} {a b c : ABlk} {F1 F2 : Fr} (hbel : HBel (H ++ [a]).length (H ++ [a])) (hb : b.bel (H ++ [a]).length = true) (h : absF (H ++ [b]).length (sig (H ++ [b]).length 0 []) F1 F2) (hc : b = c := by rfl) (hn : n = H.length + 1 := by first | rfl | simp) : Abs n (sig n 0 []) F1 (H ++ [b]) F2 (H ++ [c]) := by
  subst hc
  have k := hbel.put H.length hb
  rw [set_last] at k
  have e : (H ++ [a]).length = (H ++ [b]).length := by rw [List.length_append, List.length_append]; rfl
  have e2 : n = (H ++ [b]).length := by rw [hn, List.length_append]; rfl
  rw [e] at k
  rw [e2]
  exact Abs.by0 k h
open Go.RowKit
theorem cmpI_lt {x y : Int} : cmpI x y < 0 ↔ x < y := by unfold cmpI; split <;> (try split) <;> omega
theorem red1_c (H : AHeap) (a b : Int) (c d : Int) (h1 : Bd 4194304 (a, b)) (h2 : Bd 4194304 (c, d)) : ACalls Try.prog 26 [.agg [iV a, iV b], .agg [iV c, iV d]] H (fun v H' => v = iV (cmpI (absI a + absI b) (absI c + absI d)) ∧ H' = H) := by
  have h1' := h1
  have h2' := h2
  unfold Bd at h1' h2'
  simp only at h1' h2'
  have hna := absI_le (x := a) (M := 4194304)
  have hnb := absI_le (x := b) (M := 4194304)
  have hnc := absI_le (x := c) (M := 4194304)
  have hnd := absI_le (x := d) (M := 4194304)
  have hza := absI_nn a
  have hzb := absI_nn b
  have hzc := absI_nn c
  have hzd := absI_nn d
  refine AcT true Try.func26 ?_; intro hbel Q hQ
  refine runT ?_
  refine cd (abs_c _ _ (by omega)) ?_
  refine runT ?_
  refine cd (abs_c _ _ (by omega)) ?_
  refine runT ?_
  refine cd (abs_c _ _ (by omega)) ?_
  refine runT ?_
  refine cd (abs_c _ _ (by omega)) ?_
  refine runT ?_
  refine cd (compare_c _ ((absI a) + (absI b)) ((absI c) + (absI d))) ?_
  refine runT ?_
  exact eP hQ hbel (iV (cmpI ((absI a) + (absI b)) ((absI c) + (absI d)))) Try.results26 ⟨rfl, rfl⟩
theorem insrt_c (H : AHeap) (l : List (Int × Int))    (h0 : 0 < l.length) (hl : l.length ≤ 1000) (hB : ∀ e ∈ l, Bd 1048576 e) : ACalls Try.prog 55 [.sl (some (H.length, 0)) l.length none, iV 0, iV ((l.length : Nat) : Int), .fn 26 []] (H ++ [.cells true 2 (prs l)]) (fun v H' => v = .tup [] ∧ H' = H ++ [.cells true 2 (prs (isrt l))]) := by
  refine AcN true Try.func55 ?_; intro hbel Q hQ
  refine runT ?_
  refine glp (fun k F Hx => ∃ i : Nat, i + 1 + k = l.length ∧ F = [(0, .sl (some (H.length, 0)) ((srtS l i).length) none), (1, iV 0), (2, iV ((l.length : Nat) : Int)), (3, .fn 26 []), (8, iV ((i + 1 : Nat) : Int))] ∧ Hx = H ++ [.cells true 2 (prs (srtS l i))]) (l.length - 1) ?_ ?_
  · refine ⟨_, _, _, ⟨0, by omega, rfl, rfl⟩, Abs.byO hbel (by simp only [ABlk.bel, AV.bels, AV.bel, Bool.true_and, prs_set2, bels_prs, srtS.eq_1]) ?_ (by simp only [prs_set2, srtS.eq_1])⟩
    exact absRf @srtS.eq_1
  rintro k0 F Hx ⟨i, hm0, rfl, rfl⟩ J0 hJ0
  have hsl := srtS_len (l := l) (i := i)
  have hi1 : ((i + 1 : Nat) : Int) + 1 = ((i + 1 + 1 : Nat) : Int) := rfl
  have g'1 := (jn @prs_len @prs_one)
  refine rcs g'1 (fun h1 h1d g'2 => ?_) (fun h1 h1d g'7 => ?_)
  · have hi : i + 1 < l.length := by omega
    have hsB : ∀ e ∈ srtS l i, Bd 1048576 e := fun e he => hB e (srtS_mem (by omega) he)
    refine runTf g'2 ?_
    refine glp (fun k F Hx => ∃ j : Nat, ∃ m : List (Int × Int), j = k ∧ m.length = l.length ∧ j ≤ i + 1 ∧ (∀ e ∈ m, Bd 1048576 e) ∧ sinkG j m = srtS l (i + 1) ∧ F = [(0, .sl (some (H.length, 0)) m.length none), (1, iV 0), (2, iV ((l.length : Nat) : Int)), (3, .fn 26 []), (8, iV ((i + 1 : Nat) : Int)), (9, iV ((j : Nat) : Int))] ∧ Hx = H ++ [.cells true 2 (prs m)]) (i + 1) ?_ ?_
    · refine ⟨_, _, _, ⟨i + 1, srtS l i, by omega, hsl, Nat.le_refl _, hsB, rfl, rfl, rfl⟩, Abs.byO hbel (by simp only [ABlk.bel, AV.bels, AV.bel, Bool.true_and, prs_set2, bels_prs]) ?_⟩
      exact absR
    rintro k1 F Hx ⟨j, m, hm1, hml, hji, hmB, hsk, rfl, rfl⟩ J1 hJ1
    refine rgs g'2 (fun h2 h2d _ => ?_) (fun h2 h2d g'6 => ?_)
    · obtain ⟨q, rfl⟩ : ∃ q, j = q + 1 := ⟨j - 1, by omega⟩
      have hsfq : ((q + 1 : Nat) : Int) - 1 = ((q : Nat) : Int) := by omega
      have hm1 : q + 1 < m.length := by omega
      have hsfm : q < m.length := by omega
      have hsfn : q + 1 < m.length := by omega
      have hb1 := gpb (i := q + 1) hmB (by omega)
      have hb2 := gpb (i := q) hmB (by omega)
      have q3 := prs_load (l := m) (j := q + 1) (by omega)
      have q4 := prs_load (l := m) (j := q) (by omega)
      have g'3 := (jn h2 (jn h2d (jn @hsfq (jn @hsfm (jn @hsfn (jn q3 (jn q4 g'2)))))))
      refine runTf g'3 ?_
      refine cd (red1_c _ _ _ _ _ (by unfold Bd at *; simp only at *; omega) (by unfold Bd at *; simp only at *; omega)) ?_
      refine rcs g'3 (fun h5 h5d _ => ?_) (fun h5 h5d g'5 => ?_)
      · have hlt : absI (g1 m (q + 1)) + absI (g2 m (q + 1)) < absI (g1 m q) + absI (g2 m q) := cmpI_lt.1 h5d
        have q6 := prs_load (l := m) (j := q) (by omega)
        have q7 := prs_load (l := m) (j := q + 1) (by omega)
        have g'4 := (jn h5 (jn h5d (jn q6 (jn q7 (jn @prs_set2 (jn @List.length_set.{0} g'3))))))
        refine runTf g'4 ?_
        refine hJ1 _ _ ⟨k1 - 1, by omega, _, _, _, ⟨q, swpG m (q + 1), by omega, by rw [swpG_len]; exact hml, by omega, fun e he => hmB e (swpG_mem (by omega) he), by rw [← sink_y hlt]; exact hsk, rfl, rfl⟩, Abs.byO hbel (by simp only [ABlk.bel, AV.bels, AV.bel, Bool.true_and, prs_set2, bels_prs, swp_set, swpG_len, hsfm, List.length_set]) ?_ (by simp only [prs_set2, swp_set, swpG_len, hsfm, List.length_set])⟩
        exact absRf (jn @swp_set (jn @swpG_len (jn @hsfm @List.length_set.{0})))
      have hnl : ¬ absI (g1 m (q + 1)) + absI (g2 m (q + 1)) < absI (g1 m q) + absI (g2 m q) := fun k => absurd (cmpI_lt.2 k) (by first | exact h5d | exact Int.not_lt.2 h5d)
      have hend : m = srtS l (i + 1) := by rw [← sink_n hnl]; exact hsk
      refine runTf g'5 ?_
      refine hJ0 _ _ ⟨k0 - 1, by omega, _, _, _, ⟨i + 1, by omega, rfl, rfl⟩, Abs.byO hbel (by simp only [ABlk.bel, AV.bels, AV.bel, Bool.true_and, prs_set2, bels_prs, hend, srtS_len, hi1]) ?_ (by simp only [prs_set2, hend, srtS_len, hi1])⟩
      exact absRf (jn @hend (jn @srtS_len @hi1))
    have hj0 : j = 0 := by omega
    have hend : m = srtS l (i + 1) := by have q := hsk; rw [hj0] at q; exact q
    refine runTf g'6 ?_
    refine hJ0 _ _ ⟨k0 - 1, by omega, _, _, _, ⟨i + 1, by omega, rfl, rfl⟩, Abs.byO hbel (by simp only [ABlk.bel, AV.bels, AV.bel, Bool.true_and, prs_set2, bels_prs, hend, srtS_len, hi1]) ?_ (by simp only [prs_set2, hend, srtS_len, hi1])⟩
    exact absRf (jn @hend (jn @srtS_len @hi1))
  have hfinI : i = l.length - 1 := by omega
  have hfinS : srtS l i = isrt l := by rw [hfinI]; exact srtS_all h0
  refine runTf g'7 ?_
  exact hQ _ _ (end_own (b1 := .cells true 2 (prs (srtS l i))) (by first | exact .inl rfl | exact .inr rfl) hbel (by simp only [ABlk.bel, AV.bels, AV.bel, Bool.true_and, bels_prs]) (x := .tup []) (resT Try.results55) rfl ⟨rfl, by rw [hfinS]⟩)
theorem stabl_c (H : AHeap) (l : List (Int × Int))   (h0 : 0 < l.length) (hl : l.length ≤ 19) (hB : ∀ e ∈ l, Bd 1048576 e) : ACalls Try.prog 45 [.sl (some (H.length, 0)) l.length none, iV ((l.length : Nat) : Int), .fn 26 []] (H ++ [.cells true 2 (prs l)]) (fun v H' => v = .tup [] ∧ H' = H ++ [.cells true 2 (prs (isrt l))]) := by
  refine AcN true Try.func45 ?_; intro hbel Q hQ
  refine runT ?_
  refine glp (fun k F Hx => ∃ z : Unit, k = 0 ∧ F = [(0, .sl (some (H.length, 0)) l.length none), (1, iV ((l.length : Nat) : Int)), (2, .fn 26 []), (6, iV 20), (7, iV 0), (8, iV 20)] ∧ Hx = H ++ [.cells true 2 (prs l)]) (0) ?_ ?_
  · refine ⟨_, _, _, ⟨(), by omega, rfl, rfl⟩, Abs.byO hbel (by simp only [ABlk.bel, AV.bels, AV.bel, Bool.true_and, prs_set2, bels_prs]) ?_⟩
    exact absR
  rintro k0 F Hx ⟨z, hm0, rfl, rfl⟩ J0 hJ0
  have g'8 := (jn @prs_len @prs_one)
  refine rcs g'8 (fun h1 h1d _ => ?_) (fun h1 h1d g'9 => ?_)
  · omega
  refine runTf g'9 ?_
  refine cvr g'9 (insrt_c H l h0 (by omega) hB) ?_
  refine glp (fun k F Hx => ∃ z : Unit, k = 0 ∧ F = [(0, .sl (some (H.length, 0)) l.length none), (1, iV ((l.length : Nat) : Int)), (2, .fn 26 []), (6, iV 20)] ∧ Hx = H ++ [.cells true 2 (prs (isrt l))]) (0) ?_ ?_
  · refine ⟨_, _, _, ⟨(), by omega, rfl, rfl⟩, Abs.byO hbel (by simp only [ABlk.bel, AV.bels, AV.bel, Bool.true_and, prs_set2, bels_prs]) ?_⟩
    exact absR
  rintro k1 F Hx ⟨z, hm1, rfl, rfl⟩ J1 hJ1
  refine rcs g'9 (fun h2 h2d _ => ?_) (fun h2 h2d g'10 => ?_)
  · omega
  refine runTf g'10 ?_
  exact hQ _ _ (end_own (b1 := .cells true 2 (prs (isrt l))) (by first | exact .inl rfl | exact .inr rfl) hbel (by simp only [ABlk.bel, AV.bels, AV.bel, Bool.true_and, bels_prs]) (x := .tup []) (resT Try.results45) rfl ⟨rfl, rfl⟩)
theorem sstab_c (H : AHeap) (l : List (Int × Int))  (h0 : 0 < l.length) (hl : l.length ≤ 19) (hB : ∀ e ∈ l, Bd 1048576 e) : ACalls Try.prog 25 [.sl (some (H.length, 0)) l.length none, .fn 26 []] (H ++ [.cells true 2 (prs l)]) (fun v H' => v = .tup [] ∧ H' = H ++ [.cells true 2 (prs (isrt l))]) := by
  refine AcN true Try.func25 ?_; intro hbel Q hQ
  refine runT ?_
  refine cv (stabl_c H l h0 hl hB) ?_
  refine runT ?_
  exact hQ _ _ (end_own (b1 := .cells true 2 (prs (isrt l))) (by first | exact .inl rfl | exact .inr rfl) hbel (by simp only [ABlk.bel, AV.bels, AV.bel, Bool.true_and, bels_prs]) (x := .tup []) (resT Try.results25) rfl ⟨rfl, rfl⟩)
open Go.RowKit
theorem prs_dropv {l : List (Int × Int)} {k : Nat} (h : k ≤ l.length) : List.take ((l.length - k) * 2) (List.drop (k * 2) (prs l)) = prs (l.drop k) := by
  have e : prs l = prs (l.take k) ++ prs (l.drop k) := by rw [← prs_append, List.take_append_drop]
  rw [e, List.drop_append_of_le_length (by rw [prs_len, List.length_take]; omega), List.drop_of_length_le (by rw [prs_len, List.length_take]; omega), List.nil_append]
  exact List.take_of_length_le (by rw [prs_len, List.length_drop]; exact Nat.le_refl _)
theorem spr_take (n : Pt) (l : List Pt) (k : Nat) : spr n (l.take k) ≤ spr n l := by
  have e : spr n l = spr n (l.take k) + spr n (l.drop k) := by rw [← spr_app, List.take_append_drop]
  have := spr_nn n (l.drop k)
  omega
/-- The generators that are replaced. -/
def redN (k : Nat) (m : Int) : Nat := if (k : Int) ≤ m then 0 else ((k : Int) + 2 - m).toNat
def redL (l : List Pt) (m : Int) : List Pt := canonL (lftG (canonL l) (redN (canonL l).length m) ++ [(sumX (canonL l) (redN (canonL l).length m), 0), (0, sumY (canonL l) (redN (canonL l).length m))])
def redE (x y : Int) (l : List Pt) (m : Int) : Int := if validB x y l = true then (if m < 2 ∨ 16 < m then 2 else if validB x y (redL l m) = true then 0 else 6) else 1
theorem canon_idem (l : List Pt) : canonL (canonL l) = canonL l := by
  have hd : dirs (canonL l) = canonL l := by
    have : ∀ {C : List Pt}, (∀ e ∈ C, up e) → dirs C = C := by
      intro C
      induction C with
      | nil => exact fun _ => rfl
      | cons e C ih =>
        intro h
        have he := h e (by simp)
        have ih := ih fun x hx => h x (by simp [hx])
        have hn : nrm e = e := by unfold up at he; unfold nrm; rw [if_neg (by omega)]
        unfold dirs at ih ⊢
        rw [List.map_cons, hn, List.filter_cons, if_pos (by simp only [decide_eq_true_eq]; exact up_ne he), ih]
    exact this (canonL_can l).ups
  have h1 := canonL_can (canonL l)
  rw [hd] at h1
  exact h1.eq ⟨(canonL_can l).sorted, (canonL_can l).ups, fun g _ => rfl⟩
theorem redL_le {l : List Pt} {m : Int} (h : (((canonL l).length : Nat) : Int) ≤ m) : redL l m = canonL l := by
  unfold redL redN
  rw [if_pos h]
  show canonL (canonL l ++ [(0, 0), (0, 0)]) = _
  rw [canon_zero, canon_idem]
theorem redN_gt {k : Nat} {m : Int} (h : ¬ ((k : Nat) : Int) ≤ m) {n : Nat} (hn : (k : Int) + 2 - m = (n : Int)) : redN k m = n := by
  unfold redN; rw [if_neg h, hn]; rfl
theorem redL_gt {l : List Pt} {m : Int} (h : ¬ (((canonL l).length : Nat) : Int) ≤ m) {n : Nat} (hn : (((canonL l).length : Nat) : Int) + 2 - m = (n : Int)) (hk : n ≤ (canonL l).length) : canonL (List.drop n (isrt (canonL l)) ++ [(sumA (isrt (canonL l)) n, 0), (0, sumB (isrt (canonL l)) n)]) = redL l m := by
  unfold redL
  rw [redN_gt h hn, (isrt_lft hk).1, (sum_eq hk).1, (sum_eq hk).2]
  exact canon_perm ((isrt_perm _).append_right _)
theorem redL_len {l : List Pt} {m : Int} (h2 : 2 ≤ m) : (((redL l m).length : Nat) : Int) ≤ m := by
  by_cases h : (((canonL l).length : Nat) : Int) ≤ m
  · rw [redL_le h]; exact h
  obtain ⟨n, hn⟩ : ∃ n : Nat, (((canonL l).length : Nat) : Int) + 2 - m = (n : Int) := ⟨((((canonL l).length : Nat) : Int) + 2 - m).toNat, by omega⟩
  have hk : n ≤ (canonL l).length := by omega
  rw [← redL_gt h hn hk]
  have := canonL_len (List.drop n (isrt (canonL l)) ++ [(sumA (isrt (canonL l)) n, 0), (0, sumB (isrt (canonL l)) n)])
  rw [List.length_append, List.length_drop, isrt_len] at this
  simp only [List.length_cons, List.length_nil] at this
  omega
theorem redL_in {l : List Pt} {m : Int} (h2 : 2 ≤ m) {d : Pt} (h : inZ l d) : inZ (redL l m) d := by
  have h := inZ_canon.2 h
  by_cases hm : (((canonL l).length : Nat) : Int) ≤ m
  · rw [redL_le hm]; exact h
  unfold redL
  refine inZ_canon.2 (red_in ?_ h)
  unfold redN
  rw [if_neg hm]; omega
theorem sumA_bd {l : List Pt} (hl : l.length ≤ 16) (hB : ∀ e ∈ l, Bd 65536 e) {n : Nat} (hn : n ≤ (canonL l).length) : (0 ≤ sumA (isrt (canonL l)) n ∧ sumA (isrt (canonL l)) n ≤ 1048576) ∧ 0 ≤ sumB (isrt (canonL l)) n ∧ sumB (isrt (canonL l)) n ≤ 1048576 := by
  have ha := sumA_spr (isrt (canonL l)) (n := n) (by rw [isrt_len]; exact hn)
  rw [ha.1, ha.2]
  have c : ((l.length : Nat) : Int) * 65536 ≤ 16 * 65536 := Int.mul_le_mul_of_nonneg_right (by omega) (by decide)
  have k1 := spr_take (1, 0) (isrt (canonL l)) n
  have k2 := spr_take (0, 1) (isrt (canonL l)) n
  rw [spr_perm _ (isrt_perm _), spr_canon] at k1 k2
  have b1 := spr_axis (.inl rfl) l hB
  have b2 := spr_axis (.inr rfl) l hB
  have z1 := spr_nn (1, 0) ((isrt (canonL l)).take n)
  have z2 := spr_nn (0, 1) ((isrt (canonL l)).take n)
  omega
theorem sumX_bd {l : List Pt} (hl : l.length ≤ 16) (hB : ∀ e ∈ l, Bd 65536 e) {n : Nat} (hn : n ≤ (canonL l).length) : (0 ≤ sumX (canonL l) n ∧ sumX (canonL l) n ≤ 1048576) ∧ 0 ≤ sumY (canonL l) n ∧ sumY (canonL l) n ≤ 1048576 := by
  have h := sumA_bd hl hB hn
  rwa [(sum_eq hn).1, (sum_eq hn).2] at h
theorem mem_isrt {l : List Pt} {e : Pt} (h : e ∈ isrt l) : e ∈ l := (isrt_perm l).mem_iff.1 h
theorem lft_mem {l : List Pt} : ∀ {n : Nat} {e : Pt}, e ∈ lftG l n → e ∈ l
  | 0, _, h => h
  | n + 1, e, h => by
    unfold lftG rstG at h
    rcases List.mem_append.1 h with q | q
    · exact lft_mem (List.mem_of_mem_take q)
    exact lft_mem (List.mem_of_mem_drop q)
open Go.RowKit
def sameB (x1 y1 : Int) (l1 : List Pt) (x2 y2 : Int) (l2 : List Pt) : Bool := validB x1 y1 l1 && (validB x2 y2 l2 && (x1 == x2 && y1 == y2 && decide (canonL l1 = canonL l2)))
theorem same_c (H : AHeap) (x1 y1 : Int) (s : AV) (l : List (Int × Int)) (x2 y2 : Int) (t : AV) (m : List (Int × Int)) (hs : Sl H 2 s l.length (prs l)) (ht : Sl H 2 t m.length (prs m)) : ACalls Try.prog 20 [.agg [iV x1, iV y1, s], .agg [iV x2, iV y2, t]] H (fun v H' => v = .bool (sameB x1 y1 l x2 y2 m) ∧ H' = H) := by
  obtain ⟨bs, os, cs, rfl, hbs⟩ := hs
  have hbls := getElem?_lt hbs
  have hb0s := fun l => get_app (l := l) hbs
  obtain ⟨bt, ot, ct, rfl, hbt⟩ := ht
  have hblt := getElem?_lt hbt
  have hb0t := fun l => get_app (l := l) hbt
  (refine ACalls_pieces Try.func20 _ rfl (Nat.le_of_ble_eq_true (by kernel_rfl)) rfl ?_; intro hbel Q hQ hQ' c hc; unfold Try.f20 at hc; simp only [Option.some.injEq] at hc; subst hc; clear hQ')
  refine AW_step false try_mixed (by kernel_rfl) (fun F Hx => look F 2 = .ptr (some (H.length, 0)) ∧ look F 3 = .ptr (some (H.length + 1, 0)) ∧ look F 4 = .bool false ∧ Hx = H ++ [.cells true 0 [iV x1, iV y1, .sl (some (bs, 0)) l.length cs], .cells true 0 [iV x2, iV y2, .sl (some (bt, 0)) m.length ct]]) ?_ ?_
  · have g'1 := (jn @hbs (jn @hb0s (jn @hbt @hb0t)))
    refine runTf g'1 ?_
    refine inv_of ?_
    exact absT
  rintro F Hx ⟨f1, f2, f3, rfl⟩
  refine AW_step false try_mixed (by kernel_rfl) (fun F Hx => validB x1 y1 l = true ∧ validB x2 y2 m = true ∧ look F 2 = .ptr (some (H.length, 0)) ∧ look F 3 = .ptr (some (H.length + 1, 0)) ∧ look F 4 = .bool false ∧ Hx = H ++ [.cells true 0 [iV x1, iV y1, .sl (some (bs, 0)) l.length cs], .cells true 0 [iV x2, iV y2, .sl (some (bt, 0)) m.length ct]]) ?_ ?_
  · have g'2 := (jn @hbs (jn @hb0s (jn @hbt (jn @hb0t (jn @f1 (jn @f2 @f3))))))
    refine runTf g'2 ?_
    refine cvr g'2 (valid_c _ x1 y1 _ l (.inr ⟨_, _, _, rfl, by first | exact hb0s _ | exact hbs⟩)) ?_
    refine gd_split (fun h4 => ?_) (fun h4 => ?_)
    · have h4d := h4
      try simp only [Bool.not_eq_true', Bool.not_eq_false', decide_eq_true_eq, decide_eq_false_iff_not, beq_iff_eq, bne_iff_ne, ne_eq, Bool.not_eq_true, Bool.not_eq_false, beq_eq_false_iff_ne, bne_eq_false_iff_eq, Classical.not_not, Bool.and_eq_true, Bool.and_eq_false_imp] at h4d
      have g'3 := j2 h4 h4d g'2
      refine runTf g'3 ?_
      refine cvr g'3 (valid_c _ x2 y2 _ m (.inr ⟨_, _, _, rfl, by first | exact hb0t _ | exact hbt⟩)) ?_
      refine cond_split (fun h5 => ?_) (fun h5 => ?_)
      · have h5d := h5
        try simp only [Bool.not_eq_true', Bool.not_eq_false', decide_eq_true_eq, decide_eq_false_iff_not, beq_iff_eq, bne_iff_ne, ne_eq, Bool.not_eq_true, Bool.not_eq_false, beq_eq_false_iff_ne, bne_eq_false_iff_eq, Classical.not_not, Bool.and_eq_true, Bool.and_eq_false_imp] at h5d
        have g'4 := j2 h5 h5d g'3
        exact eR g'4 hQ hbel (.bool false) Try.results20 ⟨by first | (simp [sameB, h4d, h5d]; done) | (simp only [sameB, true_and, Bool.true_and]; simp [h4d, h5d]), rfl⟩
      have h5d := h5
      try simp only [Bool.not_eq_true', Bool.not_eq_false', decide_eq_true_eq, decide_eq_false_iff_not, beq_iff_eq, bne_iff_ne, ne_eq, Bool.not_eq_true, Bool.not_eq_false, beq_eq_false_iff_ne, bne_eq_false_iff_eq, Classical.not_not, Bool.and_eq_true, Bool.and_eq_false_imp] at h5d
      have g'5 := j2 h5 h5d g'3
      refine runTf g'5 ?_
      refine inv_of ?_
      exact absTf (jn @f1 (jn @f2 @f3))
    have h4d := h4
    try simp only [Bool.not_eq_true', Bool.not_eq_false', decide_eq_true_eq, decide_eq_false_iff_not, beq_iff_eq, bne_iff_ne, ne_eq, Bool.not_eq_true, Bool.not_eq_false, beq_eq_false_iff_ne, bne_eq_false_iff_eq, Classical.not_not, Bool.and_eq_true, Bool.and_eq_false_imp] at h4d
    have g'6 := j2 h4 h4d g'2
    exact eR g'6 hQ hbel (.bool false) Try.results20 ⟨by first | (simp [sameB, h4d]; done) | (simp only [sameB, true_and, Bool.true_and]; simp [h4d]), rfl⟩
  rintro F Hx ⟨h6d, h7d, f8, f9, f10, rfl⟩
  obtain ⟨hl16, hlB⟩ := valid_bd h6d
  obtain ⟨hm16, hmB⟩ := valid_bd h7d
  have hB4 : ∀ e ∈ l, Bd 4194304 e := fun e he => by have := hlB e he; unfold Bd at *; omega
  have hM4 : ∀ e ∈ m, Bd 4194304 e := fun e he => by have := hmB e he; unfold Bd at *; omega
  refine AW_special false try_mixed [[0, 1, 2, 3, 4, 5, 6, 7], [0, 1, 2, 3, 5, 4, 6, 7], [0, 1, 2, 5, 3, 4, 6, 7], [0, 2, 5, 1, 3, 4, 6, 7], [0, 1, 2, 4, 3, 5, 6, 7], [0, 1, 2, 4, 5, 3, 6, 7], [0, 1, 2, 5, 4, 3, 6, 7], [0, 2, 5, 1, 4, 3, 6, 7], [0, 2, 4, 1, 3, 5, 6, 7], [0, 2, 4, 1, 5, 3, 6, 7], [0, 2, 4, 5, 1, 3, 6, 7], [0, 2, 5, 4, 1, 3, 6, 7]] (by kernel_rfl) (fun F2 H2 => F2 = [(4, .bool false), (5, .ptr (some (H.length + 2, 0))), (6, .ptr (some (H.length + 3, 0)))] ∧ H2 = H ++ [.cells (ownG (canonL l).length) 2 (prs (canonL l)), .cells (ownG (canonL m).length) 2 (prs (canonL m)), .cells true 0 [iV x1, iV y1, .sl (some (H.length, 0)) ((canonL l).length) (capG (canonL l).length)], .cells true 0 [iV x2, iV y2, .sl (some (H.length + 1, 0)) ((canonL m).length) (capG (canonL m).length)]]) ?_ ?_
  · refine reps_cons ?_ (reps_cons ?_ (reps_cons ?_ (reps_cons ?_ (reps_cons ?_ (reps_cons ?_ (reps_cons ?_ (reps_cons ?_ (reps_cons ?_ (reps_cons ?_ (reps_cons ?_ (reps_cons ?_ (reps_nil)))))))))))) <;> intro J hJ
    · have g'7 := (jn @hbs (jn @hb0s (jn @hbt (jn @hb0t (jn @f1 (jn @f2 (jn @f3 (jn @f8 (jn @f9 (jn @f10 (jn h6d @h7d)))))))))))
      refine runDf g'7 ?_
      refine cx (canonical_u _ x1 y1 _ l (.inr ⟨_, _, _, rfl, by first | exact hb0s _ | exact hbs⟩) (by first | omega | (simp only [List.length_cons, List.length_nil]; omega) | exact Nat.le_trans (mkL_len _ _) (by first | omega | simp) | exact Nat.le_trans (vL_len _ _) (by first | omega | simp) | exact Nat.le_trans corV_len (by omega) | exact Nat.le_trans (canonL_len _) (by first | omega | simp)) (by assumption)) ?_
      refine runDf g'7 ?_
      refine cx (canonical_u _ x2 y2 _ m (.inr ⟨_, _, _, rfl, by first | exact hb0t _ | exact hbt⟩) (by first | omega | (simp only [List.length_cons, List.length_nil]; omega) | exact Nat.le_trans (mkL_len _ _) (by first | omega | simp) | exact Nat.le_trans (vL_len _ _) (by first | omega | simp) | exact Nat.le_trans corV_len (by omega) | exact Nat.le_trans (canonL_len _) (by first | omega | simp)) (by assumption)) ?_
      refine runDf g'7 ?_
      refine inv_of (hJ _ _ ⟨_, _, _, ⟨rfl, rfl⟩, bS hbel [2, 3, 4, 5] (absRf (jn @f1 (jn @f2 (jn @f3 (jn @f8 (jn @f9 @f10))))))⟩)
    · have g'8 := (jn @hbs (jn @hb0s (jn @hbt (jn @hb0t (jn @f1 (jn @f2 (jn @f3 (jn @f8 (jn @f9 (jn @f10 (jn h6d @h7d)))))))))))
      refine runDf g'8 ?_
      refine cx (canonical_u _ x1 y1 _ l (.inr ⟨_, _, _, rfl, by first | exact hb0s _ | exact hbs⟩) (by first | omega | (simp only [List.length_cons, List.length_nil]; omega) | exact Nat.le_trans (mkL_len _ _) (by first | omega | simp) | exact Nat.le_trans (vL_len _ _) (by first | omega | simp) | exact Nat.le_trans corV_len (by omega) | exact Nat.le_trans (canonL_len _) (by first | omega | simp)) (by assumption)) ?_
      refine runDf g'8 ?_
      refine cx (canonical_u _ x2 y2 _ m (.inr ⟨_, _, _, rfl, by first | exact hb0t _ | exact hbt⟩) (by first | omega | (simp only [List.length_cons, List.length_nil]; omega) | exact Nat.le_trans (mkL_len _ _) (by first | omega | simp) | exact Nat.le_trans (vL_len _ _) (by first | omega | simp) | exact Nat.le_trans corV_len (by omega) | exact Nat.le_trans (canonL_len _) (by first | omega | simp)) (by assumption)) ?_
      refine runDf g'8 ?_
      refine inv_of (hJ _ _ ⟨_, _, _, ⟨rfl, rfl⟩, bS hbel [2, 3, 5, 4] (absRf (jn @f1 (jn @f2 (jn @f3 (jn @f8 (jn @f9 @f10))))))⟩)
    · have g'9 := (jn @hbs (jn @hb0s (jn @hbt (jn @hb0t (jn @f1 (jn @f2 (jn @f3 (jn @f8 (jn @f9 (jn @f10 (jn h6d @h7d)))))))))))
      refine runDf g'9 ?_
      refine cx (canonical_u _ x1 y1 _ l (.inr ⟨_, _, _, rfl, by first | exact hb0s _ | exact hbs⟩) (by first | omega | (simp only [List.length_cons, List.length_nil]; omega) | exact Nat.le_trans (mkL_len _ _) (by first | omega | simp) | exact Nat.le_trans (vL_len _ _) (by first | omega | simp) | exact Nat.le_trans corV_len (by omega) | exact Nat.le_trans (canonL_len _) (by first | omega | simp)) (by assumption)) ?_
      refine runDf g'9 ?_
      refine cx (canonical_u _ x2 y2 _ m (.inr ⟨_, _, _, rfl, by first | exact hb0t _ | exact hbt⟩) (by first | omega | (simp only [List.length_cons, List.length_nil]; omega) | exact Nat.le_trans (mkL_len _ _) (by first | omega | simp) | exact Nat.le_trans (vL_len _ _) (by first | omega | simp) | exact Nat.le_trans corV_len (by omega) | exact Nat.le_trans (canonL_len _) (by first | omega | simp)) (by assumption)) ?_
      refine runDf g'9 ?_
      refine inv_of (hJ _ _ ⟨_, _, _, ⟨rfl, rfl⟩, bS hbel [2, 4, 5, 3] (absRf (jn @f1 (jn @f2 (jn @f3 (jn @f8 (jn @f9 @f10))))))⟩)
    · have g'10 := (jn @hbs (jn @hb0s (jn @hbt (jn @hb0t (jn @f1 (jn @f2 (jn @f3 (jn @f8 (jn @f9 (jn @f10 (jn h6d @h7d)))))))))))
      refine runDf g'10 ?_
      refine cx (canonical_u _ x1 y1 _ l (.inr ⟨_, _, _, rfl, by first | exact hb0s _ | exact hbs⟩) (by first | omega | (simp only [List.length_cons, List.length_nil]; omega) | exact Nat.le_trans (mkL_len _ _) (by first | omega | simp) | exact Nat.le_trans (vL_len _ _) (by first | omega | simp) | exact Nat.le_trans corV_len (by omega) | exact Nat.le_trans (canonL_len _) (by first | omega | simp)) (by assumption)) ?_
      refine runDf g'10 ?_
      refine cx (canonical_u _ x2 y2 _ m (.inr ⟨_, _, _, rfl, by first | exact hb0t _ | exact hbt⟩) (by first | omega | (simp only [List.length_cons, List.length_nil]; omega) | exact Nat.le_trans (mkL_len _ _) (by first | omega | simp) | exact Nat.le_trans (vL_len _ _) (by first | omega | simp) | exact Nat.le_trans corV_len (by omega) | exact Nat.le_trans (canonL_len _) (by first | omega | simp)) (by assumption)) ?_
      refine runDf g'10 ?_
      refine inv_of (hJ _ _ ⟨_, _, _, ⟨rfl, rfl⟩, bS hbel [3, 4, 5, 2] (absRf (jn @f1 (jn @f2 (jn @f3 (jn @f8 (jn @f9 @f10))))))⟩)
    · have g'11 := (jn @hbs (jn @hb0s (jn @hbt (jn @hb0t (jn @f1 (jn @f2 (jn @f3 (jn @f8 (jn @f9 (jn @f10 (jn h6d @h7d)))))))))))
      refine runDf g'11 ?_
      refine cx (canonical_u _ x1 y1 _ l (.inr ⟨_, _, _, rfl, by first | exact hb0s _ | exact hbs⟩) (by first | omega | (simp only [List.length_cons, List.length_nil]; omega) | exact Nat.le_trans (mkL_len _ _) (by first | omega | simp) | exact Nat.le_trans (vL_len _ _) (by first | omega | simp) | exact Nat.le_trans corV_len (by omega) | exact Nat.le_trans (canonL_len _) (by first | omega | simp)) (by assumption)) ?_
      refine runDf g'11 ?_
      refine cx (canonical_u _ x2 y2 _ m (.inr ⟨_, _, _, rfl, by first | exact hb0t _ | exact hbt⟩) (by first | omega | (simp only [List.length_cons, List.length_nil]; omega) | exact Nat.le_trans (mkL_len _ _) (by first | omega | simp) | exact Nat.le_trans (vL_len _ _) (by first | omega | simp) | exact Nat.le_trans corV_len (by omega) | exact Nat.le_trans (canonL_len _) (by first | omega | simp)) (by assumption)) ?_
      refine runDf g'11 ?_
      refine inv_of (hJ _ _ ⟨_, _, _, ⟨rfl, rfl⟩, bS hbel [2, 4, 3, 5] (absRf (jn @f1 (jn @f2 (jn @f3 (jn @f8 (jn @f9 @f10))))))⟩)
    · have g'12 := (jn @hbs (jn @hb0s (jn @hbt (jn @hb0t (jn @f1 (jn @f2 (jn @f3 (jn @f8 (jn @f9 (jn @f10 (jn h6d @h7d)))))))))))
      refine runDf g'12 ?_
      refine cx (canonical_u _ x1 y1 _ l (.inr ⟨_, _, _, rfl, by first | exact hb0s _ | exact hbs⟩) (by first | omega | (simp only [List.length_cons, List.length_nil]; omega) | exact Nat.le_trans (mkL_len _ _) (by first | omega | simp) | exact Nat.le_trans (vL_len _ _) (by first | omega | simp) | exact Nat.le_trans corV_len (by omega) | exact Nat.le_trans (canonL_len _) (by first | omega | simp)) (by assumption)) ?_
      refine runDf g'12 ?_
      refine cx (canonical_u _ x2 y2 _ m (.inr ⟨_, _, _, rfl, by first | exact hb0t _ | exact hbt⟩) (by first | omega | (simp only [List.length_cons, List.length_nil]; omega) | exact Nat.le_trans (mkL_len _ _) (by first | omega | simp) | exact Nat.le_trans (vL_len _ _) (by first | omega | simp) | exact Nat.le_trans corV_len (by omega) | exact Nat.le_trans (canonL_len _) (by first | omega | simp)) (by assumption)) ?_
      refine runDf g'12 ?_
      refine inv_of (hJ _ _ ⟨_, _, _, ⟨rfl, rfl⟩, bS hbel [2, 5, 3, 4] (absRf (jn @f1 (jn @f2 (jn @f3 (jn @f8 (jn @f9 @f10))))))⟩)
    · have g'13 := (jn @hbs (jn @hb0s (jn @hbt (jn @hb0t (jn @f1 (jn @f2 (jn @f3 (jn @f8 (jn @f9 (jn @f10 (jn h6d @h7d)))))))))))
      refine runDf g'13 ?_
      refine cx (canonical_u _ x1 y1 _ l (.inr ⟨_, _, _, rfl, by first | exact hb0s _ | exact hbs⟩) (by first | omega | (simp only [List.length_cons, List.length_nil]; omega) | exact Nat.le_trans (mkL_len _ _) (by first | omega | simp) | exact Nat.le_trans (vL_len _ _) (by first | omega | simp) | exact Nat.le_trans corV_len (by omega) | exact Nat.le_trans (canonL_len _) (by first | omega | simp)) (by assumption)) ?_
      refine runDf g'13 ?_
      refine cx (canonical_u _ x2 y2 _ m (.inr ⟨_, _, _, rfl, by first | exact hb0t _ | exact hbt⟩) (by first | omega | (simp only [List.length_cons, List.length_nil]; omega) | exact Nat.le_trans (mkL_len _ _) (by first | omega | simp) | exact Nat.le_trans (vL_len _ _) (by first | omega | simp) | exact Nat.le_trans corV_len (by omega) | exact Nat.le_trans (canonL_len _) (by first | omega | simp)) (by assumption)) ?_
      refine runDf g'13 ?_
      refine inv_of (hJ _ _ ⟨_, _, _, ⟨rfl, rfl⟩, bS hbel [2, 5, 4, 3] (absRf (jn @f1 (jn @f2 (jn @f3 (jn @f8 (jn @f9 @f10))))))⟩)
    · have g'14 := (jn @hbs (jn @hb0s (jn @hbt (jn @hb0t (jn @f1 (jn @f2 (jn @f3 (jn @f8 (jn @f9 (jn @f10 (jn h6d @h7d)))))))))))
      refine runDf g'14 ?_
      refine cx (canonical_u _ x1 y1 _ l (.inr ⟨_, _, _, rfl, by first | exact hb0s _ | exact hbs⟩) (by first | omega | (simp only [List.length_cons, List.length_nil]; omega) | exact Nat.le_trans (mkL_len _ _) (by first | omega | simp) | exact Nat.le_trans (vL_len _ _) (by first | omega | simp) | exact Nat.le_trans corV_len (by omega) | exact Nat.le_trans (canonL_len _) (by first | omega | simp)) (by assumption)) ?_
      refine runDf g'14 ?_
      refine cx (canonical_u _ x2 y2 _ m (.inr ⟨_, _, _, rfl, by first | exact hb0t _ | exact hbt⟩) (by first | omega | (simp only [List.length_cons, List.length_nil]; omega) | exact Nat.le_trans (mkL_len _ _) (by first | omega | simp) | exact Nat.le_trans (vL_len _ _) (by first | omega | simp) | exact Nat.le_trans corV_len (by omega) | exact Nat.le_trans (canonL_len _) (by first | omega | simp)) (by assumption)) ?_
      refine runDf g'14 ?_
      refine inv_of (hJ _ _ ⟨_, _, _, ⟨rfl, rfl⟩, bS hbel [3, 5, 4, 2] (absRf (jn @f1 (jn @f2 (jn @f3 (jn @f8 (jn @f9 @f10))))))⟩)
    · have g'15 := (jn @hbs (jn @hb0s (jn @hbt (jn @hb0t (jn @f1 (jn @f2 (jn @f3 (jn @f8 (jn @f9 (jn @f10 (jn h6d @h7d)))))))))))
      refine runDf g'15 ?_
      refine cx (canonical_u _ x1 y1 _ l (.inr ⟨_, _, _, rfl, by first | exact hb0s _ | exact hbs⟩) (by first | omega | (simp only [List.length_cons, List.length_nil]; omega) | exact Nat.le_trans (mkL_len _ _) (by first | omega | simp) | exact Nat.le_trans (vL_len _ _) (by first | omega | simp) | exact Nat.le_trans corV_len (by omega) | exact Nat.le_trans (canonL_len _) (by first | omega | simp)) (by assumption)) ?_
      refine runDf g'15 ?_
      refine cx (canonical_u _ x2 y2 _ m (.inr ⟨_, _, _, rfl, by first | exact hb0t _ | exact hbt⟩) (by first | omega | (simp only [List.length_cons, List.length_nil]; omega) | exact Nat.le_trans (mkL_len _ _) (by first | omega | simp) | exact Nat.le_trans (vL_len _ _) (by first | omega | simp) | exact Nat.le_trans corV_len (by omega) | exact Nat.le_trans (canonL_len _) (by first | omega | simp)) (by assumption)) ?_
      refine runDf g'15 ?_
      refine inv_of (hJ _ _ ⟨_, _, _, ⟨rfl, rfl⟩, bS hbel [3, 4, 2, 5] (absRf (jn @f1 (jn @f2 (jn @f3 (jn @f8 (jn @f9 @f10))))))⟩)
    · have g'16 := (jn @hbs (jn @hb0s (jn @hbt (jn @hb0t (jn @f1 (jn @f2 (jn @f3 (jn @f8 (jn @f9 (jn @f10 (jn h6d @h7d)))))))))))
      refine runDf g'16 ?_
      refine cx (canonical_u _ x1 y1 _ l (.inr ⟨_, _, _, rfl, by first | exact hb0s _ | exact hbs⟩) (by first | omega | (simp only [List.length_cons, List.length_nil]; omega) | exact Nat.le_trans (mkL_len _ _) (by first | omega | simp) | exact Nat.le_trans (vL_len _ _) (by first | omega | simp) | exact Nat.le_trans corV_len (by omega) | exact Nat.le_trans (canonL_len _) (by first | omega | simp)) (by assumption)) ?_
      refine runDf g'16 ?_
      refine cx (canonical_u _ x2 y2 _ m (.inr ⟨_, _, _, rfl, by first | exact hb0t _ | exact hbt⟩) (by first | omega | (simp only [List.length_cons, List.length_nil]; omega) | exact Nat.le_trans (mkL_len _ _) (by first | omega | simp) | exact Nat.le_trans (vL_len _ _) (by first | omega | simp) | exact Nat.le_trans corV_len (by omega) | exact Nat.le_trans (canonL_len _) (by first | omega | simp)) (by assumption)) ?_
      refine runDf g'16 ?_
      refine inv_of (hJ _ _ ⟨_, _, _, ⟨rfl, rfl⟩, bS hbel [3, 5, 2, 4] (absRf (jn @f1 (jn @f2 (jn @f3 (jn @f8 (jn @f9 @f10))))))⟩)
    · have g'17 := (jn @hbs (jn @hb0s (jn @hbt (jn @hb0t (jn @f1 (jn @f2 (jn @f3 (jn @f8 (jn @f9 (jn @f10 (jn h6d @h7d)))))))))))
      refine runDf g'17 ?_
      refine cx (canonical_u _ x1 y1 _ l (.inr ⟨_, _, _, rfl, by first | exact hb0s _ | exact hbs⟩) (by first | omega | (simp only [List.length_cons, List.length_nil]; omega) | exact Nat.le_trans (mkL_len _ _) (by first | omega | simp) | exact Nat.le_trans (vL_len _ _) (by first | omega | simp) | exact Nat.le_trans corV_len (by omega) | exact Nat.le_trans (canonL_len _) (by first | omega | simp)) (by assumption)) ?_
      refine runDf g'17 ?_
      refine cx (canonical_u _ x2 y2 _ m (.inr ⟨_, _, _, rfl, by first | exact hb0t _ | exact hbt⟩) (by first | omega | (simp only [List.length_cons, List.length_nil]; omega) | exact Nat.le_trans (mkL_len _ _) (by first | omega | simp) | exact Nat.le_trans (vL_len _ _) (by first | omega | simp) | exact Nat.le_trans corV_len (by omega) | exact Nat.le_trans (canonL_len _) (by first | omega | simp)) (by assumption)) ?_
      refine runDf g'17 ?_
      refine inv_of (hJ _ _ ⟨_, _, _, ⟨rfl, rfl⟩, bS hbel [4, 5, 2, 3] (absRf (jn @f1 (jn @f2 (jn @f3 (jn @f8 (jn @f9 @f10))))))⟩)
    have g'18 := (jn @hbs (jn @hb0s (jn @hbt (jn @hb0t (jn @f1 (jn @f2 (jn @f3 (jn @f8 (jn @f9 (jn @f10 (jn h6d @h7d)))))))))))
    refine runDf g'18 ?_
    refine cx (canonical_u _ x1 y1 _ l (.inr ⟨_, _, _, rfl, by first | exact hb0s _ | exact hbs⟩) (by first | omega | (simp only [List.length_cons, List.length_nil]; omega) | exact Nat.le_trans (mkL_len _ _) (by first | omega | simp) | exact Nat.le_trans (vL_len _ _) (by first | omega | simp) | exact Nat.le_trans corV_len (by omega) | exact Nat.le_trans (canonL_len _) (by first | omega | simp)) (by assumption)) ?_
    refine runDf g'18 ?_
    refine cx (canonical_u _ x2 y2 _ m (.inr ⟨_, _, _, rfl, by first | exact hb0t _ | exact hbt⟩) (by first | omega | (simp only [List.length_cons, List.length_nil]; omega) | exact Nat.le_trans (mkL_len _ _) (by first | omega | simp) | exact Nat.le_trans (vL_len _ _) (by first | omega | simp) | exact Nat.le_trans corV_len (by omega) | exact Nat.le_trans (canonL_len _) (by first | omega | simp)) (by assumption)) ?_
    refine runDf g'18 ?_
    refine inv_of (hJ _ _ ⟨_, _, _, ⟨rfl, rfl⟩, bS hbel [4, 5, 3, 2] (absRf (jn @f1 (jn @f2 (jn @f3 (jn @f8 (jn @f9 @f10))))))⟩)
  rintro F2 H2 ⟨rfl, rfl⟩
  refine fnF ?_
  have g'19 := (jn @hbs (jn @hb0s (jn @hbt (jn @hb0t (jn h6d (jn h7d (jn @prs_len @prs_one)))))))
  refine runTf g'19 ?_
  refine gd_split (fun h11 => ?_) (fun h11 => ?_)
  · have h11d := h11
    try simp only [Bool.not_eq_true', Bool.not_eq_false', decide_eq_true_eq, decide_eq_false_iff_not, beq_iff_eq, bne_iff_ne, ne_eq, Bool.not_eq_true, Bool.not_eq_false, beq_eq_false_iff_ne, bne_eq_false_iff_eq, Classical.not_not, Bool.and_eq_true, Bool.and_eq_false_imp] at h11d
    have g'20 := (jn h11 (jn h11d (jn @int_bne (jn @int_beq g'19))))
    refine runTf g'20 ?_
    refine gd_split (fun h12 => ?_) (fun h12 => ?_)
    · have h12d := h12
      try simp only [Bool.not_eq_true', Bool.not_eq_false', decide_eq_true_eq, decide_eq_false_iff_not, beq_iff_eq, bne_iff_ne, ne_eq, Bool.not_eq_true, Bool.not_eq_false, beq_eq_false_iff_ne, bne_eq_false_iff_eq, Classical.not_not, Bool.and_eq_true, Bool.and_eq_false_imp] at h12d
      have g'21 := j2 h12 h12d g'20
      refine runTf g'21 ?_
      refine cvr g'21 (equal_c _ _ _ (canonL l) (canonL m) (.inr ⟨_, _, _, by first | rfl | (rw [List.length_append]; rfl), by first | rfl | (rw [get_newk]; rfl) | (rw [get_new0]; rfl) | (rw [get_newk, prs_append]; rfl) | (rw [get_new0, prs_append]; rfl)⟩) (.inr ⟨_, _, _, by first | rfl | (rw [List.length_append]; rfl), by first | rfl | (rw [get_newk]; rfl) | (rw [get_new0]; rfl) | (rw [get_newk, prs_append]; rfl) | (rw [get_new0, prs_append]; rfl)⟩) (by first | omega | (simp only [List.length_cons, List.length_nil]; omega) | exact Nat.le_trans (mkL_len _ _) (by first | omega | simp) | exact Nat.le_trans (vL_len _ _) (by first | omega | simp) | exact Nat.le_trans corV_len (by omega) | exact Nat.le_trans (canonL_len _) (by first | omega | simp)) (by first | omega | (simp only [List.length_cons, List.length_nil]; omega) | exact Nat.le_trans (mkL_len _ _) (by first | omega | simp) | exact Nat.le_trans (vL_len _ _) (by first | omega | simp) | exact Nat.le_trans corV_len (by omega) | exact Nat.le_trans (canonL_len _) (by first | omega | simp))) ?_
      exact eP hQ hbel (.bool (decide (canonL l = canonL m))) Try.results20 ⟨by first | (simp [sameB, h6d, h7d, h11d, h12d]; done) | (simp only [sameB, h6d, h7d, Bool.true_and]; simp [h6d, h7d, h11d, h12d]), rfl⟩
    have h12d := h12
    try simp only [Bool.not_eq_true', Bool.not_eq_false', decide_eq_true_eq, decide_eq_false_iff_not, beq_iff_eq, bne_iff_ne, ne_eq, Bool.not_eq_true, Bool.not_eq_false, beq_eq_false_iff_ne, bne_eq_false_iff_eq, Classical.not_not, Bool.and_eq_true, Bool.and_eq_false_imp] at h12d
    have g'22 := j2 h12 h12d g'20
    exact eR g'22 hQ hbel (.bool false) Try.results20 ⟨by first | (simp [sameB, h6d, h7d, h11d, h12d]; done) | (simp only [sameB, h6d, h7d, Bool.true_and]; simp [h6d, h7d, h11d, h12d]), rfl⟩
  have h11d := h11
  try simp only [Bool.not_eq_true', Bool.not_eq_false', decide_eq_true_eq, decide_eq_false_iff_not, beq_iff_eq, bne_iff_ne, ne_eq, Bool.not_eq_true, Bool.not_eq_false, beq_eq_false_iff_ne, bne_eq_false_iff_eq, Classical.not_not, Bool.and_eq_true, Bool.and_eq_false_imp] at h11d
  have g'23 := (jn h11 (jn h11d (jn @int_bne (jn @int_beq g'19))))
  exact eR g'23 hQ hbel (.bool false) Try.results20 ⟨by first | (simp [sameB, h6d, h7d, h11d]; done) | (simp only [sameB, h6d, h7d, Bool.true_and]; simp [h6d, h7d, h11d]), rfl⟩
open Go.RowKit
theorem clone_u (H : AHeap) (s : AV) (l : List Pt) (hs : SlP H s l) (hl : l.length ≤ 1000000) : ACalls Try.prog 24 [s] H (fun v H' => v = .sl (some (H.length, 0)) l.length (capG l.length) ∧ H' = H ++ [.cells (ownG l.length) 2 (prs l)]) := by
  rcases Nat.eq_zero_or_pos l.length with h0 | h0
  · obtain rfl : l = [] := List.eq_nil_of_length_eq_zero h0
    obtain ⟨b, own, cap, rfl, hb⟩ := hs
    exact cloneempty_c H b cap own hb
  rw [capG_p h0, ownG_p h0]
  exact clone_c H s l (.inr hs) hl h0
theorem apart_c (H : AHeap) (x y : Int) (s : AV) (l : List (Int × Int)) (x0 y0 : Int) (x1 y1 : Int) (hs : Sl H 2 s l.length (prs l)) : ACalls Try.prog 18 [.agg [iV x, iV y, s], .agg [iV x0, iV y0, iV x1, iV y1]] H (fun v H' => v = .bool (apartB x y l x0 y0 x1 y1) ∧ H' = H) := by
  obtain ⟨bs, os, cs, rfl, hbs⟩ := hs
  have hbls := getElem?_lt hbs
  have hb0s := fun l => get_app (l := l) hbs
  (refine ACalls_pieces Try.func18 _ rfl (Nat.le_of_ble_eq_true (by kernel_rfl)) rfl ?_; intro hbel Q hQ hQ' c hc; unfold Try.f18 at hc; simp only [Option.some.injEq] at hc; subst hc; clear hQ')
  refine AW_step false try_mixed (by kernel_rfl) (fun F Hx => look F 2 = .ptr (some (H.length, 0)) ∧ look F 3 = .ptr (some (H.length + 1, 0)) ∧ look F 4 = .bool false ∧ Hx = H ++ [.cells true 0 [iV x, iV y, .sl (some (bs, 0)) l.length cs], .cells true 0 [iV x0, iV y0, iV x1, iV y1]]) ?_ ?_
  · have g'1 := (jn @hbs @hb0s)
    refine runTf g'1 ?_
    refine inv_of ?_
    exact absT
  rintro F Hx ⟨f1, f2, f3, rfl⟩
  refine AW_step false try_mixed (by kernel_rfl) (fun F Hx => validB x y l = true ∧ far4 x0 y0 x1 y1 = true ∧ (decide (x1 < x0)) = false ∧ (decide (y1 < y0)) = false ∧ look F 2 = .ptr (some (H.length, 0)) ∧ look F 3 = .ptr (some (H.length + 1, 0)) ∧ look F 4 = .bool false ∧ Hx = H ++ [.cells true 0 [iV x, iV y, .sl (some (bs, 0)) l.length cs], .cells true 0 [iV x0, iV y0, iV x1, iV y1], .cells true 1 [iV x0, iV y0, iV x1, iV y1]]) ?_ ?_
  · have g'2 := (jn @hbs (jn @hb0s (jn @f1 (jn @f2 @f3))))
    refine runTf g'2 ?_
    refine cvr g'2 (valid_c _ x y _ l (.inr ⟨_, _, _, rfl, by first | exact hb0s _ | exact hbs⟩)) ?_
    refine gd_split (fun h4 => ?_) (fun h4 => ?_)
    · have h4d := h4
      try simp only [Bool.not_eq_true', Bool.not_eq_false', decide_eq_true_eq, decide_eq_false_iff_not, beq_iff_eq, bne_iff_ne, ne_eq, Bool.not_eq_true, Bool.not_eq_false, beq_eq_false_iff_ne, bne_eq_false_iff_eq, Classical.not_not, Bool.and_eq_true, Bool.and_eq_false_imp] at h4d
      have g'3 := j2 h4 h4d g'2
      refine runTf g'3 ?_
      refine cv (near_c _ _ [x0, y0, x1, y1] (.inr ⟨_, _, _, by first | rfl | (rw [List.length_append]; rfl), by first | rfl | (rw [get_newk]; rfl) | (rw [get_new0]; rfl) | (rw [get_newk, prs_append]; rfl) | (rw [get_new0, prs_append]; rfl)⟩) (by simp)) ?_
      rw [far4_any]
      refine runTf g'3 ?_
      refine gd_split (fun h5 => ?_) (fun h5 => ?_)
      · have h5d := h5
        try simp only [Bool.not_eq_true', Bool.not_eq_false', decide_eq_true_eq, decide_eq_false_iff_not, beq_iff_eq, bne_iff_ne, ne_eq, Bool.not_eq_true, Bool.not_eq_false, beq_eq_false_iff_ne, bne_eq_false_iff_eq, Classical.not_not, Bool.and_eq_true, Bool.and_eq_false_imp] at h5d
        have g'4 := j2 h5 h5d g'3
        refine runTf g'4 ?_
        refine gd_split (fun h6 => ?_) (fun h6 => ?_)
        · have h6d := h6
          try simp only [Bool.not_eq_true', Bool.not_eq_false', decide_eq_true_eq, decide_eq_false_iff_not, beq_iff_eq, bne_iff_ne, ne_eq, Bool.not_eq_true, Bool.not_eq_false, beq_eq_false_iff_ne, bne_eq_false_iff_eq, Classical.not_not, Bool.and_eq_true, Bool.and_eq_false_imp] at h6d
          have g'5 := j2 h6 h6d g'4
          refine runTf g'5 ?_
          refine cond_split (fun h7 => ?_) (fun h7 => ?_)
          · have h7d := h7
            try simp only [Bool.not_eq_true', Bool.not_eq_false', decide_eq_true_eq, decide_eq_false_iff_not, beq_iff_eq, bne_iff_ne, ne_eq, Bool.not_eq_true, Bool.not_eq_false, beq_eq_false_iff_ne, bne_eq_false_iff_eq, Classical.not_not, Bool.and_eq_true, Bool.and_eq_false_imp] at h7d
            have g'6 := j2 h7 h7d g'5
            exact eR g'6 hQ hbel (.bool false) Try.results18 ⟨by first | (simp [apartB, h4d, h5d, h6d, h7d]; done) | (simp [apartB, h4d, h5d, h6d, h7d]; intros; omega), rfl⟩
          have h7d := h7
          try simp only [Bool.not_eq_true', Bool.not_eq_false', decide_eq_true_eq, decide_eq_false_iff_not, beq_iff_eq, bne_iff_ne, ne_eq, Bool.not_eq_true, Bool.not_eq_false, beq_eq_false_iff_ne, bne_eq_false_iff_eq, Classical.not_not, Bool.and_eq_true, Bool.and_eq_false_imp] at h7d
          have g'7 := j2 h7 h7d g'5
          refine runTf g'7 ?_
          refine inv_of ?_
          exact absTf (jn @f1 (jn @f2 @f3))
        have h6d := h6
        try simp only [Bool.not_eq_true', Bool.not_eq_false', decide_eq_true_eq, decide_eq_false_iff_not, beq_iff_eq, bne_iff_ne, ne_eq, Bool.not_eq_true, Bool.not_eq_false, beq_eq_false_iff_ne, bne_eq_false_iff_eq, Classical.not_not, Bool.and_eq_true, Bool.and_eq_false_imp] at h6d
        have g'8 := j2 h6 h6d g'4
        exact eR g'8 hQ hbel (.bool false) Try.results18 ⟨by first | (simp [apartB, h4d, h5d, h6d]; done) | (simp [apartB, h4d, h5d, h6d]; intros; omega), rfl⟩
      have h5d := h5
      try simp only [Bool.not_eq_true', Bool.not_eq_false', decide_eq_true_eq, decide_eq_false_iff_not, beq_iff_eq, bne_iff_ne, ne_eq, Bool.not_eq_true, Bool.not_eq_false, beq_eq_false_iff_ne, bne_eq_false_iff_eq, Classical.not_not, Bool.and_eq_true, Bool.and_eq_false_imp] at h5d
      have g'9 := j2 h5 h5d g'3
      exact eR g'9 hQ hbel (.bool false) Try.results18 ⟨by first | (simp [apartB, h4d, h5d]; done) | (simp [apartB, h4d, h5d]; intros; omega), rfl⟩
    have h4d := h4
    try simp only [Bool.not_eq_true', Bool.not_eq_false', decide_eq_true_eq, decide_eq_false_iff_not, beq_iff_eq, bne_iff_ne, ne_eq, Bool.not_eq_true, Bool.not_eq_false, beq_eq_false_iff_ne, bne_eq_false_iff_eq, Classical.not_not, Bool.and_eq_true, Bool.and_eq_false_imp] at h4d
    have g'10 := j2 h4 h4d g'2
    exact eR g'10 hQ hbel (.bool false) Try.results18 ⟨by first | (simp [apartB, h4d]; done) | (simp [apartB, h4d]; intros; omega), rfl⟩
  rintro F Hx ⟨h8d, h9d, h10d, h11d, f12, f13, f14, rfl⟩
  obtain ⟨hl16, hlB⟩ := valid_bd h8d
  have hxy := valid_bd3 h8d
  have hfar := far4_bd h9d
  have hfinX : x0 ≤ x1 := Int.not_lt.1 (of_decide_eq_false h10d)
  have hfinY : y0 ≤ y1 := Int.not_lt.1 (of_decide_eq_false h11d)
  have hB4 : ∀ e ∈ l ++ [(x1 - x0, 0), (0, y1 - y0)], Bd 4194304 e := fun e he => by
      simp only [List.mem_append, List.mem_cons, List.not_mem_nil, or_false] at he
      rcases he with he | rfl | rfl
      · have := hlB e he; unfold Bd at *; omega
      · unfold Bd; simp only; omega
      unfold Bd; simp only; omega
  have hll : (l ++ [(x1 - x0, 0), (0, y1 - y0)]).length = l.length + 2 := by simp
  have hcl := canonL_len (l ++ [(x1 - x0, 0), (0, y1 - y0)])
  have hcb : ∀ e ∈ (canonL (l ++ [(x1 - x0, 0), (0, y1 - y0)])), Bd 134217728 e := fun e he => by
      have := canonL_bd (M := 4194304) (by decide) hB4 e he
      have h40 : (((l ++ [(x1 - x0, 0), (0, y1 - y0)]).length : Nat) : Int) * 4194304 ≤ 18 * 4194304 := Int.mul_le_mul_of_nonneg_right (by omega) (by decide)
      unfold Bd at *; omega
  have hc28 : ∀ e ∈ (canonL (l ++ [(x1 - x0, 0), (0, y1 - y0)])), Bd 268435456 e := fun e he => by have := hcb e he; unfold Bd at *; omega
  have hNb := nrmls_bd (M := 134217728) (by decide) hcb
  have hNl := nrmls_len (canonL (l ++ [(x1 - x0, 0), (0, y1 - y0)]))
  refine AW_special false try_mixed [[0, 1, 2, 3, 4, 5, 6, 7, 8, 9, 10, 11, 12, 13, 14, 15, 16, 17, 18, 19, 20], [0, 1, 3, 4, 5, 6, 7, 8, 9, 10, 11, 12, 13, 14, 15, 2, 16, 17, 18, 19, 20]] (by kernel_rfl) (fun F2 H2 => F2 = [(2, .ptr (some (H.length, 0))), (3, .ptr (some (H.length + 1, 0))), (4, .bool false), (5, .sl (some (H.length + 2, 0)) ((canonL (l ++ [(x1 - x0, 0), (0, y1 - y0)])).length) (capG (canonL (l ++ [(x1 - x0, 0), (0, y1 - y0)])).length))] ∧ H2 = H ++ [.cells true 0 [iV x, iV y, .sl (some (bs, 0)) l.length cs], .cells true 0 [iV x0, iV y0, iV x1, iV y1], .cells (ownG (canonL (l ++ [(x1 - x0, 0), (0, y1 - y0)])).length) 2 (prs (canonL (l ++ [(x1 - x0, 0), (0, y1 - y0)])))]) ?_ ?_
  · refine reps_cons ?_ (reps_cons ?_ (reps_nil)) <;> intro J hJ
    · have g'11 := (jn @hbs (jn @hb0s (jn @f1 (jn @f2 (jn @f3 (jn @f12 (jn @f13 (jn @f14 (jn h8d (jn h9d (jn h10d @h11d)))))))))))
      refine runDf g'11 ?_
      refine cx (clone_u _ _ l ⟨_, _, _, rfl, by first | exact hb0s _ | exact hbs⟩ (by first | omega | (simp only [List.length_cons, List.length_nil]; omega) | exact Nat.le_trans (mkL_len _ _) (by first | omega | simp) | exact Nat.le_trans (vL_len _ _) (by first | omega | simp) | exact Nat.le_trans corV_len (by omega) | exact Nat.le_trans (canonL_len _) (by first | omega | simp))) ?_
      have g'12 := (jn @prs_len (jn @prs_one (jn @capG_s g'11)))
      refine runDf g'12 ?_
      refine cx (canonical_u _ 0 0 _ (l ++ [(x1 - x0, 0), (0, y1 - y0)]) (.inr ⟨_, _, _, by first | rfl | (rw [List.length_append]; rfl), by first | rfl | (rw [get_newk]; rfl) | (rw [get_new0]; rfl) | (rw [get_newk, prs_append]; rfl) | (rw [get_new0, prs_append]; rfl)⟩) (by first | omega | (simp only [List.length_cons, List.length_nil]; omega) | exact Nat.le_trans (mkL_len _ _) (by first | omega | simp) | exact Nat.le_trans (vL_len _ _) (by first | omega | simp) | exact Nat.le_trans corV_len (by omega) | exact Nat.le_trans (canonL_len _) (by first | omega | simp)) (by assumption)) ?_
      refine runDf g'12 ?_
      refine inv_of (hJ _ _ ⟨_, _, _, ⟨rfl, rfl⟩, bS hbel [0, 1, 6] (absRf (jn @f1 (jn @f2 (jn @f3 (jn @f12 (jn @f13 @f14))))))⟩)
    have g'13 := (jn @hbs (jn @hb0s (jn @f1 (jn @f2 (jn @f3 (jn @f12 (jn @f13 (jn @f14 (jn h8d (jn h9d (jn h10d @h11d)))))))))))
    refine runDf g'13 ?_
    refine cx (clone_u _ _ l ⟨_, _, _, rfl, by first | exact hb0s _ | exact hbs⟩ (by first | omega | (simp only [List.length_cons, List.length_nil]; omega) | exact Nat.le_trans (mkL_len _ _) (by first | omega | simp) | exact Nat.le_trans (vL_len _ _) (by first | omega | simp) | exact Nat.le_trans corV_len (by omega) | exact Nat.le_trans (canonL_len _) (by first | omega | simp))) ?_
    have g'14 := (jn @prs_len (jn @prs_one (jn @capG_s g'13)))
    refine runDf g'14 ?_
    refine cx (canonical_u _ 0 0 _ (l ++ [(x1 - x0, 0), (0, y1 - y0)]) (.inr ⟨_, _, _, by first | rfl | (rw [List.length_append]; rfl), by first | rfl | (rw [get_newk]; rfl) | (rw [get_new0]; rfl) | (rw [get_newk, prs_append]; rfl) | (rw [get_new0, prs_append]; rfl)⟩) (by first | omega | (simp only [List.length_cons, List.length_nil]; omega) | exact Nat.le_trans (mkL_len _ _) (by first | omega | simp) | exact Nat.le_trans (vL_len _ _) (by first | omega | simp) | exact Nat.le_trans corV_len (by omega) | exact Nat.le_trans (canonL_len _) (by first | omega | simp)) (by assumption)) ?_
    refine runDf g'14 ?_
    refine inv_of (hJ _ _ ⟨_, _, _, ⟨rfl, rfl⟩, bS hbel [0, 1, 6] (absRf (jn @f1 (jn @f2 (jn @f3 (jn @f12 (jn @f13 @f14))))))⟩)
  rintro F2 H2 ⟨rfl, rfl⟩
  refine fnF ?_
  have g'15 := (jn @hbs (jn @hb0s (jn h8d (jn h9d (jn h10d (jn h11d (jn @prs_len @prs_one)))))))
  refine runTf g'15 ?_
  refine glp (fun k F Hx => ∃ i : Nat, i + k = (canonL (l ++ [(x1 - x0, 0), (0, y1 - y0)])).length ∧ F = [(5, .sl (some (H.length, 0)) ((canonL (l ++ [(x1 - x0, 0), (0, y1 - y0)])).length) (capG (canonL (l ++ [(x1 - x0, 0), (0, y1 - y0)])).length)), (6, .ptr (some (H.length + 1, 0))), (7, .sl (some (H.length + 2, 0)) ((nrmls ((canonL (l ++ [(x1 - x0, 0), (0, y1 - y0)])).take i)).length) (capG (nrmls ((canonL (l ++ [(x1 - x0, 0), (0, y1 - y0)])).take i)).length)), (82, .sl (some (H.length, 0)) ((canonL (l ++ [(x1 - x0, 0), (0, y1 - y0)])).length) (capG (canonL (l ++ [(x1 - x0, 0), (0, y1 - y0)])).length)), (83, iV (((canonL (l ++ [(x1 - x0, 0), (0, y1 - y0)])).length : Nat) : Int)), (84, iV ((i : Nat) : Int))] ∧ Hx = H ++ [.cells (ownG (canonL (l ++ [(x1 - x0, 0), (0, y1 - y0)])).length) 2 (prs (canonL (l ++ [(x1 - x0, 0), (0, y1 - y0)]))), .cells true 0 [iV ((x0 + x1) - x), iV ((y0 + y1) - y)], .cells (ownG (nrmls ((canonL (l ++ [(x1 - x0, 0), (0, y1 - y0)])).take i)).length) 2 (prs (nrmls ((canonL (l ++ [(x1 - x0, 0), (0, y1 - y0)])).take i)))]) ((canonL (l ++ [(x1 - x0, 0), (0, y1 - y0)])).length) ?_ ?_
  · refine ⟨_, _, _, ⟨0, by omega, rfl, rfl⟩, bS hbel [2, 3, 4] (absRf (jn @List.take_zero.{0} @nrmls_nil))⟩
  rintro k0 F Hx ⟨i, hm0, rfl, rfl⟩ J0 hJ0
  refine runTf g'15 ?_
  refine cond_split (fun h15 => ?_) (fun h15 => ?_)
  · have h15d := h15
    try simp only [Bool.not_eq_true', Bool.not_eq_false', decide_eq_true_eq, decide_eq_false_iff_not, beq_iff_eq, bne_iff_ne, ne_eq, Bool.not_eq_true, Bool.not_eq_false, beq_eq_false_iff_ne, bne_eq_false_iff_eq, Classical.not_not, Bool.and_eq_true, Bool.and_eq_false_imp] at h15d
    have hgi := gpb (i := i) hcb (by omega)
    have hst := nrmls_step (L := (canonL (l ++ [(x1 - x0, 0), (0, y1 - y0)]))) (i := i) (by omega)
    have hnl := nrmls_len ((canonL (l ++ [(x1 - x0, 0), (0, y1 - y0)])).take i)
    rw [List.length_take] at hnl
    have q16 := prs_load (l := canonL (l ++ [(x1 - x0, 0), (0, y1 - y0)])) (j := i) (by omega)
    have g'16 := (jn h15 (jn h15d (jn q16 (jn @capG_s g'15))))
    refine runTf g'16 ?_
    refine hJ0 _ _ ⟨k0 - 1, by omega, _, _, _, ⟨i + 1, by omega, rfl, rfl⟩, bS hbel [0, 1, 5] (absRf (jn @hst @Int.zero_sub))⟩
  have h15d := h15
  try simp only [Bool.not_eq_true', Bool.not_eq_false', decide_eq_true_eq, decide_eq_false_iff_not, beq_iff_eq, bne_iff_ne, ne_eq, Bool.not_eq_true, Bool.not_eq_false, beq_eq_false_iff_ne, bne_eq_false_iff_eq, Classical.not_not, Bool.and_eq_true, Bool.and_eq_false_imp] at h15d
  have hfinT : (canonL (l ++ [(x1 - x0, 0), (0, y1 - y0)])).take i = (canonL (l ++ [(x1 - x0, 0), (0, y1 - y0)])) := List.take_of_length_le (by omega)
  have g'17 := j2 h15 h15d g'15
  refine runTf g'17 ?_
  refine glp (fun k F Hx => ∃ j : Nat, j + k = (nrmls (canonL (l ++ [(x1 - x0, 0), (0, y1 - y0)]))).length ∧ ((nrmls (canonL (l ++ [(x1 - x0, 0), (0, y1 - y0)]))).take j).any (beyond (canonL (l ++ [(x1 - x0, 0), (0, y1 - y0)])) (x0 + x1 - x, y0 + y1 - y)) = false ∧ F = [(5, .sl (some (H.length, 0)) ((canonL (l ++ [(x1 - x0, 0), (0, y1 - y0)])).length) (capG (canonL (l ++ [(x1 - x0, 0), (0, y1 - y0)])).length)), (6, .ptr (some (H.length + 1, 0))), (99, .sl (some (H.length + 2, 0)) ((nrmls (canonL (l ++ [(x1 - x0, 0), (0, y1 - y0)]))).length) (capG (nrmls (canonL (l ++ [(x1 - x0, 0), (0, y1 - y0)]))).length)), (100, iV (((nrmls (canonL (l ++ [(x1 - x0, 0), (0, y1 - y0)]))).length : Nat) : Int)), (101, iV ((j : Nat) : Int))] ∧ Hx = H ++ [.cells (ownG (canonL (l ++ [(x1 - x0, 0), (0, y1 - y0)])).length) 2 (prs (canonL (l ++ [(x1 - x0, 0), (0, y1 - y0)]))), .cells true 0 [iV ((x0 + x1) - x), iV ((y0 + y1) - y)], .cells (ownG (nrmls (canonL (l ++ [(x1 - x0, 0), (0, y1 - y0)]))).length) 2 (prs (nrmls (canonL (l ++ [(x1 - x0, 0), (0, y1 - y0)]))))]) ((nrmls (canonL (l ++ [(x1 - x0, 0), (0, y1 - y0)]))).length) ?_ ?_
  · refine ⟨_, _, _, ⟨0, by omega, by simp, rfl, rfl⟩, bS hbel [0, 1, 2] (absRf @hfinT)⟩
  rintro k1 F Hx ⟨j, hm1, ht, rfl, rfl⟩ J1 hJ1
  refine runTf g'17 ?_
  refine cond_split (fun h17 => ?_) (fun h17 => ?_)
  · have h17d := h17
    try simp only [Bool.not_eq_true', Bool.not_eq_false', decide_eq_true_eq, decide_eq_false_iff_not, beq_iff_eq, bne_iff_ne, ne_eq, Bool.not_eq_true, Bool.not_eq_false, beq_eq_false_iff_ne, bne_eq_false_iff_eq, Classical.not_not, Bool.and_eq_true, Bool.and_eq_false_imp] at h17d
    have hgj := gpb (i := j) hNb (by omega)
    have hst2 := any_take (p := beyond (canonL (l ++ [(x1 - x0, 0), (0, y1 - y0)])) (x0 + x1 - x, y0 + y1 - y)) (l := nrmls (canonL (l ++ [(x1 - x0, 0), (0, y1 - y0)]))) (i := j) (by omega)
    rw [← gp_eq (by omega)] at hst2
    have hp1 := mul_bd (a := g1 (nrmls (canonL (l ++ [(x1 - x0, 0), (0, y1 - y0)]))) j) (b := x0 + x1 - x) (A := 134217728) (B := 33554432) (by omega) (by omega)
    have hp2 := mul_bd (a := g2 (nrmls (canonL (l ++ [(x1 - x0, 0), (0, y1 - y0)]))) j) (b := y0 + y1 - y) (A := 134217728) (B := 33554432) (by omega) (by omega)
    have q18 := prs_load (l := nrmls (canonL (l ++ [(x1 - x0, 0), (0, y1 - y0)]))) (j := j) (by omega)
    have g'18 := (jn h17 (jn h17d (jn q18 g'17)))
    refine runTf g'18 ?_
    refine cdr g'18 (abs_c _ _ (by omega)) ?_
    refine cdr g'18 (spread_c _ _ (canonL (l ++ [(x1 - x0, 0), (0, y1 - y0)])) (g1 (nrmls (canonL (l ++ [(x1 - x0, 0), (0, y1 - y0)]))) j, g2 (nrmls (canonL (l ++ [(x1 - x0, 0), (0, y1 - y0)]))) j) (.inr ⟨_, _, _, by first | rfl | (rw [List.length_append]; rfl), by first | rfl | (rw [get_newk]; rfl) | (rw [get_new0]; rfl) | (rw [get_newk, prs_append]; rfl) | (rw [get_new0, prs_append]; rfl)⟩) (by omega) (by assumption) (by first | assumption | (unfold Bd; simp only; omega) | (unfold Bd at *; simp only at *; omega) | (unfold Bd; simp; omega) | (unfold Bd; simp))) ?_
    refine cond_split (fun h19 => ?_) (fun h19 => ?_)
    · have h19d := h19
      try simp only [Bool.not_eq_true', Bool.not_eq_false', decide_eq_true_eq, decide_eq_false_iff_not, beq_iff_eq, bne_iff_ne, ne_eq, Bool.not_eq_true, Bool.not_eq_false, beq_eq_false_iff_ne, bne_eq_false_iff_eq, Classical.not_not, Bool.and_eq_true, Bool.and_eq_false_imp] at h19d
      have hfinA : (nrmls (canonL (l ++ [(x1 - x0, 0), (0, y1 - y0)]))).any (beyond (canonL (l ++ [(x1 - x0, 0), (0, y1 - y0)])) (x0 + x1 - x, y0 + y1 - y)) = true := any_gp (j := j) (by omega) (decide_eq_true h19d)
      have g'19 := j2 h19 h19d g'18
      exact eR g'19 hQ hbel (.bool true) Try.results18 ⟨by first | (simp [apartB, h8d, h9d, h10d, h11d, h15d, h17d, h19d, hfinX, hfinY, hfinT, hfinA]; done) | (simp [apartB, h8d, h9d, h10d, h11d, h15d, h17d, h19d, hfinX, hfinY, hfinT, hfinA]; intros; omega), rfl⟩
    have h19d := h19
    try simp only [Bool.not_eq_true', Bool.not_eq_false', decide_eq_true_eq, decide_eq_false_iff_not, beq_iff_eq, bne_iff_ne, ne_eq, Bool.not_eq_true, Bool.not_eq_false, beq_eq_false_iff_ne, bne_eq_false_iff_eq, Classical.not_not, Bool.and_eq_true, Bool.and_eq_false_imp] at h19d
    have g'20 := j2 h19 h19d g'18
    refine runTf g'20 ?_
    refine hJ1 _ _ ⟨k1 - 1, by omega, _, _, _, ⟨j + 1, by omega, by rw [hst2, ht, Bool.false_or]; exact decide_eq_false h19d, rfl, rfl⟩, bS hbel [0, 1, 2] absR⟩
  have h17d := h17
  try simp only [Bool.not_eq_true', Bool.not_eq_false', decide_eq_true_eq, decide_eq_false_iff_not, beq_iff_eq, bne_iff_ne, ne_eq, Bool.not_eq_true, Bool.not_eq_false, beq_eq_false_iff_ne, bne_eq_false_iff_eq, Classical.not_not, Bool.and_eq_true, Bool.and_eq_false_imp] at h17d
  rw [List.take_of_length_le (by omega)] at ht
  have hfin := ht
  have g'21 := j2 h17 h17d g'17
  exact eR g'21 hQ hbel (.bool false) Try.results18 ⟨by first | (simp [apartB, h8d, h9d, h10d, h11d, h15d, h17d, hfinX, hfinY, hfinT, hfin]; done) | (simp [apartB, h8d, h9d, h10d, h11d, h15d, h17d, hfinX, hfinY, hfinT, hfin]; intros; omega), rfl⟩
open Go.RowKit Go.Sort
set_option maxRecDepth 100000 in
theorem grow_a {H : AHeap} {n : Nat} (h0 : 0 < n) (h1 : n ≤ 1000) : ACalls Try.prog 51 [.sl none 0 (some 0), .int .i64 n] H
    (fun v H' => v = .sl (some (H.length, 0)) 0 none ∧ H' = H ++ [.cells true 2 []]) := fun E w vs hE hv => by
  obtain ⟨v1, l1, rfl, k1, h1'⟩ := rels_cons hv
  obtain ⟨v2, l2, rfl, k2, h2'⟩ := rels_cons h1'
  obtain rfl := rels_nil h2'
  obtain rfl := rel_int k2
  obtain rfl : v1 = .slice none 0 0 := by cases k1; rfl
  have hby : Try.prog.types[Try.grow51_ren.t 25].bytes = 16 := by kernel_rfl
  have h := Any8.slices_Grow_grow Try.grow51 _ _ rfl rfl (by decide) none 0 0 n [] w (Nat.le_refl _) (by omega) (by rw [hby]; omega) (by omega) rfl (fun _ => rfl) (fun a ha => by cases ha)
  refine Calls.mono h ?_
  rintro e w' ⟨rfl, rfl⟩
  have g1 := grownCap_ge w (0 + n) 0 (Try.grow51_ren.t 25)
  have g2 := grownCap_le_maxLen w (0 + n) 0 (Try.grow51_ren.t 25) (by unfold maxLen; omega)
  generalize grownCap w (0 + n) 0 (Try.grow51_ren.t 25) = G at *
  clear hby h
  generalize ht : Try.grow51_ren.t 25 = t at *
  have hsz : (#[] ++ Builtin.zeroCells (Value.agg #[Value.int .i64 0, Value.int .i64 0]).cells (0 + n - 0) ++ Builtin.zeroCells (Value.agg #[Value.int .i64 0, Value.int .i64 0]).cells (G - (0 + n))).size = G * 2 := by
    have e : (Value.agg #[Value.int .i64 0, Value.int .i64 0]).cells.size = 2 := rfl
    rw [Array.size_append, Array.size_append, size_zeroCells, size_zeroCells, e]
    simp; omega
  generalize (#[] ++ Builtin.zeroCells (Value.agg #[Value.int .i64 0, Value.int .i64 0]).cells (0 + n - 0) ++ Builtin.zeroCells (Value.agg #[Value.int .i64 0, Value.int .i64 0]).cells (G - (0 + n))) = arr at *
  have hb : Below w.heap.size w (w.drew.alloc (.cells arr t)) := (below_drewN (Below.refl _ _) 1).alloc (Nat.le_refl _) _
  refine ⟨E.push ⟨w.heap.size, 0, G * 2, 2⟩, _, _, .sl (some (H.length, 0)) 0 none, rfl, ⟨rfl, rfl⟩, E.le_push _, ?_, ?_⟩
  · have e1 : (E.push ⟨w.heap.size, 0, G * 2, 2⟩).loc H.length = ⟨w.heap.size, 0, G * 2, 2⟩ := by rw [← hE.n]; exact Env.push_new _ _
    refine .sl _ _ _ _ _ _ (by simp [Env.push, hE.n]) (Nat.zero_le _) g2 (.inl rfl) (.inr (by rw [e1])) ?_
    rw [e1]; simp
  refine hE.grow (row := none) ⟨hb.os, hb.tape, hb.output, hb.size, fun k hk _ => hb.block k hk⟩ (fun k hk => by cases hk) rfl (fun c x hx => .inr ⟨hx, fun _ => by simp⟩) _ _ ?_ (fun c x hx ho => ?_)
  · refine ⟨fun j x hj => by simp at hj, fun _ => ⟨hE.base, ?_, rfl, Nat.zero_le _, fun j hj => ?_⟩, (fun hf => by cases hf), rfl⟩
    · show w.heap.size < (w.drew.heap.push _).size
      rw [Array.size_push]; exact Nat.lt_succ_self _
    have e1 := World.cell?_alloc_at (w := w.drew) arr t w.heap.size (0 + j) rfl
    have e2 := World.frozen?_alloc_at (w := w.drew) arr t w.heap.size (0 + j) rfl
    refine ⟨?_, e2⟩
    have hj' : j < G * 2 := hj
    rw [e1, Array.getElem?_eq_getElem (by rw [hsz]; omega)]; rfl
  have := hE.ownLt hx ho
  show (E.loc c).blk ≠ w.heap.size
  omega
open Go.RowKit
open Go.RowKit
/-- What is handed back, as one new block. -/
def mkL (e : Int) (L : List Pt) : List Pt := if e = 0 then L else []
def mkX (e : Int) (x : Int) : Int := if e = 0 then x else 0
open Go.RowKit
theorem whole_t (H : AHeap) (x y : Int) (s : AV) (l : List (Int × Int)) (hs : Sl H 2 s l.length (prs l)) (hv : validB x y l = true) : ACalls Try.prog 23 [.agg [iV x, iV y, s]] H (fun v H' => v = .tup [.agg [iV x, iV y, s], iV 0] ∧ H' = H) := by
  obtain ⟨bs, os, cs, rfl, hbs⟩ := hs
  have hbls := getElem?_lt hbs
  have hb0s := fun l => get_app (l := l) hbs
  refine AcT true Try.func23 ?_; intro hbel Q hQ
  have g'1 := (jn @hbs (jn @hb0s @hv))
  refine runTf g'1 ?_
  refine cvr g'1 (valid_c _ x y _ l (.inr ⟨_, _, _, rfl, by first | exact hb0s _ | exact hbs⟩)) ?_
  refine hQ _ _ (end_byG (.inl rfl) hbel (x1 := .tup [.agg [iV x, iV y, .sl (some (bs, 0)) l.length cs], iV 0]) (l2 := []) (.tup [.agg [iV x, iV y, .sl (some (bs, 0)) l.length cs], iV 0]) (resT Try.results23) [] rfl [] (by decide) ⟨rfl, List.append_nil _⟩ ?_)
  exact absW
theorem whole_f (H : AHeap) (x y : Int) (s : AV) (l : List (Int × Int)) (hs : Sl H 2 s l.length (prs l)) (hv : validB x y l = false) : ACalls Try.prog 23 [.agg [iV x, iV y, s]] H (fun v H' => v = .tup [.agg [iV 0, iV 0, .sl none 0 (some 0)], iV 6] ∧ H' = H) := by
  obtain ⟨bs, os, cs, rfl, hbs⟩ := hs
  have hbls := getElem?_lt hbs
  have hb0s := fun l => get_app (l := l) hbs
  refine AcT true Try.func23 ?_; intro hbel Q hQ
  have g'2 := (jn @hbs (jn @hb0s @hv))
  refine runTf g'2 ?_
  refine cvr g'2 (valid_c _ x y _ l (.inr ⟨_, _, _, rfl, by first | exact hb0s _ | exact hbs⟩)) ?_
  exact eP hQ hbel (.tup [.agg [iV 0, iV 0, .sl none 0 (some 0)], iV 6]) Try.results23 ⟨rfl, rfl⟩
open Go.RowKit
theorem canonical_e (H : AHeap) (x y : Int) (b m : Nat) (c : Option Nat) (own : Bool) (l L : List Pt) (e : canonL l = L) (hm : m = l.length) (hb : H[b]? = some (.cells own 2 (prs l))) (hl : l.length ≤ 40) (hB : ∀ e ∈ l, Bd 4194304 e) :
    ACalls Try.prog 22 [.agg [iV x, iV y, .sl (some (b, 0)) m c]] H (fun v H' => v = .agg [iV x, iV y, .sl (some (H.length, 0)) L.length (capG L.length)] ∧ H' = H ++ [.cells (ownG L.length) 2 (prs L)]) := by subst hm; exact e ▸ canonical_u H x y _ l (.inr ⟨b, own, c, rfl, hb⟩) hl hB
theorem clone_p (H : AHeap) (s : AV) (l : List Pt) (hs : SlP H s l) (hl : l.length ≤ 1000000) (h0 : 0 < l.length) : ACalls Try.prog 24 [s] H (fun v H' => v = .sl (some (H.length, 0)) l.length none ∧ H' = H ++ [.cells true 2 (prs l)]) := clone_c H s l (.inr hs) hl h0
theorem sstab_l {H : AHeap} (X : AHeap) (l : List (Int × Int)) (h0 : 0 < l.length) (hl : l.length ≤ 19) (hB : ∀ e ∈ l, Bd 1048576 e) : ACalls Try.prog 25 [.sl (some (H.length + X.length, 0)) l.length none, .fn 26 []] (H ++ (X ++ [.cells true 2 (prs l)])) (fun v H' => v = .tup [] ∧ H' = H ++ (X ++ [.cells true 2 (prs (isrt l))])) := by
  have h := sstab_c (H ++ X) l h0 hl hB
  simpa only [List.append_assoc, List.length_append] using h
theorem pred_c (H : AHeap) (x y : Int) (s : AV) (l : List (Int × Int)) (most : Int) (hs : Sl H 2 s l.length (prs l)) : ACalls Try.prog 6 [.agg [iV x, iV y, s], iV most] H (fun v H' => v = .tup [.agg [iV (mkX (redE x y l most) (x)), iV (mkX (redE x y l most) (y)), .sl (some (H.length, 0)) ((mkL (redE x y l most) (redL l most)).length) (capG (mkL (redE x y l most) (redL l most)).length)], iV (redE x y l most)] ∧ H' = H ++ [.cells (ownG (mkL (redE x y l most) (redL l most)).length) 2 (prs (mkL (redE x y l most) (redL l most)))]) := by
  obtain ⟨bs, os, cs, rfl, hbs⟩ := hs
  have hbls := getElem?_lt hbs
  have hb0s := fun l => get_app (l := l) hbs
  refine AcT true Try.func6 ?_; intro hbel Q hQ
  have g'1 := (jn @hbs @hb0s)
  refine runTf g'1 ?_
  refine cv (valid_c _ x y _ l (.inr ⟨_, _, _, rfl, by first | exact hb0s _ | exact hbs⟩)) ?_
  refine rcs g'1 (fun h1 h1d g'2 => ?_) (fun h1 h1d g'3 => ?_)
  · refine runTf g'2 ?_
    refine hQ _ _ (end_byG (.inl rfl) hbel (x1 := .tup [.agg [iV 0, iV 0, .sl none 0 (some 0)], iV 1]) (l2 := [.cells false 2 []]) (.tup [.agg [iV 0, iV 0, .sl (some (H.length, 0)) 0 (some 0)], iV 1]) (resT Try.results6) [.cells false 2 []] rfl [2] (by decide) ⟨by first | (simp [redE, mkX, mkL, capG_0, ownG_0, prs_nil, h1d]; done) | (simp [redE, mkX, mkL, capG_0, ownG_0, prs_nil, hrR, h1d]; done), by first | (simp [redE, mkX, mkL, capG_0, ownG_0, prs_nil, h1d]; done) | (simp [redE, mkX, mkL, capG_0, ownG_0, prs_nil, hrR, h1d]; done)⟩ ?_)
    exact absW
  obtain ⟨hl16, hlB⟩ := valid_bd h1d
  have hxy := valid_bd3 h1d
  have hB2 : ∀ e ∈ l, Bd 268435456 e := fun e he => by have := hlB e he; unfold Bd at *; omega
  have hB4 : ∀ e ∈ l, Bd 4194304 e := fun e he => by have := hlB e he; unfold Bd at *; omega
  have hcb := canon_bd16 hl16 hlB
  have hcl := canonL_len l
  refine rgs g'3 (fun h2 h2d g'4 => ?_) (fun h2 h2d g'16 => ?_)
  · refine rcs g'4 (fun h3 h3d g'5 => ?_) (fun h3 h3d g'6 => ?_)
    · refine runTf g'5 ?_
      refine hQ _ _ (end_byG (.inl rfl) hbel (x1 := .tup [.agg [iV 0, iV 0, .sl none 0 (some 0)], iV 2]) (l2 := [.cells false 2 []]) (.tup [.agg [iV 0, iV 0, .sl (some (H.length, 0)) 0 (some 0)], iV 2]) (resT Try.results6) [.cells false 2 []] rfl [2] (by decide) ⟨by first | (simp [redE, mkX, mkL, capG_0, ownG_0, prs_nil, h1d, h2d, h3d]; done) | (simp [redE, mkX, mkL, capG_0, ownG_0, prs_nil, hrR, h1d, h2d, h3d]; done), by first | (simp [redE, mkX, mkL, capG_0, ownG_0, prs_nil, h1d, h2d, h3d]; done) | (simp [redE, mkX, mkL, capG_0, ownG_0, prs_nil, hrR, h1d, h2d, h3d]; done)⟩ ?_)
      exact absW
    refine runTf g'6 ?_
    refine cv (canonical_u _ x y _ l (.inr ⟨_, _, _, rfl, by first | exact hb0s _ | exact hbs⟩) (by first | omega | (simp only [List.length_cons, List.length_nil]; omega) | exact Nat.le_trans (mkL_len _ _) (by first | omega | simp) | exact Nat.le_trans (vL_len _ _) (by first | omega | simp) | exact Nat.le_trans corV_len (by omega) | exact Nat.le_trans (canonL_len _) (by first | omega | simp)) (by assumption)) ?_
    refine rcs g'6 (fun h4 h4d g'7 => ?_) (fun h4 h4d _ => ?_)
    · have hrR := redL_le h4d
      refine runTf g'7 ?_
      rcases Bool.eq_false_or_eq_true (validB x y (canonL l)) with h5 | h5
      · have h5d := h5
        refine cv (whole_t _ x y _ (canonL l) slA (by assumption)) ?_
        have g'8 := j2 h5 h5d g'7
        refine runTf g'8 ?_
        refine hQ _ _ (end_byG (.inl rfl) hbel (x1 := .tup [.agg [iV x, iV y, .sl (some (H.length + 2, 0)) ((canonL l).length) (capG (canonL l).length)], iV 0]) (l2 := [.cells (ownG (canonL l).length) 2 (prs (canonL l))]) (.tup [.agg [iV x, iV y, .sl (some (H.length, 0)) ((canonL l).length) (capG (canonL l).length)], iV 0]) (resT Try.results6) [] rfl [2] (by decide) ⟨by first | (simp [redE, mkX, mkL, capG_0, ownG_0, prs_nil, h1d, h2d, h3d, h4d, h5d]; done) | (simp [redE, mkX, mkL, capG_0, ownG_0, prs_nil, hrR, h1d, h2d, h3d, h4d, h5d]; done), by first | (simp [redE, mkX, mkL, capG_0, ownG_0, prs_nil, h1d, h2d, h3d, h4d, h5d]; done) | (simp [redE, mkX, mkL, capG_0, ownG_0, prs_nil, hrR, h1d, h2d, h3d, h4d, h5d]; done)⟩ ?_)
        exact absW
      have h5d := h5
      refine cv (whole_f _ x y _ (canonL l) slA (by assumption)) ?_
      have g'9 := j2 h5 h5d g'7
      refine runTf g'9 ?_
      refine hQ _ _ (end_byG (.inl rfl) hbel (x1 := .tup [.agg [iV 0, iV 0, .sl none 0 (some 0)], iV 6]) (l2 := [.cells false 2 []]) (.tup [.agg [iV 0, iV 0, .sl (some (H.length, 0)) 0 (some 0)], iV 6]) (resT Try.results6) [.cells false 2 []] rfl [4] (by decide) ⟨by first | (simp [redE, mkX, mkL, capG_0, ownG_0, prs_nil, h1d, h2d, h3d, h4d, h5d]; done) | (simp [redE, mkX, mkL, capG_0, ownG_0, prs_nil, hrR, h1d, h2d, h3d, h4d, h5d]; done), by first | (simp [redE, mkX, mkL, capG_0, ownG_0, prs_nil, h1d, h2d, h3d, h4d, h5d]; done) | (simp [redE, mkX, mkL, capG_0, ownG_0, prs_nil, hrR, h1d, h2d, h3d, h4d, h5d]; done)⟩ ?_)
      exact absW
    obtain ⟨n, hn⟩ : ∃ n : Nat, (((canonL l).length : Nat) : Int) + 2 - most = ((n : Nat) : Int) := ⟨((canonL l).length + 2 - most).toNat, by omega⟩
    have hsfn := hn
    have hsfm : (((canonL l).length + 2 : Nat) : Int) - most = ((n : Nat) : Int) := by omega
    have hnl : n ≤ (canonL l).length := by omega
    have hn0 : 0 < n := by omega
    have hrL := redL_gt h4d hn hnl
    have hsb := sumA_bd hl16 hlB hnl
    have hil := isrt_len (canonL l)
    have hsfd : List.take (((canonL l).length - n) * 2) (List.drop (n * 2) (prs (isrt (canonL l)))) = prs (List.drop n (isrt (canonL l))) := by rw [← hil]; exact prs_dropv (by omega)
    have g'10 := (jn h4 (jn h4d (jn @hsfn (j2 hsfm hsfd g'6))))
    refine runTf g'10 ?_
    refine cvr g'10 (clone_p _ _ (canonL l) slA (by omega) (by omega)) ?_
    refine cvr g'10 (sstab_l [.cells true 0 [iV x, iV y, .sl (some (bs, 0)) l.length cs], .cells true 0 [iV 0, iV 0, .sl none 0 (some 0)], .cells (ownG (canonL l).length) 2 (prs (canonL l)), .cells true 0 [iV x, iV y, .sl (some (H.length + 2, 0)) ((canonL l).length) (capG (canonL l).length)]] (canonL l) (by omega) (by omega) hcb) ?_
    refine glp (fun k F Hx => ∃ i : Nat, i + k = n ∧ F = [(4, .ptr (some (H.length, 0))), (6, .ptr (some (H.length + 2, 0))), (8, .sl (some (H.length + 3, 0)) ((canonL l).length) none), (9, iV ((n : Nat) : Int)), (10, .ptr (some (H.length + 4, 0))), (50, .sl (some (H.length + 3, 0)) n none), (51, iV ((n : Nat) : Int)), (52, iV ((i : Nat) : Int))] ∧ Hx = H ++ [.cells true 0 [iV 0, iV 0, .sl none 0 (some 0)], .cells (ownG (canonL l).length) 2 (prs (canonL l)), .cells true 0 [iV x, iV y, .sl (some (H.length + 1, 0)) ((canonL l).length) (capG (canonL l).length)], .cells true 2 (prs (isrt (canonL l))), .cells true 0 [iV (sumA (isrt (canonL l)) i), iV (sumB (isrt (canonL l)) i)]]) (n) ?_ ?_
    · refine ⟨_, _, _, ⟨0, by omega, rfl, rfl⟩, bS hbel [1, 2, 3, 4, 5] (absRf (jn @sumA.eq_1 @sumB.eq_1))⟩
    rintro k0 F Hx ⟨i, hm0, rfl, rfl⟩ J0 hJ0
    have g'11 := (jn @prs_len (jn @prs_one g'10))
    refine rcs g'11 (fun h6 h6d _ => ?_) (fun h6 h6d _ => ?_)
    · have hsi := sumA_bd hl16 hlB (n := i) (by omega)
      have hgi := gpb (i := i) (l := isrt (canonL l)) (M := 1048576) (fun e he => hcb e (mem_isrt he)) (by omega)
      have ha1 := absI_bd (x := g1 (isrt (canonL l)) i) (M := 1048576) (by omega)
      have ha2 := absI_bd (x := g2 (isrt (canonL l)) i) (M := 1048576) (by omega)
      have q7 := prs_load (l := isrt (canonL l)) (j := i) (by omega)
      have g'12 := (jn h6 (jn h6d (jn q7 g'11)))
      refine runTf g'12 ?_
      refine cdr g'12 (abs_c _ _ (by omega)) ?_
      refine cdr g'12 (abs_c _ _ (by omega)) ?_
      refine hJ0 _ _ ⟨k0 - 1, by omega, _, _, _, ⟨i + 1, by omega, rfl, rfl⟩, bS hbel [0, 1, 2, 3, 4] (absRf (jn @sumA.eq_2 @sumB.eq_2))⟩
    obtain rfl : n = i := by omega
    have hBB : ∀ e ∈ List.drop n (isrt (canonL l)) ++ [(sumA (isrt (canonL l)) n, 0), (0, sumB (isrt (canonL l)) n)], Bd 4194304 e := fun e he => by
        simp only [List.mem_append, List.mem_cons, List.not_mem_nil, or_false] at he
        rcases he with he | rfl | rfl
        · have := hcb e (mem_isrt (List.mem_of_mem_drop he)); unfold Bd at *; omega
        · unfold Bd; simp only; omega
        unfold Bd; simp only; omega
    have q8 := prs_dropv (l := isrt (canonL l)) (k := n) (by omega)
    have g'13 := (jn h6 (jn h6d (jn q8 (jn @List.length_drop.{0} g'11))))
    refine runTf g'13 ?_
    refine cvr g'13 (canonical_e _ x y _ _ _ _ (List.drop n (isrt (canonL l)) ++ [(sumA (isrt (canonL l)) n, 0), (0, sumB (isrt (canonL l)) n)]) _ hrL (by simp only [List.length_append, List.length_drop, List.length_cons, List.length_nil, hil]) (by first | rfl | (rw [get_newk]; rfl) | (rw [get_new0]; rfl) | (rw [get_newk, prs_append]; rfl) | (rw [get_new0, prs_append]; rfl)) (by simp only [List.length_append, List.length_drop, List.length_cons, List.length_nil, hil]; omega) hBB) ?_
    rcases Bool.eq_false_or_eq_true (validB x y (redL l most)) with h9 | h9
    · have h9d := h9
      refine cv (whole_t _ x y _ (redL l most) slA (by assumption)) ?_
      have g'14 := j2 h9 h9d g'13
      refine runTf g'14 ?_
      refine hQ _ _ (end_byG (.inl rfl) hbel (x1 := .tup [.agg [iV x, iV y, .sl (some (H.length + 7, 0)) ((redL l most).length) (capG (redL l most).length)], iV 0]) (l2 := [.cells (ownG (redL l most).length) 2 (prs (redL l most))]) (.tup [.agg [iV x, iV y, .sl (some (H.length, 0)) ((redL l most).length) (capG (redL l most).length)], iV 0]) (resT Try.results6) [] rfl [7] (by decide) ⟨by first | (simp [redE, mkX, mkL, capG_0, ownG_0, prs_nil, h1d, h2d, h3d, h4d, h6d, h9d]; done) | (simp [redE, mkX, mkL, capG_0, ownG_0, prs_nil, hrR, h1d, h2d, h3d, h4d, h6d, h9d]; done), by first | (simp [redE, mkX, mkL, capG_0, ownG_0, prs_nil, h1d, h2d, h3d, h4d, h6d, h9d]; done) | (simp [redE, mkX, mkL, capG_0, ownG_0, prs_nil, hrR, h1d, h2d, h3d, h4d, h6d, h9d]; done)⟩ ?_)
      exact absW
    have h9d := h9
    refine cv (whole_f _ x y _ (redL l most) slA (by assumption)) ?_
    have g'15 := j2 h9 h9d g'13
    refine runTf g'15 ?_
    refine hQ _ _ (end_byG (.inl rfl) hbel (x1 := .tup [.agg [iV 0, iV 0, .sl none 0 (some 0)], iV 6]) (l2 := [.cells false 2 []]) (.tup [.agg [iV 0, iV 0, .sl (some (H.length, 0)) 0 (some 0)], iV 6]) (resT Try.results6) [.cells false 2 []] rfl [8] (by decide) ⟨by first | (simp [redE, mkX, mkL, capG_0, ownG_0, prs_nil, h1d, h2d, h3d, h4d, h6d, h9d]; done) | (simp [redE, mkX, mkL, capG_0, ownG_0, prs_nil, hrR, h1d, h2d, h3d, h4d, h6d, h9d]; done), by first | (simp [redE, mkX, mkL, capG_0, ownG_0, prs_nil, h1d, h2d, h3d, h4d, h6d, h9d]; done) | (simp [redE, mkX, mkL, capG_0, ownG_0, prs_nil, hrR, h1d, h2d, h3d, h4d, h6d, h9d]; done)⟩ ?_)
    exact absW
  refine runTf g'16 ?_
  refine hQ _ _ (end_byG (.inl rfl) hbel (x1 := .tup [.agg [iV 0, iV 0, .sl none 0 (some 0)], iV 2]) (l2 := [.cells false 2 []]) (.tup [.agg [iV 0, iV 0, .sl (some (H.length, 0)) 0 (some 0)], iV 2]) (resT Try.results6) [.cells false 2 []] rfl [2] (by decide) ⟨by first | (simp [redE, mkX, mkL, capG_0, ownG_0, prs_nil, h1d, h2d]; done) | (simp [redE, mkX, mkL, capG_0, ownG_0, prs_nil, hrR, h1d, h2d]; done), by first | (simp [redE, mkX, mkL, capG_0, ownG_0, prs_nil, h1d, h2d]; done) | (simp [redE, mkX, mkL, capG_0, ownG_0, prs_nil, hrR, h1d, h2d]; done)⟩ ?_)
  exact absW
open Go.RowKit
theorem rcanon_e (H : AHeap) (x y : Int) (b m : Nat) (c : Option Nat) (own : Bool) (l L : List Pt) (e : canonL l = L) (hm : m = l.length) (hb : H[b]? = some (.cells own 2 (prs l))) (hl : l.length ≤ 40) (hB : ∀ e ∈ l, Bd 4194304 e) :
    ACalls Try.prog 30 [.agg [iV x, iV y, .sl (some (b, 0)) m c]] H (fun v H' => v = .agg [iV x, iV y, .sl (some (H.length, 0)) L.length (capG L.length)] ∧ H' = H ++ [.cells (ownG L.length) 2 (prs L)]) := by subst hm; exact e ▸ rcanon_u H x y _ l (.inr ⟨b, own, c, rfl, hb⟩) hl hB
theorem rred_c (H : AHeap) (x y : Int) (s : AV) (l : List (Int × Int)) (most : Int) (hs : Sl H 2 s l.length (prs l)) (hl : l.length ≤ 1000000) : ACalls Try.prog 7 [.agg [iV x, iV y, s], iV most] H (fun v H' => v = .tup [.agg [iV (mkX (redE x y l most) (x)), iV (mkX (redE x y l most) (y)), .sl (some (H.length, 0)) ((mkL (redE x y l most) (redL l most)).length) (capG (mkL (redE x y l most) (redL l most)).length)], iV (redE x y l most)] ∧ H' = H ++ [.cells (ownG (mkL (redE x y l most) (redL l most)).length) 2 (prs (mkL (redE x y l most) (redL l most)))]) := by
  obtain ⟨bs, os, cs, rfl, hbs⟩ := hs
  have hbls := getElem?_lt hbs
  have hb0s := fun l => get_app (l := l) hbs
  refine AcT true Try.func7 ?_; intro hbel Q hQ
  have g'1 := (jn @hbs @hb0s)
  refine runTf g'1 ?_
  refine cv (rvalid_c _ x y _ l (.inr ⟨_, _, _, rfl, by first | exact hb0s _ | exact hbs⟩) (by omega)) ?_
  refine rcs g'1 (fun h1 h1d g'2 => ?_) (fun h1 h1d g'3 => ?_)
  · refine runTf g'2 ?_
    refine hQ _ _ (end_byG (.inl rfl) hbel (x1 := .tup [.agg [iV 0, iV 0, .sl none 0 (some 0)], iV 1]) (l2 := [.cells false 2 []]) (.tup [.agg [iV 0, iV 0, .sl (some (H.length, 0)) 0 (some 0)], iV 1]) (resT Try.results7) [.cells false 2 []] rfl [2] (by decide) ⟨by simp [redE, mkX, mkL, capG_0, ownG_0, prs_nil, h1d], by simp [redE, mkX, mkL, capG_0, ownG_0, prs_nil, h1d]⟩ ?_)
    exact absW
  obtain ⟨hl16, hlB⟩ := valid_bd h1d
  have hxy := valid_bd3 h1d
  have hB2 : ∀ e ∈ l, Bd 268435456 e := fun e he => by have := hlB e he; unfold Bd at *; omega
  have hB4 : ∀ e ∈ l, Bd 4194304 e := fun e he => by have := hlB e he; unfold Bd at *; omega
  have hcb := canon_bd16 hl16 hlB
  have hcl := canonL_len l
  refine rgs g'3 (fun h2 h2d g'4 => ?_) (fun h2 h2d g'29 => ?_)
  · refine rcs g'4 (fun h3 h3d g'5 => ?_) (fun h3 h3d g'6 => ?_)
    · refine runTf g'5 ?_
      refine hQ _ _ (end_byG (.inl rfl) hbel (x1 := .tup [.agg [iV 0, iV 0, .sl none 0 (some 0)], iV 2]) (l2 := [.cells false 2 []]) (.tup [.agg [iV 0, iV 0, .sl (some (H.length, 0)) 0 (some 0)], iV 2]) (resT Try.results7) [.cells false 2 []] rfl [2] (by decide) ⟨by simp [redE, mkX, mkL, capG_0, ownG_0, prs_nil, h1d, h2d, h3d], by simp [redE, mkX, mkL, capG_0, ownG_0, prs_nil, h1d, h2d, h3d]⟩ ?_)
      exact absW
    refine runTf g'6 ?_
    refine cv (rcanon_u _ x y _ l (.inr ⟨_, _, _, rfl, by first | exact hb0s _ | exact hbs⟩) (by first | omega | (simp only [List.length_cons, List.length_nil]; omega) | exact Nat.le_trans (mkL_len _ _) (by first | omega | simp) | exact Nat.le_trans (vL_len _ _) (by first | omega | simp) | exact Nat.le_trans corV_len (by omega) | exact Nat.le_trans (canonL_len _) (by first | omega | simp)) (by assumption)) ?_
    refine rcs g'6 (fun h4 h4d g'7 => ?_) (fun h4 h4d _ => ?_)
    · obtain ⟨n, hsn⟩ : ∃ n : Nat, n = 0 := ⟨0, rfl⟩
      have hfn0 : ((n : Nat) : Int) = 0 := by omega
      have hN : redN (canonL l).length most = n := by rw [hsn]; exact if_pos h4d
      have hnl : n ≤ (canonL l).length := by omega
      refine runTf g'7 ?_
      refine glp (fun k F Hx => ∃ i : Nat, ∃ j : Nat, j = k ∧ i + j = n ∧ F = [(4, .ptr (some (H.length, 0))), (6, .ptr (some (H.length + 2, 0))), (7, iV ((j : Nat) : Int)), (8, .ptr (some (H.length + 3, 0)))] ∧ Hx = H ++ [.cells true 0 [iV 0, iV 0, .sl none 0 (some 0)], .cells (ownG (lftG (canonL l) i).length) 2 (prs (lftG (canonL l) i)), .cells true 0 [iV x, iV y, .sl (some (H.length + 1, 0)) ((lftG (canonL l) i).length) (capG (lftG (canonL l) i).length)], .cells true 0 [iV (sumX (canonL l) i), iV (sumY (canonL l) i)]]) (n) ?_ ?_
      · refine ⟨_, _, _, ⟨0, n, by omega, Nat.zero_add _, rfl, rfl⟩, bS hbel [1, 2, 3, 4] (absRf (jn @lftG.eq_1 (jn @sumX.eq_1 (jn @sumY.eq_1 @hfn0))))⟩
      rintro k0 F Hx ⟨i, j, hm0, hij, rfl, rfl⟩ J0 hJ0
      have g'8 := (jn @prs_len (jn @prs_one g'7))
      refine rcs g'8 (fun h5 h5d _ => ?_) (fun h5 h5d _ => ?_)
      · omega
      have hj0 : j = 0 := by omega
      obtain rfl : n = i := by omega
      have hil := lft_len (l := canonL l) (n := n) hnl
      have hsi := sumX_bd hl16 hlB hnl
      have hrL : canonL (lftG (canonL l) n ++ [(sumX (canonL l) n, 0), (0, sumY (canonL l) n)]) = redL l most := by unfold redL; rw [hN]
      have hBB : ∀ e ∈ lftG (canonL l) n ++ [(sumX (canonL l) n, 0), (0, sumY (canonL l) n)], Bd 4194304 e := fun e he => by
          simp only [List.mem_append, List.mem_cons, List.not_mem_nil, or_false] at he
          rcases he with he | rfl | rfl
          · have := hcb e (lft_mem he); unfold Bd at *; omega
          · unfold Bd; simp only; omega
          unfold Bd; simp only; omega
      have hcl2 := canonL_len (lftG (canonL l) n ++ [(sumX (canonL l) n, 0), (0, sumY (canonL l) n)])
      rw [hrL, List.length_append, hil] at hcl2
      simp only [List.length_cons, List.length_nil] at hcl2
      have g'9 := (jn h5 (jn h5d (jn @capG_s g'8)))
      refine runTf g'9 ?_
      refine cvr g'9 (rcanon_e _ x y _ _ _ _ ((lftG (canonL l) n) ++ [(sumX (canonL l) n, 0), (0, sumY (canonL l) n)]) _ hrL (by simp only [List.length_append, List.length_drop, List.length_cons, List.length_nil, hil]) (by first | rfl | (rw [get_newk]; rfl) | (rw [get_new0]; rfl) | (rw [get_newk, prs_append]; rfl) | (rw [get_new0, prs_append]; rfl)) (by simp only [List.length_append, List.length_drop, List.length_cons, List.length_nil, hil]; omega) hBB) ?_
      refine cv (rvalid_c _ x y _ (redL l most) (.inr slA) (by omega)) ?_
      refine rcs g'9 (fun h6 h6d g'10 => ?_) (fun h6 h6d g'11 => ?_)
      · refine runTf g'10 ?_
        refine hQ _ _ (end_byG (.inl rfl) hbel (x1 := .tup [.agg [iV 0, iV 0, .sl none 0 (some 0)], iV 6]) (l2 := [.cells false 2 []]) (.tup [.agg [iV 0, iV 0, .sl (some (H.length, 0)) 0 (some 0)], iV 6]) (resT Try.results7) [.cells false 2 []] rfl [7] (by decide) ⟨by simp [redE, mkX, mkL, capG_0, ownG_0, prs_nil, h1d, h2d, h3d, h4d, h5d, h6d], by simp [redE, mkX, mkL, capG_0, ownG_0, prs_nil, h1d, h2d, h3d, h4d, h5d, h6d]⟩ ?_)
        exact absW
      refine runTf g'11 ?_
      refine hQ _ _ (end_byG (.inl rfl) hbel (x1 := .tup [.agg [iV x, iV y, .sl (some (H.length + 6, 0)) ((redL l most).length) (capG (redL l most).length)], iV 0]) (l2 := [.cells (ownG (redL l most).length) 2 (prs (redL l most))]) (.tup [.agg [iV x, iV y, .sl (some (H.length, 0)) ((redL l most).length) (capG (redL l most).length)], iV 0]) (resT Try.results7) [] rfl [6] (by decide) ⟨by simp [redE, mkX, mkL, capG_0, ownG_0, prs_nil, h1d, h2d, h3d, h4d, h5d, h6d], by simp [redE, mkX, mkL, capG_0, ownG_0, prs_nil, h1d, h2d, h3d, h4d, h5d, h6d]⟩ ?_)
      exact absW
    obtain ⟨n, hn⟩ : ∃ n : Nat, (((canonL l).length : Nat) : Int) + 2 - most = ((n : Nat) : Int) := ⟨((canonL l).length + 2 - most).toNat, by omega⟩
    have hsfn := hn
    have hN : redN (canonL l).length most = n := redN_gt h4d hn
    have hnl : n ≤ (canonL l).length := by omega
    have g'12 := (jn h4 (j2 h4d hsfn g'6))
    refine runTf g'12 ?_
    refine glp (fun k F Hx => ∃ i : Nat, ∃ j : Nat, j = k ∧ i + j = n ∧ F = [(4, .ptr (some (H.length, 0))), (6, .ptr (some (H.length + 2, 0))), (7, iV ((j : Nat) : Int)), (8, .ptr (some (H.length + 3, 0)))] ∧ Hx = H ++ [.cells true 0 [iV 0, iV 0, .sl none 0 (some 0)], .cells (ownG (lftG (canonL l) i).length) 2 (prs (lftG (canonL l) i)), .cells true 0 [iV x, iV y, .sl (some (H.length + 1, 0)) ((lftG (canonL l) i).length) (capG (lftG (canonL l) i).length)], .cells true 0 [iV (sumX (canonL l) i), iV (sumY (canonL l) i)]]) (n) ?_ ?_
    · refine ⟨_, _, _, ⟨0, n, by omega, Nat.zero_add _, rfl, rfl⟩, bS hbel [1, 2, 3, 4] (absRf (jn @lftG.eq_1 (jn @sumX.eq_1 (jn @sumY.eq_1 @hsfn))))⟩
    rintro k1 F Hx ⟨i, j, hm1, hij, rfl, rfl⟩ J1 hJ1
    have g'13 := (jn @prs_len (jn @prs_one g'12))
    refine rcs g'13 (fun h7 h7d _ => ?_) (fun h7 h7d _ => ?_)
    · have hln := lft_len (l := canonL l) (n := i) (by omega)
      have hpos : 0 < (lftG (canonL l) i).length := by omega
      have hQB : ∀ e ∈ (lftG (canonL l) i), Bd 1048576 e := fun e he => hcb e (lft_mem he)
      have hsi := sumX_bd hl16 hlB (n := i) (by omega)
      obtain ⟨q, rfl⟩ : ∃ q, j = q + 1 := ⟨j - 1, by omega⟩
      have hsfq : ((q + 1 : Nat) : Int) - 1 = ((q : Nat) : Int) := by omega
      have g'14 := (jn h7 (j2 h7d hsfq g'13))
      refine runTf g'14 ?_
      refine glp (fun k F Hx => ∃ m : Nat, m + k = (lftG (canonL l) i).length ∧ F = [(4, .ptr (some (H.length, 0))), (6, .ptr (some (H.length + 2, 0))), (7, iV ((q + 1 : Nat) : Int)), (8, .ptr (some (H.length + 3, 0))), (9, iV ((bstG (lftG (canonL l) i) m : Nat) : Int)), (10, iV ((m : Nat) : Int))] ∧ Hx = H ++ [.cells true 0 [iV 0, iV 0, .sl none 0 (some 0)], .cells (ownG (lftG (canonL l) i).length) 2 (prs (lftG (canonL l) i)), .cells true 0 [iV x, iV y, .sl (some (H.length + 1, 0)) ((lftG (canonL l) i).length) (capG (lftG (canonL l) i).length)], .cells true 0 [iV (sumX (canonL l) i), iV (sumY (canonL l) i)]]) ((lftG (canonL l) i).length) ?_ ?_
      · refine ⟨_, _, _, ⟨0, by omega, rfl, rfl⟩, bS hbel [0, 1, 2, 3] (absRf @bstG.eq_1)⟩
      rintro k2 F Hx ⟨m, hm2, rfl, rfl⟩ J2 hJ2
      refine rcs g'14 (fun h8 h8d _ => ?_) (fun h8 h8d _ => ?_)
      · have hbs : bstG (lftG (canonL l) i) m < (lftG (canonL l) i).length := by
            rcases Nat.eq_zero_or_pos m with h | h
            · rw [h]; exact hpos
            have := bst_lt (l := (lftG (canonL l) i)) h; omega
        have hgm := gpb (i := m) hQB (by omega)
        have hgb := gpb (i := bstG (lftG (canonL l) i) m) hQB hbs
        have ha1 := absI_bd (x := g1 (lftG (canonL l) i) m) (M := 1048576) (by omega)
        have ha2 := absI_bd (x := g2 (lftG (canonL l) i) m) (M := 1048576) (by omega)
        have hb1 := absI_bd (x := g1 (lftG (canonL l) i) (bstG (lftG (canonL l) i) m)) (M := 1048576) (by omega)
        have hb2 := absI_bd (x := g2 (lftG (canonL l) i) (bstG (lftG (canonL l) i) m)) (M := 1048576) (by omega)
        have q9 := prs_at0 (l := lftG (canonL l) i) (j := m) (by omega)
        have g'15 := (jn h8 (jn h8d (jn q9 g'14)))
        refine runTf g'15 ?_
        refine cd (rabs_c _ _ (by omega)) ?_
        have q10 := prs_at1 (l := lftG (canonL l) i) (j := m) (by omega)
        have g'16 := (jn q10 g'15)
        refine runTf g'16 ?_
        refine cd (rabs_c _ _ (by omega)) ?_
        have q11 := prs_at0 (l := lftG (canonL l) i) (j := bstG (lftG (canonL l) i) m) (by omega)
        have g'17 := (jn q11 g'16)
        refine runTf g'17 ?_
        refine cd (rabs_c _ _ (by omega)) ?_
        have q12 := prs_at1 (l := lftG (canonL l) i) (j := bstG (lftG (canonL l) i) m) (by omega)
        have g'18 := (jn q12 g'17)
        refine runTf g'18 ?_
        refine cd (rabs_c _ _ (by omega)) ?_
        refine rcs g'18 (fun h13 h13d g'19 => ?_) (fun h13 h13d g'20 => ?_)
        · have hbe : bstG (lftG (canonL l) i) (m + 1) = m := if_pos h13d
          refine runTf g'19 ?_
          refine hJ2 _ _ ⟨k2 - 1, by omega, _, _, _, ⟨m + 1, by omega, rfl, rfl⟩, bS hbel [0, 1, 2, 3] (absRf @hbe)⟩
        have hbe : bstG (lftG (canonL l) i) (m + 1) = bstG (lftG (canonL l) i) m := if_neg h13d
        refine runTf g'20 ?_
        refine hJ2 _ _ ⟨k2 - 1, by omega, _, _, _, ⟨m + 1, by omega, rfl, rfl⟩, bS hbel [0, 1, 2, 3] (absRf @hbe)⟩
      obtain rfl : m = (lftG (canonL l) i).length := by omega
      have hbs : bstG (lftG (canonL l) i) (lftG (canonL l) i).length < (lftG (canonL l) i).length := bst_lt hpos
      have hsfb : (((bstG (lftG (canonL l) i) (lftG (canonL l) i).length : Nat) : Int) + 1).toNat = bstG (lftG (canonL l) i) (lftG (canonL l) i).length + 1 := rfl
      have hgb := gpb (i := bstG (lftG (canonL l) i) (lftG (canonL l) i).length) hQB hbs
      have hb1 := absI_bd (x := g1 (lftG (canonL l) i) (bstG (lftG (canonL l) i) (lftG (canonL l) i).length)) (M := 1048576) (by omega)
      have hb2 := absI_bd (x := g2 (lftG (canonL l) i) (bstG (lftG (canonL l) i) (lftG (canonL l) i).length)) (M := 1048576) (by omega)
      have hsx : sumX (canonL l) (i + 1) = sumX (canonL l) i + absI (g1 (lftG (canonL l) i) (bstG (lftG (canonL l) i) (lftG (canonL l) i).length)) := rfl
      have hsy : sumY (canonL l) (i + 1) = sumY (canonL l) i + absI (g2 (lftG (canonL l) i) (bstG (lftG (canonL l) i) (lftG (canonL l) i).length)) := rfl
      have q14 := prs_at0 (l := lftG (canonL l) i) (j := bstG (lftG (canonL l) i) (lftG (canonL l) i).length) (by omega)
      have g'21 := (jn h8 (jn h8d (jn @hsfb (jn q14 g'14))))
      refine runTf g'21 ?_
      refine cd (rabs_c _ _ (by omega)) ?_
      have q15 := prs_at1 (l := lftG (canonL l) i) (j := bstG (lftG (canonL l) i) (lftG (canonL l) i).length) (by omega)
      have g'22 := (jn q15 g'21)
      refine runTf g'22 ?_
      refine cd (rabs_c _ _ (by omega)) ?_
      rcases Nat.eq_zero_or_pos (bstG (lftG (canonL l) i) (lftG (canonL l) i).length) with h16 | h16
      · have h16z := h16
        have h16e : (bstG (lftG (canonL l) i) (lftG (canonL l) i).length == 0) = true := by rw [h16]; rfl
        have q17 := @prs_take (lftG (canonL l) i) (bstG (lftG (canonL l) i) (lftG (canonL l) i).length)
        rcases Nat.eq_zero_or_pos ((lftG (canonL l) i).length - (bstG (lftG (canonL l) i) (lftG (canonL l) i).length + 1)) with h18 | h18
        · have h18z := h18
          have h18e : ((lftG (canonL l) i).length - (bstG (lftG (canonL l) i) (lftG (canonL l) i).length + 1) == 0) = true := by rw [h18]; rfl
          have q19 := prs_dropv (l := lftG (canonL l) i) (k := bstG (lftG (canonL l) i) (lftG (canonL l) i).length + 1) (by omega)
          have g'23 := (jn h16e (jn q17 (jn @List.length_take.{0} (jn @List.length_drop.{0} (jn @Nat.sub_zero (jn h18e (jn q19 g'22)))))))
          refine runTf g'23 ?_
          have hR : lftG (canonL l) (i + 1) = [] := List.eq_nil_of_length_eq_zero (by rw [lft_len (by omega)]; omega)
          refine hJ1 _ _ ⟨k1 - 1, by omega, _, _, _, ⟨i + 1, q, by omega, by omega, rfl, rfl⟩, bS hbel [0, 4, 2, 3] (absRf (jn @hsx (jn @hsy @hR)))⟩
        have h18z := h18
        have h18e : ((lftG (canonL l) i).length - (bstG (lftG (canonL l) i) (lftG (canonL l) i).length + 1) == 0) = false := beq_eq_false_iff_ne.2 (by omega)
        have h18l : decide (0 < (lftG (canonL l) i).length - (bstG (lftG (canonL l) i) (lftG (canonL l) i).length + 1)) = true := decide_eq_true h18
        have q20 := prs_dropv (l := lftG (canonL l) i) (k := bstG (lftG (canonL l) i) (lftG (canonL l) i).length + 1) (by omega)
        have g'24 := (jn h16e (jn q17 (jn @List.length_take.{0} (jn @List.length_drop.{0} (jn @Nat.sub_zero (jn h18e (jn h18l (jn q20 g'22))))))))
        refine runTf g'24 ?_
        have hR : lftG (canonL l) (i + 1) = List.drop (bstG (lftG (canonL l) i) (lftG (canonL l) i).length + 1) (lftG (canonL l) i) := by
            have z : bstG (lftG (canonL l) i) (lftG (canonL l) i).length = 0 := by omega
            show List.take _ _ ++ _ = _
            rw [z]; rfl
        have hRl : (List.drop (bstG (lftG (canonL l) i) (lftG (canonL l) i).length + 1) (lftG (canonL l) i)).length = (lftG (canonL l) i).length - (bstG (lftG (canonL l) i) (lftG (canonL l) i).length + 1) := by rw [← hR, lft_len (by omega)]; omega
        have hRp : 0 < (lftG (canonL l) i).length - (bstG (lftG (canonL l) i) (lftG (canonL l) i).length + 1) := by omega
        have hRc := capG_p hRp
        have hRo := ownG_p hRp
        refine hJ1 _ _ ⟨k1 - 1, by omega, _, _, _, ⟨i + 1, q, by omega, by omega, rfl, rfl⟩, bS hbel [0, 5, 2, 3] (absRf (jn @hsx (jn @hsy (jn @hR (jn @hRl (jn @hRc @hRo))))))⟩
      have h16z := h16
      have h16e : (bstG (lftG (canonL l) i) (lftG (canonL l) i).length == 0) = false := beq_eq_false_iff_ne.2 (by omega)
      have h16l : decide (0 < bstG (lftG (canonL l) i) (lftG (canonL l) i).length) = true := decide_eq_true h16
      have q21 := @prs_take (lftG (canonL l) i) (bstG (lftG (canonL l) i) (lftG (canonL l) i).length)
      have q22 := prs_dropv (l := lftG (canonL l) i) (k := bstG (lftG (canonL l) i) (lftG (canonL l) i).length + 1) (by omega)
      have q23 : ((bstG (lftG (canonL l) i) (lftG (canonL l) i).length) + ((lftG (canonL l) i).length - (bstG (lftG (canonL l) i) (lftG (canonL l) i).length + 1)) == 0) = false := beq_eq_false_iff_ne.2 (by omega)
      have hvA : List.take ((bstG (lftG (canonL l) i) (lftG (canonL l) i).length) * 2) (prs (List.take (bstG (lftG (canonL l) i) (lftG (canonL l) i).length) (lftG (canonL l) i))) = prs (List.take (bstG (lftG (canonL l) i) (lftG (canonL l) i).length) (lftG (canonL l) i)) := by rw [prs_take, List.take_take, Nat.min_self]
      have g'25 := (jn h16e (jn h16l (jn q21 (jn @List.length_take.{0} (jn @List.length_drop.{0} (jn @Nat.sub_zero (jn q22 (jn q23 (jn @hvA g'22)))))))))
      refine runTf g'25 ?_
      have hR : lftG (canonL l) (i + 1) = (List.take (bstG (lftG (canonL l) i) (lftG (canonL l) i).length) (lftG (canonL l) i)) ++ (List.drop (bstG (lftG (canonL l) i) (lftG (canonL l) i).length + 1) (lftG (canonL l) i)) := rfl
      have hRl : ((List.take (bstG (lftG (canonL l) i) (lftG (canonL l) i).length) (lftG (canonL l) i)) ++ (List.drop (bstG (lftG (canonL l) i) (lftG (canonL l) i).length + 1) (lftG (canonL l) i))).length = bstG (lftG (canonL l) i) (lftG (canonL l) i).length + ((lftG (canonL l) i).length - (bstG (lftG (canonL l) i) (lftG (canonL l) i).length + 1)) := by rw [← hR, lft_len (by omega)]; omega
      have hRp : 0 < bstG (lftG (canonL l) i) (lftG (canonL l) i).length + ((lftG (canonL l) i).length - (bstG (lftG (canonL l) i) (lftG (canonL l) i).length + 1)) := by omega
      have hRc := capG_p hRp
      have hRo := ownG_p hRp
      refine hJ1 _ _ ⟨k1 - 1, by omega, _, _, _, ⟨i + 1, q, by omega, by omega, rfl, rfl⟩, bS hbel [0, 6, 2, 3] (absRf (jn @hsx (jn @hsy (jn @hR (jn @hRl (jn @hRc @hRo))))))⟩
    have hj0 : j = 0 := by omega
    obtain rfl : n = i := by omega
    have hil := lft_len (l := canonL l) (n := n) hnl
    have hsi := sumX_bd hl16 hlB hnl
    have hrL : canonL (lftG (canonL l) n ++ [(sumX (canonL l) n, 0), (0, sumY (canonL l) n)]) = redL l most := by unfold redL; rw [hN]
    have hBB : ∀ e ∈ lftG (canonL l) n ++ [(sumX (canonL l) n, 0), (0, sumY (canonL l) n)], Bd 4194304 e := fun e he => by
        simp only [List.mem_append, List.mem_cons, List.not_mem_nil, or_false] at he
        rcases he with he | rfl | rfl
        · have := hcb e (lft_mem he); unfold Bd at *; omega
        · unfold Bd; simp only; omega
        unfold Bd; simp only; omega
    have hcl2 := canonL_len (lftG (canonL l) n ++ [(sumX (canonL l) n, 0), (0, sumY (canonL l) n)])
    rw [hrL, List.length_append, hil] at hcl2
    simp only [List.length_cons, List.length_nil] at hcl2
    have g'26 := (jn h7 (jn h7d (jn @capG_s g'13)))
    refine runTf g'26 ?_
    refine cvr g'26 (rcanon_e _ x y _ _ _ _ ((lftG (canonL l) n) ++ [(sumX (canonL l) n, 0), (0, sumY (canonL l) n)]) _ hrL (by simp only [List.length_append, List.length_drop, List.length_cons, List.length_nil, hil]) (by first | rfl | (rw [get_newk]; rfl) | (rw [get_new0]; rfl) | (rw [get_newk, prs_append]; rfl) | (rw [get_new0, prs_append]; rfl)) (by simp only [List.length_append, List.length_drop, List.length_cons, List.length_nil, hil]; omega) hBB) ?_
    refine cv (rvalid_c _ x y _ (redL l most) (.inr slA) (by omega)) ?_
    refine rcs g'26 (fun h24 h24d g'27 => ?_) (fun h24 h24d g'28 => ?_)
    · refine runTf g'27 ?_
      refine hQ _ _ (end_byG (.inl rfl) hbel (x1 := .tup [.agg [iV 0, iV 0, .sl none 0 (some 0)], iV 6]) (l2 := [.cells false 2 []]) (.tup [.agg [iV 0, iV 0, .sl (some (H.length, 0)) 0 (some 0)], iV 6]) (resT Try.results7) [.cells false 2 []] rfl [7] (by decide) ⟨by simp [redE, mkX, mkL, capG_0, ownG_0, prs_nil, h1d, h2d, h3d, h4d, h7d, h24d], by simp [redE, mkX, mkL, capG_0, ownG_0, prs_nil, h1d, h2d, h3d, h4d, h7d, h24d]⟩ ?_)
      exact absW
    refine runTf g'28 ?_
    refine hQ _ _ (end_byG (.inl rfl) hbel (x1 := .tup [.agg [iV x, iV y, .sl (some (H.length + 6, 0)) ((redL l most).length) (capG (redL l most).length)], iV 0]) (l2 := [.cells (ownG (redL l most).length) 2 (prs (redL l most))]) (.tup [.agg [iV x, iV y, .sl (some (H.length, 0)) ((redL l most).length) (capG (redL l most).length)], iV 0]) (resT Try.results7) [] rfl [6] (by decide) ⟨by simp [redE, mkX, mkL, capG_0, ownG_0, prs_nil, h1d, h2d, h3d, h4d, h7d, h24d], by simp [redE, mkX, mkL, capG_0, ownG_0, prs_nil, h1d, h2d, h3d, h4d, h7d, h24d]⟩ ?_)
    exact absW
  refine runTf g'29 ?_
  refine hQ _ _ (end_byG (.inl rfl) hbel (x1 := .tup [.agg [iV 0, iV 0, .sl none 0 (some 0)], iV 2]) (l2 := [.cells false 2 []]) (.tup [.agg [iV 0, iV 0, .sl (some (H.length, 0)) 0 (some 0)], iV 2]) (resT Try.results7) [.cells false 2 []] rfl [2] (by decide) ⟨by simp [redE, mkX, mkL, capG_0, ownG_0, prs_nil, h1d, h2d], by simp [redE, mkX, mkL, capG_0, ownG_0, prs_nil, h1d, h2d]⟩ ?_)
  exact absW
open Go.RowKit
theorem mkX_0 {x : Int} : mkX 0 x = x := rfl
theorem mkL_0 {L : List Pt} : mkL 0 L = L := rfl
theorem corV_len2 {x y : Int} {l : List Pt} (hv : validB x y l = true) : 0 < (corV x y l).length ∧ (corV x y l).length ≤ 40 := by
  rw [corV_pos hv, corR_len]
  have := (valid_bd hv).1
  have := canonL_len l
  omega
theorem corV_bd2 {x y : Int} {l : List Pt} (hv : validB x y l = true) : ∀ e ∈ corV x y l, Bd 9437184 e := by
  rw [corV_pos hv]; exact corR_bd hv
theorem cor_inV {x y : Int} {l : List Pt} (hv : validB x y l = true) {i : Nat} (h : i < (corV x y l).length) : inZ l (psub (gp (corV x y l) i) (x, y)) := by
  rw [corV_pos hv] at h ⊢
  rw [corR_len] at h
  exact inZ_canon.1 (cor_in x y (canonL l) h)
open Go.RowKit
def prsOf : List AV → Option (List Pt)
  | [] => some []
  | .int .i64 x :: .int .i64 y :: r => (prsOf r).map ((x, y) :: ·)
  | _ => none
theorem prsOf_eq : ∀ (xs : List AV) (l : List Pt), prsOf xs = some l → xs = prs l
  | [], l, h => by simp [prsOf] at h; subst h; rfl
  | .int .i64 x :: .int .i64 y :: r, l, h => by
    simp only [prsOf, Option.map_eq_some_iff] at h
    obtain ⟨m, hm, rfl⟩ := h
    rw [prsOf_eq r m hm]; rfl
  | [x], l, h => by unfold prsOf at h; split at h <;> simp_all
  | x :: y :: r, l, h => by
    unfold prsOf at h
    split at h
    · simp_all
    · rename_i e
      injection e with e1 e2
      injection e2 with e2 e3
      subst e1 e2 e3
      simp only [Option.map_eq_some_iff] at h
      obtain ⟨m, hm, rfl⟩ := h
      rw [prsOf_eq _ m hm]; rfl
    cases h
/-- The generators of a zonogon's slice. -/
def gensOf (H : AHeap) (s : AV) : Option (List Pt) :=
  match s with
  | .sl (some (b, 0)) n _ => match H[b]? with
    | some (.cells _ 2 xs) => (prsOf xs).bind fun l => bif Nat.beq l.length n then some l else none
    | _ => none
  | _ => none
theorem gensOf_isP {H : AHeap} {s : AV} {l : List Pt} (h : gensOf H s = some l) : SlP H s l := by
  unfold gensOf at h
  split at h
  · rename_i b n c
    split at h
    · rename_i own xs hb
      cases hp : prsOf xs with
      | none => rw [hp] at h; cases h
      | some m =>
        rw [hp, Option.bind_some] at h
        cases hn : Nat.beq m.length n
        · rw [hn] at h; cases h
        rw [hn, cond_true] at h
        injection h with h
        subst h
        have := Nat.eq_of_beq_eq_true hn
        subst this
        exact ⟨b, own, c, rfl, by rw [hb, prsOf_eq _ _ hp]⟩
    cases h
  cases h
theorem TbOk.filter {P : Program} (p : Nat × Bool × Func → Bool) : ∀ {tb : List (Nat × Bool × Func)}, TbOk P tb → TbOk P (tb.filter p)
  | _, .nil => .nil
  | _, .cons (f := f) (q := q) (fn := fn) h1 h2 h3 hr => by
    rw [List.filter_cons]
    split
    · exact .cons h1 h2 h3 (TbOk.filter p hr)
    exact TbOk.filter p hr
open Go.RowKit
def ext07 : Caller := fun f args H =>
  match args with
  | [.agg [.int .i64 x1, .int .i64 y1, s1], .agg [.int .i64 x2, .int .i64 y2, s2]] =>
    bif Nat.beq f 20 then (gensOf H s1).bind fun l1 => (gensOf H s2).map fun l2 => (.bool (sameB x1 y1 l1 x2 y2 l2), none) else none
  | [.agg [.int .i64 x, .int .i64 y, s], .agg [.int .i64 x0, .int .i64 y0, .int .i64 x1, .int .i64 y1]] =>
    bif Nat.beq f 18 then (gensOf H s).map fun l => (.bool (apartB x y l x0 y0 x1 y1), none) else none
  | [.sl none 0 (some 0), .int .i64 n] =>
    bif Nat.beq f 51 && (decide (0 < n) && decide (n ≤ 1000)) then some (.sl (some (H.length, 0)) 0 none, some (H ++ [.cells true 2 []])) else none
  | _ => ext f args H
theorem ext07_ok : CallOk Try.prog ext07 := fun f args H x o h => by
  unfold ext07 at h
  split at h
  · rename_i x1 y1 s1 x2 y2 s2
    cases hf : Nat.beq f 20
    · rw [hf] at h; cases h
    rw [hf, cond_true] at h
    have e := Nat.eq_of_beq_eq_true hf
    subst e
    simp only [Option.bind_eq_some_iff, Option.map_eq_some_iff, Prod.mk.injEq] at h
    obtain ⟨l1, h1, l2, h2, rfl, rfl⟩ := h
    exact ⟨by kernel_rfl, Nat.le_refl _, same_c H _ _ _ _ _ _ _ _ (gensOf_isP h1) (gensOf_isP h2)⟩
  · rename_i x y s x0 y0 x1 y1
    cases hf : Nat.beq f 18
    · rw [hf] at h; cases h
    rw [hf, cond_true] at h
    have e := Nat.eq_of_beq_eq_true hf
    subst e
    simp only [Option.map_eq_some_iff, Prod.mk.injEq] at h
    obtain ⟨l1, h1, rfl, rfl⟩ := h
    exact ⟨by kernel_rfl, Nat.le_refl _, apart_c H _ _ _ _ _ _ _ _ (gensOf_isP h1)⟩
  · rename_i n
    cases hf : Nat.beq f 51 && (decide (0 < n) && decide (n ≤ 1000))
    · rw [hf] at h; cases h
    rw [hf, cond_true] at h
    simp only [Bool.and_eq_true, decide_eq_true_eq] at hf
    obtain ⟨h1, h2, h3⟩ := hf
    have e := Nat.eq_of_beq_eq_true h1
    subst e
    simp only [Option.some.injEq, Prod.mk.injEq] at h
    obtain ⟨rfl, rfl⟩ := h
    obtain ⟨m, rfl⟩ : ∃ m : Nat, n = m := ⟨n.toNat, by omega⟩
    exact ⟨by kernel_rfl, by simp, grow_a (by omega) (by omega)⟩
  exact ext_ok f args H x o h
/-- The functions that the run enters: all but Grow. -/
noncomputable def tb07 : List (Nat × Bool × Func) := tb.filter fun p => !Nat.beq p.1 51
theorem tb07_ok : TbOk Try.prog tb07 := tb_ok.filter _
open Go.RowKit
theorem awake_a (H : AHeap) : ACalls Try.prog 4 [] H (fun v H' => v = .bool true ∧ H' = H) :=
  ACalls.closed (ran try_mixed ext07_ok tb07 tb07_ok 3000 60 (x := .bool true) (o := none) (by kernel_rfl)) rfl rfl H
open Go.RowKit
theorem redE0 {x y : Int} {l : List Pt} {m : Int} (h : redE x y l m = 0) : validB x y l = true ∧ 2 ≤ m ∧ m ≤ 16 ∧ validB x y (redL l m) = true := by
  unfold redE at h
  split at h
  · rename_i hv
    split at h
    · omega
    split at h
    · rename_i h1 h2; exact ⟨hv, by omega, by omega, h2⟩
    omega
  omega
theorem redM_len {x y : Int} {l : List Pt} {m : Int} : (mkL (redE x y l m) (redL l m)).length ≤ 16 := by
  unfold mkL
  split
  · rename_i h
    have h := redE0 h
    have := redL_len (l := l) h.2.1
    omega
  simp
theorem redM_has {x y : Int} {l : List Pt} {m : Int} (he : redE x y l m = 0) {i : Nat} (hi : i < (corV x y l).length) : hasB x y (redL l m) (g1 (corV x y l) i) (g2 (corV x y l) i) = true := by
  obtain ⟨hv, h2, -, hr⟩ := redE0 he
  have hb := gpb (corV_bd2 hv) hi
  exact hasB_iff.2 ⟨hr, within_iff.2 (by omega), within_iff.2 (by omega), redL_in h2 (cor_inV hv hi)⟩
theorem redM_le {x y : Int} {l : List Pt} {m : Int} (he : redE x y l m = 0) : (((redL l m).length : Nat) : Int) ≤ m := redL_len (redE0 he).2.1
theorem lred_c (H : AHeap) (x y : Int) (s : AV) (l : List (Int × Int)) (most : Int) (hs : Sl H 2 s l.length (prs l)) : ACalls Try.prog 3 [.agg [iV x, iV y, s], iV most] H (fun v H' => v = .bool true ∧ H' = H) := by
  obtain ⟨bs, os, cs, rfl, hbs⟩ := hs
  have hbls := getElem?_lt hbs
  have hb0s := fun l => get_app (l := l) hbs
  refine AcT true Try.func3 ?_; intro hbel Q hQ
  have g'1 := (jn @hbs (jn @hb0s (jn @mkX_0 @mkL_0)))
  refine runTf g'1 ?_
  refine cvr g'1 (awake_a _) ?_
  refine cv (few_c _ x y _ l (.inr ⟨_, _, _, rfl, by first | exact hb0s _ | exact hbs⟩)) ?_
  refine rcs g'1 (fun h1 h1d g'2 => ?_) (fun h1 h1d g'3 => ?_)
  · refine runTf g'2 ?_
    refine cvr g'2 (awake_a _) ?_
    exact eP hQ hbel (.bool true) Try.results3 ⟨by first | (simp [h1d]; done) | (simp [hlm, h1d]; done) | (simp at *; done) | (simp_all; done), rfl⟩
  refine runTf g'3 ?_
  refine cvr g'3 (pred_c _ x y _ l _ ⟨_, _, _, rfl, by first | exact hb0s _ | exact hbs⟩) ?_
  refine cvr g'3 (rred_c _ x y _ l _ ⟨_, _, _, rfl, by first | exact hb0s _ | exact hbs⟩ (by first | omega | (simp only [List.length_cons, List.length_nil]; omega) | exact Nat.le_trans (mkL_len _ _) (by first | omega | simp) | exact Nat.le_trans (vL_len _ _) (by first | omega | simp) | exact Nat.le_trans corV_len (by omega) | exact Nat.le_trans (canonL_len _) (by first | omega | simp))) ?_
  have hmk := redM_len (x := x) (y := y) (l := l) (m := most)
  refine cvr g'3 (zonogons_c _ (mkX (redE x y l most) (x)) (mkX (redE x y l most) (y)) (mkX (redE x y l most) (x)) (mkX (redE x y l most) (y)) _ _ (mkL (redE x y l most) (redL l most)) (mkL (redE x y l most) (redL l most)) (.inr slA) (.inr slA) (by first | omega | (simp only [List.length_cons, List.length_nil]; omega) | exact Nat.le_trans (mkL_len _ _) (by first | omega | simp) | exact Nat.le_trans (vL_len _ _) (by first | omega | simp) | exact Nat.le_trans corV_len (by omega) | exact Nat.le_trans (canonL_len _) (by first | omega | simp)) (by first | omega | (simp only [List.length_cons, List.length_nil]; omega) | exact Nat.le_trans (mkL_len _ _) (by first | omega | simp) | exact Nat.le_trans (vL_len _ _) (by first | omega | simp) | exact Nat.le_trans corV_len (by omega) | exact Nat.le_trans (canonL_len _) (by first | omega | simp))) ?_
  refine cvr g'3 (rCorners_c _ x y _ l ⟨_, _, _, rfl, by first | exact hb0s _ | exact hbs⟩ (by first | omega | (simp only [List.length_cons, List.length_nil]; omega) | exact Nat.le_trans (mkL_len _ _) (by first | omega | simp) | exact Nat.le_trans (vL_len _ _) (by first | omega | simp) | exact Nat.le_trans corV_len (by omega) | exact Nat.le_trans (canonL_len _) (by first | omega | simp))) ?_
  refine glp (fun k F Hx => ∃ i : Nat, i + k = (corV x y l).length ∧ F = [(1, iV most), (5, .ptr (some (H.length + 1, 0))), (6, iV (redE x y l most)), (9, .sl (some (H.length + 2, 0)) ((corV x y l).length) (capG (corV x y l).length)), (10, iV ((i : Nat) : Int))] ∧ Hx = H ++ [.cells (ownG (mkL (redE x y l most) (redL l most)).length) 2 (prs (mkL (redE x y l most) (redL l most))), .cells true 0 [iV (mkX (redE x y l most) (x)), iV (mkX (redE x y l most) (y)), .sl (some (H.length, 0)) ((mkL (redE x y l most) (redL l most)).length) (capG (mkL (redE x y l most) (redL l most)).length)], .cells (ownG (corV x y l).length) 2 (prs (corV x y l))]) ((corV x y l).length) ?_ ?_
  · refine ⟨_, _, _, ⟨0, by omega, rfl, rfl⟩, bS hbel [1, 2, 5] absR⟩
  rintro k0 F Hx ⟨i, hm0, rfl, rfl⟩ J0 hJ0
  have g'4 := (jn @prs_len (jn @prs_one g'3))
  refine rgs g'4 (fun h2 h2d _ => ?_) (fun h2 h2d _ => ?_)
  · have he : redE x y l most = 0 := by simpa using h2d
    have hlm := redM_le he
    have hcc := corV_len2 (redE0 he).1
    have g'5 := (jn h2 (jn h2d (jn @int_bne (jn @int_beq g'4))))
    refine rcs g'5 (fun h3 h3d _ => ?_) (fun h3 h3d g'8 => ?_)
    · have q4 := prs_at0 (l := corV x y l) (j := i) (by omega)
      have q5 := prs_at1 (l := corV x y l) (j := i) (by omega)
      have g'6 := (jn h3 (jn h3d (jn q4 (jn q5 g'5))))
      refine runTf g'6 ?_
      refine cd (has_c _ x y _ (redL l most) _ _ slA) ?_
      refine rcs g'6 (fun h6 h6d _ => ?_) (fun h6 h6d g'7 => ?_)
      · (rw [redM_has he (by omega)] at h6d; cases h6d)
      refine runTf g'7 ?_
      refine hJ0 _ _ ⟨k0 - 1, by omega, _, _, _, ⟨i + 1, by omega, rfl, rfl⟩, bS hbel [0, 1, 2] (absRf (jn @he (jn @mkX_0 (jn @mkL_0 @h2d))))⟩
    exact eR g'8 hQ hbel (.bool (decide ((((redL l most).length : Nat) : Int) ≤ most))) Try.results3 ⟨by first | (simp [h1d, h2d, h3d]; done) | (simp [hlm, h1d, h2d, h3d]; done) | (simp at *; done) | (simp_all; done), rfl⟩
  have g'9 := (jn h2 (jn h2d (jn @int_bne (jn @int_beq g'4))))
  exact eR g'9 hQ hbel (.bool true) Try.results3 ⟨by first | (simp [h1d, h2d]; done) | (simp [hlm, h1d, h2d]; done) | (simp at *; done) | (simp_all; done), rfl⟩
open Go.RowKit
set_option maxRecDepth 100000 in
theorem zonogonReduces_top (H : AHeap) (xs : List AV) (hn : xs.length = 2) (hy : ∀ (j : Nat) (t : TypeId) (x : AV), [24, 3][j]? = some t → xs[j]? = some x → ATy Try.prog H 9 t x) : ACalls Try.prog 3 xs H (fun v H' => v = .bool true ∧ H' = H) := by
  match xs, hn, hy with
  | [a0, a1], _, hy =>
    obtain ⟨ys0, e0, r0_0⟩ := (hy 0 _ a0 rfl rfl).agg (ls := [3, 3, 22]) (by kernel_rfl) (by kernel_rfl)
    obtain ⟨y0_0, q0_0, rfl, t0_0, r0_1⟩ := r0_0.cons
    obtain ⟨z1, rfl, w1⟩ := t0_0.int (k := .i64) (by kernel_rfl)
    obtain ⟨y0_1, q0_1, rfl, t0_1, r0_2⟩ := r0_1.cons
    obtain ⟨z2, rfl, w2⟩ := t0_1.int (k := .i64) (by kernel_rfl)
    obtain ⟨y0_2, q0_2, rfl, t0_2, r0_3⟩ := r0_2.cons
    obtain ⟨l3, s3, m3, w3⟩ := t0_2.pairsU (n := 7) (t := 22) (e := 34) (u := 3) (v := 3) (by kernel_rfl) (by kernel_rfl) (by kernel_rfl) (by kernel_rfl)
    obtain rfl := r0_3.nil
    subst e0
    have t1 := (hy 1 _ a1 rfl rfl).one (by kernel_rfl) (by kernel_rfl)
    obtain ⟨z4, rfl, w4⟩ := t1.int (k := .i64) (by kernel_rfl)
    exact lred_c H z1 z2 _ l3 z4 s3
section
open Go.ChangeShapes Go.WideShapes Go.ChangeAt Go.RowKit Go.Joins
open Go.ChangeMaps (open_string shut_string)
set_option maxRecDepth 100000 in
theorem zonogonReduces_lifted (os : Os) (started : os.Started) (H : Type) (enc : TypeId × Value → H) :
    ReturnsInHanded {} Try.checked os 3 .any (Rows.zonogonReducesSpec.pre6 enc Try.prog Try.f3 Rows.zonogonReducesRow.domain false) (Rows.zonogonReducesSpec.post enc Try.prog Try.f3 false true false false) := by
  refine returnsInHanded_of_change (C := Try.checked) own started (by kernel_rfl) Try.func3
    (ChangeSpec.witness6 (enc := enc) (C := Try.checked) false ⟨#[], #[.agg #[.int .i64 0, .int .i64 0, .slice none 0 0], .int .i64 0], []⟩ 8 (by kernel_rfl) (by kernel_rfl) (by kernel_rfl) (by kernel_rfl)) ?_
  intro W base args ds gs before hval0 hW hcnd _
  have hval : ∀ (j : Nat) t v, Try.f3.params[j]? = some t → args[j]? = some v → Value.okWide Try.prog W .any base t v := hval0
  have hW' := hW
  obtain ⟨p, q, hA0, hV, rfl, hfz, hnd⟩ := hW
  have hA : DataW.TrodAll enc Try.prog W 0 (fun _ => true) true Try.f3.params.toList args.toList ds p := hA0
  rw [Try.params3] at hA hval
  have hwalk := calls_top (n := 9) (f := 3) hA (fun j t v a b => hval j t v (by simpa using a) (by simpa using b)) (by kernel_rfl) (fun H xs hn hy => zonogonReduces_top H xs hn hy)
  rw [Array.toArray_toList] at hwalk
  obtain ⟨v0, vs0, d0, ds0, p0, q0, hargs, rfl, rfl, h0, r0⟩ := trodAll_cons hA
  obtain ⟨v1, vs1, d1, ds1, p1, q1, rfl, rfl, rfl, h1, r1⟩ := trodAll_cons r0
  obtain ⟨rfl, rfl, rfl⟩ := trodAll_nil r1
  obtain rfl : args = #[v0, v1] := by cases args; simp_all
  obtain ⟨rfl, rfl⟩ := trodVars_none hV
  have k0 := h0
  have lt0 : ∀ x ∈ p0, x.block < W.heap.size := by obtain ⟨m, hm⟩ := k0; exact DataW.trod_lt m _ _ _ hm
  have k1 := h1
  have lt1 : ∀ x ∈ p1, x.block < W.heap.size := by obtain ⟨m, hm⟩ := k1; exact DataW.trod_lt m _ _ _ hm
  clear hA0 hval0
  refine hwalk.mono fun e W' ⟨he, bel⟩ => ?_
  subst he
  exact ⟨_, rfl, _, _, _, [], _, [], hW', trodAll_mk1 (shut_bool Try.underlying4 _), (trodAll_cons_mk (Below.trod laidOut (by kernel_rfl) (of_decide_eq_true (by kernel_rfl)) k0 bel lt0) (trodAll_cons_mk (Below.trod laidOut (by kernel_rfl) (of_decide_eq_true (by kernel_rfl)) k1 bel lt1) trodAll_mk0)), rfl, bel.frame _, fun h => by cases h⟩
theorem and_t {a b : Bool} (h : a = true) (k : b = true) : (a && b) = true := by rw [h, k]; rfl
theorem zonogonReduces_h0 : (Rows.zonogonReducesRow.inPlace == Try.pinned.checked.prog.inPlace 3) = true := by kernel_rfl
theorem zonogonReduces_h1 : (Rows.zonogonReducesRow.unfollowed == Try.pinned.checked.prog.unfollowed 3) = true := by kernel_rfl
theorem zonogonReduces_h2 : (Rows.zonogonReducesRow.recurses == Try.pinned.checked.prog.recurses 3) = true := by kernel_rfl
theorem zonogonReduces_h3 : (Rows.zonogonReducesRow.named == Try.pinned.checked.prog.varsNamed 3) = true := by kernel_rfl
theorem zonogonReduces_h4 : Try.pinned.checked.prog.stopsHeard = true := by kernel_rfl
theorem zonogonReduces_h5 : Try.pinned.checked.prog.mayEnter = true := by kernel_rfl
theorem zonogonReduces_h6 : (Rows.zonogonReducesRow.lifted == Try.pinned.checked.prog.liftsFinal) = true := by kernel_rfl
theorem zonogonReduces_closed : joinedFacts Try.pinned.checked.prog 3 Try.f3 Rows.zonogonReducesSpec Rows.zonogonReducesRow = true := by
  unfold joinedFacts
  exact (and_t (and_t (and_t (and_t (and_t (and_t (and_t (and_t (and_t (and_t (and_t (and_t (and_t (and_t (and_t (and_t (and_t (and_t (and_t (and_t (and_t (and_t (and_t (and_t (and_t (and_t (and_t (and_t (and_t (and_t (and_t (by kernel_rfl) laidOut) (by kernel_rfl)) (by kernel_rfl)) (by kernel_rfl)) (by kernel_rfl)) (by kernel_rfl)) (by kernel_rfl)) (by kernel_rfl)) zonogonReduces_h0) zonogonReduces_h1) zonogonReduces_h2) zonogonReduces_h3) (by kernel_rfl)) (by kernel_rfl)) (by kernel_rfl)) (by kernel_rfl)) (by kernel_rfl)) (by kernel_rfl)) (by kernel_rfl)) (by kernel_rfl)) (by kernel_rfl)) (by kernel_rfl)) (by kernel_rfl)) zonogonReduces_h4) zonogonReduces_h5) zonogonReduces_h6) (by kernel_rfl)) (by kernel_rfl)) (by kernel_rfl)) (by kernel_rfl)) (by kernel_rfl))
theorem zonogonReduces_over : Rows.zonogonReducesRow.holds Try.pinned (OpenSpec.ofChange Rows.zonogonReducesSpec) :=
  OpenClaim.holds_of_wide 3 Try.f3 rfl rfl rfl rfl rfl rfl rfl ⟨rfl, rfl, rfl, rfl, rfl⟩ rfl rfl rfl rfl rfl (by kernel_rfl) Try.func3 zonogonReduces_closed
    (of_decide_eq_true (by kernel_rfl)) (by unfold Func.isWrapper; rw [if_neg (by decide +kernel)]; exact ⟨rfl, rfl⟩)
    (fun os started H enc _ => zonogonReduces_lifted os started H enc)
/-- The given statement. -/
theorem zonogonReduces_proved : Rows.ZonogonReducesSaid := zonogonReduces_over
end
end Go.Proofs.Ytbmfgcccgonaeaa
