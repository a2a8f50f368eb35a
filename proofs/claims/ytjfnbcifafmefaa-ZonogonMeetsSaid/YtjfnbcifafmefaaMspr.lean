/- Plain facts on how far sums of segments reach: the canonical form reaches as far. Conditions: as each theorem states. -/
import Derived.Test.YtjfnbcifafmefaaMnrm
namespace Go.Proofs.Ytjfnbcifafmefaa
set_option linter.unusedSimpArgs false
set_option linter.unusedVariables false
open Go.RowKit
theorem absI_neg (x : Int) : absI (-x) = absI x := by unfold absI; split <;> split <;> omega
theorem absI_le {x M : Int} : absI x ≤ M ↔ -M ≤ x ∧ x ≤ M := by unfold absI; split <;> omega
theorem absI_nn (x : Int) : 0 ≤ absI x := by unfold absI; split <;> omega
theorem le_absI (x : Int) : x ≤ absI x := by unfold absI; split <;> omega
theorem absI_of_nn {x : Int} (h : 0 ≤ x) : absI x = x := by unfold absI; split <;> omega
theorem absI_of_np {x : Int} (h : x ≤ 0) : absI x = -x := by unfold absI; split <;> omega
theorem absI_zero : absI 0 = 0 := rfl
theorem crs_zero_r (a : Pt) : crs a (0, 0) = 0 := by unfold crs; simp
theorem dotP_add (n g h : Pt) : dotP n (padd g h) = dotP n g + dotP n h := by unfold dotP padd; simp only [Int.mul_add]; omega
theorem dotP_neg (n g : Pt) : dotP n (-g.1, -g.2) = -dotP n g := by unfold dotP; simp only [Int.mul_neg]; omega
theorem dotP_negl (n g : Pt) : dotP (-n.1, -n.2) g = -dotP n g := by unfold dotP; simp only [Int.neg_mul]; omega
theorem dotP_zero (n : Pt) : dotP n (0, 0) = 0 := by unfold dotP; simp
theorem par_pos {g h : Pt} (hg : up g) (hh : up h) (h0 : crs g h = 0) : ∃ a b : Int, 0 < a ∧ 0 < b ∧ a * h.1 = b * g.1 ∧ a * h.2 = b * g.2 := by
  unfold crs at h0
  have e1 : g.1 * h.2 = g.2 * h.1 := by omega
  rcases Int.lt_or_eq_of_le (up_y hg) with g2 | g2
  · have h2 : 0 < h.2 := by
      rcases Int.lt_or_eq_of_le (up_y hh) with h2 | h2
      · exact h2
      · exfalso
        rw [← h2, Int.mul_zero] at e1
        have : h.1 = 0 := by
          rcases Int.mul_eq_zero.1 e1.symm with h | h
          · omega
          · exact h
        unfold up at hh; omega
    exact ⟨g.2, h.2, g2, h2, by rw [← e1, Int.mul_comm], Int.mul_comm _ _⟩
  · have g1p : 0 < g.1 := by unfold up at hg; omega
    rw [← g2, Int.zero_mul] at e1
    have h2 : h.2 = 0 := by
      rcases Int.mul_eq_zero.1 e1 with h | h
      · omega
      · exact h
    have h1p : 0 < h.1 := by unfold up at hh; omega
    exact ⟨g.1, h.1, g1p, h1p, Int.mul_comm _ _, by rw [h2, ← g2]; simp⟩
theorem abs_par {g h : Pt} (hg : up g) (hh : up h) (h0 : crs g h = 0) (n : Pt) : absI (dotP n (padd g h)) = absI (dotP n g) + absI (dotP n h) := by
  obtain ⟨a, b, ha, hb, e1, e2⟩ := par_pos hg hh h0
  have e : a * dotP n h = b * dotP n g := by
    unfold dotP
    have q1 : a * (n.1 * h.1 + n.2 * h.2) = n.1 * (a * h.1) + n.2 * (a * h.2) := by grind
    have q2 : b * (n.1 * g.1 + n.2 * g.2) = n.1 * (b * g.1) + n.2 * (b * g.2) := by grind
    rw [q1, q2, e1, e2]
  rw [dotP_add]
  rcases Int.le_total 0 (dotP n g) with k | k
  · have h1 : 0 ≤ dotP n h := nonneg_of (a := a) (by rw [e]; exact Int.mul_nonneg (by omega) k) ha
    rw [absI_of_nn k, absI_of_nn h1, absI_of_nn (by omega)]
  · have h1 : 0 ≤ -dotP n h := nonneg_of (a := a) (by rw [Int.mul_neg, e, ← Int.mul_neg]; exact Int.mul_nonneg (by omega) (by omega)) ha
    rw [absI_of_np k, absI_of_np (by omega : dotP n h ≤ 0), absI_of_np (by omega)]; omega
theorem spr_cons (n g : Pt) (l : List Pt) : spr n (g :: l) = absI (dotP n g) + spr n l := rfl
theorem spr_nn (n : Pt) : ∀ l : List Pt, 0 ≤ spr n l
  | [] => by simp [spr]
  | g :: l => by have := spr_nn n l; have := absI_nn (dotP n g); rw [spr_cons]; omega
theorem spr_putC {C : List Pt} {g : Pt} (hg : up g) (hs : C.Pairwise fun a b => 0 < crs a b) (hu : ∀ e ∈ C, up e) (n : Pt) : spr n (putC C g) = spr n C + absI (dotP n g) := by
  rcases split_at hg C hs hu with ⟨A, B, rfl, h1, h2⟩ | ⟨A, e, B, rfl, h1, h0, h2⟩
  · rw [putC_none h1 h2, spr_app, spr_app, spr_cons]; omega
  · rw [putC_some h1 h0 h2, spr_app, spr_app, spr_cons, spr_cons, abs_par (hu e (by simp)) hg (by rw [crs_anti]; omega)]; omega
theorem abs_nrm (n g : Pt) : absI (dotP n (nrm g)) = absI (dotP n g) := by
  unfold nrm; split
  · rw [dotP_neg, absI_neg]
  · rfl
/-- The canonical form reaches as far as the generators. -/
theorem spr_canon (n : Pt) (l : List Pt) : spr n (canonL l) = spr n l := by
  refine snoc_ind (P := fun l => spr n (canonL l) = spr n l) rfl (fun S g ih => ?_) l
  have hc := canonL_can S
  rw [canonL_snoc, spr_app, spr_cons, ← abs_nrm n g]
  show spr n (putL (canonL S) g) = spr n S + (absI (dotP n (nrm g)) + 0)
  unfold putL
  split
  · rename_i h; rw [h, dotP_zero, ih, absI_zero]; omega
  · rename_i h; rw [spr_putC (nrm_up h) hc.sorted hc.ups, ih]; omega
theorem spr_negl (n : Pt) : ∀ l : List Pt, spr (-n.1, -n.2) l = spr n l
  | [] => rfl
  | g :: l => by rw [spr_cons, spr_cons, spr_negl n l, dotP_negl, absI_neg]
/-- d is not beyond the sum of the segments in any direction. -/
def inZ (L : List Pt) (d : Pt) : Prop := ∀ n : Pt, dotP n d ≤ spr n L
theorem inZ.abs {L : List Pt} {d : Pt} (h : inZ L d) (n : Pt) : absI (dotP n d) ≤ spr n L := by
  rw [absI_le]
  have h1 := h n
  have h2 := h (-n.1, -n.2)
  rw [dotP_negl, spr_negl] at h2
  omega
theorem inZ_canon {l : List Pt} {d : Pt} : inZ (canonL l) d ↔ inZ l d := by
  constructor <;> intro h n <;> have := h n <;> rw [spr_canon] at * <;> exact this
theorem inZ_neg {L : List Pt} {d : Pt} (h : inZ L d) : inZ L (-d.1, -d.2) := fun n => by
  have := h (-n.1, -n.2)
  rw [dotP_negl, spr_negl] at this
  rw [dotP_neg]; exact this
/-- The sum of directions. -/
def vsum : List Pt → Pt
  | [] => (0, 0)
  | g :: l => padd g (vsum l)
theorem vsum_app : ∀ l m : List Pt, vsum (l ++ m) = padd (vsum l) (vsum m)
  | [], m => by simp [vsum, padd]
  | g :: l, m => by simp only [List.cons_append, vsum, vsum_app l m, padd_assoc]
def psub (a b : Pt) : Pt := (a.1 - b.1, a.2 - b.2)
theorem dotP_sub (n g h : Pt) : dotP n (psub g h) = dotP n g - dotP n h := by unfold dotP psub; simp only [Int.mul_sub]; omega
theorem crs_sub_r (a b c : Pt) : crs a (psub b c) = crs a b - crs a c := by unfold crs psub; simp only [Int.mul_sub]; omega
theorem dot_le_spr (n : Pt) : ∀ l : List Pt, dotP n (vsum l) ≤ spr n l ∧ -spr n l ≤ dotP n (vsum l)
  | [] => by simp [vsum, dotP_zero, spr]
  | g :: l => by
    have ih := dot_le_spr n l
    have h := absI_le.1 (Int.le_refl (absI (dotP n g)))
    rw [spr_cons]
    show dotP n (padd g (vsum l)) ≤ _ ∧ _ ≤ dotP n (padd g (vsum l))
    rw [dotP_add]; omega
theorem dot_eq_spr (n : Pt) : ∀ l : List Pt, (∀ g ∈ l, 0 ≤ dotP n g) → dotP n (vsum l) = spr n l
  | [], _ => by simp [vsum, dotP_zero, spr]
  | g :: l, h => by
    have ih := dot_eq_spr n l fun e he => h e (by simp [he])
    rw [spr_cons, absI_of_nn (h g (by simp)), ← ih]
    show dotP n (padd g (vsum l)) = _
    rw [dotP_add]
theorem dot_eq_nspr (n : Pt) : ∀ l : List Pt, (∀ g ∈ l, dotP n g ≤ 0) → dotP n (vsum l) = -spr n l
  | [], _ => by simp [vsum, dotP_zero, spr]
  | g :: l, h => by
    have ih := dot_eq_nspr n l fun e he => h e (by simp [he])
    rw [spr_cons, absI_of_np (h g (by simp))]
    show dotP n (padd g (vsum l)) = _
    rw [dotP_add]; omega
/-- A sum of some and the opposite of the others is in. -/
theorem inZ_split (A B : List Pt) : inZ (A ++ B) (psub (vsum A) (vsum B)) := fun n => by
  rw [dotP_sub, spr_app]
  have h1 := dot_le_spr n A
  have h2 := dot_le_spr n B
  omega
theorem inZ_add {A B : List Pt} {d e : Pt} (h1 : inZ A d) (h2 : inZ B e) : inZ (A ++ B) (padd d e) := fun n => by
  rw [dotP_add, spr_app]
  have := h1 n; have := h2 n; omega
/-- Between two directions on one side of a line there is none on the other. -/
theorem mid_pos {g a b n : Pt} (h1 : 0 < crs g a) (h2 : 0 < crs a b) (h3 : 0 < crs g b) (k1 : 0 < dotP n g) (k2 : 0 < dotP n b) : 0 < dotP n a := by
  have e : crs g b * dotP n a = crs a b * dotP n g + crs g a * dotP n b := by unfold crs dotP; grind
  have q1 := Int.mul_pos h2 k1
  have q2 := Int.mul_pos h1 k2
  exact pos_of (a := crs g b) (by omega) h3
theorem sign_split (n : Pt) : ∀ L : List Pt, L.Pairwise (fun a b => 0 < crs a b) →
    ∃ A B, L = A ++ B ∧ (((∀ a ∈ A, 0 ≤ dotP n a) ∧ ∀ b ∈ B, dotP n b ≤ 0) ∨ ((∀ a ∈ A, dotP n a ≤ 0) ∧ ∀ b ∈ B, 0 ≤ dotP n b))
  | [], _ => ⟨[], [], rfl, .inl ⟨by simp, by simp⟩⟩
  | g :: L, hs => by
    rw [List.pairwise_cons] at hs
    obtain ⟨A, B, rfl, h⟩ := sign_split n L hs.2
    have hs2 := List.pairwise_append.1 hs.2
    have hm : ∀ m : Pt, (∀ x : Pt, dotP m x = dotP n x) ∨ (∀ x : Pt, dotP m x = -dotP n x) → 0 < dotP m g → ∀ b ∈ B, 0 < dotP m b → ∀ a ∈ A, 0 < dotP m a := fun m _ kg b hb kb a ha =>
      mid_pos (hs.1 a (by simp [ha])) (hs2.2.2 a ha b hb) (hs.1 b (by simp [hb])) kg kb
    rcases Int.lt_trichotomy (dotP n g) 0 with k | k | k
    · rcases h with ⟨hA, hB⟩ | ⟨hA, hB⟩
      · by_cases hall : ∀ b ∈ B, 0 ≤ dotP n b
        · refine ⟨[g], A ++ B, rfl, .inr ⟨by simpa using Int.le_of_lt k, fun b hb => ?_⟩⟩
          rcases List.mem_append.1 hb with hb | hb
          · exact hA b hb
          · exact hall b hb
        · have : ∃ b ∈ B, dotP n b < 0 := by
            apply Classical.byContradiction
            intro hno
            exact hall fun b hb => Int.not_lt.1 fun hlt => hno ⟨b, hb, hlt⟩
          obtain ⟨b, hb, kb⟩ := this
          have hA0 : A = [] := by
            cases A with
            | nil => rfl
            | cons a A =>
              have := hm (-n.1, -n.2) (.inr fun x => dotP_negl n x) (by rw [dotP_negl]; omega) b hb (by rw [dotP_negl]; omega) a (by simp)
              rw [dotP_negl] at this
              have := hA a (by simp)
              omega
          subst hA0
          refine ⟨g :: B, [], by simp, .inr ⟨fun a ha => ?_, by simp⟩⟩
          rcases List.mem_cons.1 ha with rfl | ha
          · omega
          · exact hB a ha
      · refine ⟨g :: A, B, rfl, .inr ⟨fun a ha => ?_, hB⟩⟩
        rcases List.mem_cons.1 ha with rfl | ha
        · omega
        · exact hA a ha
    · rcases h with ⟨hA, hB⟩ | ⟨hA, hB⟩
      · refine ⟨g :: A, B, rfl, .inl ⟨fun a ha => ?_, hB⟩⟩
        rcases List.mem_cons.1 ha with rfl | ha
        · omega
        · exact hA a ha
      · refine ⟨g :: A, B, rfl, .inr ⟨fun a ha => ?_, hB⟩⟩
        rcases List.mem_cons.1 ha with rfl | ha
        · omega
        · exact hA a ha
    · rcases h with ⟨hA, hB⟩ | ⟨hA, hB⟩
      · refine ⟨g :: A, B, rfl, .inl ⟨fun a ha => ?_, hB⟩⟩
        rcases List.mem_cons.1 ha with rfl | ha
        · omega
        · exact hA a ha
      · by_cases hall : ∀ b ∈ B, dotP n b ≤ 0
        · refine ⟨[g], A ++ B, rfl, .inl ⟨by simpa using Int.le_of_lt k, fun b hb => ?_⟩⟩
          rcases List.mem_append.1 hb with hb | hb
          · exact hA b hb
          · exact hall b hb
        · have : ∃ b ∈ B, 0 < dotP n b := by
            apply Classical.byContradiction
            intro hno
            exact hall fun b hb => Int.not_lt.1 fun hlt => hno ⟨b, hb, hlt⟩
          obtain ⟨b, hb, kb⟩ := this
          have hA0 : A = [] := by
            cases A with
            | nil => rfl
            | cons a A =>
              have := hm n (.inl fun x => rfl) k b hb kb a (by simp)
              have := hA a (by simp)
              omega
          subst hA0
          refine ⟨g :: B, [], by simp, .inl ⟨fun a ha => ?_, by simp⟩⟩
          rcases List.mem_cons.1 ha with rfl | ha
          · omega
          · exact hB a ha
/-- How far the sum reaches to the sides of a generator. -/
def wid (g : Pt) (L : List Pt) : Int := spr (0 - g.2, g.1) L
theorem dotP_perp (g h : Pt) : dotP (0 - g.2, g.1) h = crs g h := by unfold dotP crs; simp only [Int.sub_mul, Int.zero_mul]; omega
theorem crs_vsum (g : Pt) (L : List Pt) : crs g (vsum L) = dotP (0 - g.2, g.1) (vsum L) := (dotP_perp g _).symm
theorem wid_at {P Q : List Pt} {g : Pt} (hs : (P ++ g :: Q).Pairwise fun a b => 0 < crs a b) : wid g (P ++ g :: Q) = crs g (vsum Q) - crs g (vsum P) := by
  rw [List.pairwise_append, List.pairwise_cons] at hs
  obtain ⟨-, ⟨h1, -⟩, h2⟩ := hs
  unfold wid
  rw [spr_app, spr_cons, dotP_perp, crs_self, crs_vsum, crs_vsum, dot_eq_spr _ Q (fun q hq => by rw [dotP_perp]; exact Int.le_of_lt (h1 q hq)), dot_eq_nspr _ P (fun p hp => by rw [dotP_perp, crs_anti]; have := h2 p hp g (by simp); omega), absI_zero]
  omega
theorem two_sides {ei eo w n : Pt} (h : 0 < crs ei eo) (h1 : 0 ≤ crs ei w) (h2 : 0 ≤ crs eo w) (k1 : 0 ≤ dotP n ei) (k2 : dotP n eo ≤ 0) : dotP n w ≤ 0 := by
  have e : crs ei eo * dotP n w = crs ei w * dotP n eo - crs eo w * dotP n ei := by unfold crs dotP; grind
  have q1 := Int.mul_nonneg h1 (by omega : 0 ≤ -dotP n eo)
  have q2 := Int.mul_nonneg h2 k1
  rw [Int.mul_neg] at q1
  have : 0 ≤ crs ei eo * -dotP n w := by rw [Int.mul_neg]; omega
  have := nonneg_of this h
  omega
/-- By the sides of at least two generators: not beyond in any direction. -/
theorem inZ_sides {L : List Pt} (hs : L.Pairwise fun a b => 0 < crs a b) (h2 : 2 ≤ L.length) {d : Pt} (hd : ∀ g ∈ L, absI (crs g d) ≤ wid g L) : inZ L d := by
  have key : ∀ (n d : Pt) (A B : List Pt), L = A ++ B → (∀ g ∈ L, absI (crs g d) ≤ wid g L) → (∀ a ∈ A, 0 ≤ dotP n a) → (∀ b ∈ B, dotP n b ≤ 0) → dotP n d ≤ spr n L := by
    intro n d A B hL hd hA hB
    subst hL
    have hv : dotP n (psub (vsum A) (vsum B)) = spr n (A ++ B) := by rw [dotP_sub, dot_eq_spr n A hA, dot_eq_nspr n B hB, spr_app]; omega
    rw [← hv]
    suffices h : dotP n (psub d (psub (vsum A) (vsum B))) ≤ 0 by rw [dotP_sub] at h; omega
    -- the corner's two sides
    rcases List.eq_nil_or_concat A with rfl | ⟨A1, a, rfl⟩
    · cases B with
      | nil => simp at h2
      | cons b B1 =>
        rcases List.eq_nil_or_concat B1 with rfl | ⟨B2, z, rfl⟩
        · simp at h2
        · rw [List.concat_eq_append] at *
          simp only [List.nil_append] at *
          have w1 := wid_at (P := []) (Q := B2 ++ [z]) (g := b) hs
          have w2 := wid_at (P := b :: B2) (Q := []) (g := z) (by simpa using hs)
          simp only [List.nil_append] at w1
          have hbz : 0 < crs b z := (List.pairwise_cons.1 hs).1 z (by simp)
          have d1 := absI_le.1 (hd b (by simp))
          have d2 := absI_le.1 (hd z (by simp))
          have e2 : b :: B2 ++ [z] = b :: (B2 ++ [z]) := rfl
          rw [e2] at w2
          refine two_sides (ei := (-z.1, -z.2)) (eo := b) ?_ ?_ ?_ ?_ (hB b (by simp))
          · have : crs (-z.1, -z.2) b = crs b z := by unfold crs; grind
            omega
          · have e : crs (-z.1, -z.2) (psub d (psub (vsum []) (vsum (b :: (B2 ++ [z]))))) = -(crs z d) - crs z (vsum (b :: B2)) := by
              rw [← e2, vsum_app]; simp only [vsum]; unfold crs psub padd; grind
            rw [e]
            simp only [vsum, crs_zero_r] at w2 ⊢
            omega
          · have e : crs b (psub d (psub (vsum []) (vsum (b :: (B2 ++ [z]))))) = crs b d + crs b (vsum (B2 ++ [z])) := by
              simp only [vsum]; unfold crs psub padd; grind
            rw [e]
            simp only [vsum, crs_zero_r] at w1
            omega
          · rw [dotP_neg]; have := hB z (by simp); omega
    · rw [List.concat_eq_append] at *
      cases B with
      | cons b B1 =>
        have hs' : (A1 ++ a :: (b :: B1)).Pairwise fun a b => 0 < crs a b := by simpa using hs
        have w1 := wid_at (P := A1) (Q := b :: B1) (g := a) hs'
        have w2 := wid_at (P := A1 ++ [a]) (Q := B1) (g := b) hs
        have e1 : A1 ++ a :: (b :: B1) = A1 ++ [a] ++ b :: B1 := by simp
        rw [e1] at w1
        have hab : 0 < crs a b := (List.pairwise_cons.1 (List.pairwise_append.1 hs').2.1).1 b (by simp)
        have d1 := absI_le.1 (hd a (by simp))
        have d2 := absI_le.1 (hd b (by simp))
        refine two_sides (ei := a) (eo := b) hab ?_ ?_ (hA a (by simp)) (hB b (by simp))
        · have e : crs a (psub d (psub (vsum (A1 ++ [a])) (vsum (b :: B1)))) = crs a d - crs a (vsum A1) + crs a (vsum (b :: B1)) := by
            rw [vsum_app]; simp only [vsum]; unfold crs psub padd; grind
          rw [e]; omega
        · have e : crs b (psub d (psub (vsum (A1 ++ [a])) (vsum (b :: B1)))) = crs b d - crs b (vsum (A1 ++ [a])) + crs b (vsum B1) := by
            simp only [vsum]; unfold crs psub padd; grind
          rw [e]; omega
      | nil =>
        rw [List.append_nil] at *
        cases A1 with
        | nil => simp at h2
        | cons f A2 =>
          have w1 := wid_at (P := []) (Q := A2 ++ [a]) (g := f) (by simpa using hs)
          have w2 := wid_at (P := f :: A2) (Q := []) (g := a) hs
          simp only [List.nil_append] at w1
          have e1 : f :: (A2 ++ [a]) = f :: A2 ++ [a] := rfl
          rw [e1] at w1
          have hfa : 0 < crs f a := (List.pairwise_cons.1 (show (f :: (A2 ++ [a])).Pairwise (fun a b => 0 < crs a b) from hs)).1 a (by simp)
          have d1 := absI_le.1 (hd f (by simp))
          have d2 := absI_le.1 (hd a (by simp))
          refine two_sides (ei := a) (eo := (-f.1, -f.2)) ?_ ?_ ?_ (hA a (by simp)) ?_
          · have : crs a (-f.1, -f.2) = crs f a := by unfold crs; grind
            omega
          · have e : crs a (psub d (psub (vsum (f :: A2 ++ [a])) (vsum []))) = crs a d - crs a (vsum (f :: A2)) := by
              rw [vsum_app]; simp only [vsum]; unfold crs psub padd; grind
            rw [e]
            simp only [vsum, crs_zero_r] at w2 ⊢
            omega
          · have e : crs (-f.1, -f.2) (psub d (psub (vsum (f :: A2 ++ [a])) (vsum []))) = -(crs f d) + crs f (vsum (A2 ++ [a])) := by
              rw [← e1]; simp only [vsum]; unfold crs psub padd; grind
            rw [e]
            simp only [vsum, crs_zero_r] at w1
            omega
          · rw [dotP_neg]; have := hA f (by simp); omega
  intro n
  obtain ⟨A, B, hL, h⟩ := sign_split n L hs
  rcases h with ⟨hA, hB⟩ | ⟨hA, hB⟩
  · exact key n d A B hL hd hA hB
  · have := key (-n.1, -n.2) (-d.1, -d.2) A B hL (fun g hg => by
      have : crs g (-d.1, -d.2) = -crs g d := by unfold crs; grind
      rw [this, absI_neg]; exact hd g hg) (fun a ha => by rw [dotP_negl]; have := hA a ha; omega) (fun b hb => by rw [dotP_negl]; have := hB b hb; omega)
    rw [dotP_negl, dotP_neg, spr_negl] at this
    omega
theorem dot_self_pos {g : Pt} (hg : up g) : 0 < dotP g g := by
  unfold dotP
  have h1 : 0 ≤ g.1 * g.1 := by rcases Int.le_total 0 g.1 with h | h; exact Int.mul_nonneg h h; have := Int.mul_nonneg (by omega : 0 ≤ -g.1) (by omega : 0 ≤ -g.1); rwa [Int.neg_mul_neg] at this
  have h2 : 0 ≤ g.2 * g.2 := Int.mul_nonneg (up_y hg) (up_y hg)
  unfold up at hg
  rcases hg with h | h
  · have := Int.mul_pos h h; omega
  · have := Int.mul_pos h.2 h.2; omega
theorem inZ_one {g d : Pt} (hg : up g) (h1 : crs g d = 0) (h2 : absI (dotP g d) ≤ dotP g g) : inZ [g] d := fun n => by
  have e : dotP g g * dotP n d = dotP g d * dotP n g + crs g d * (g.1 * n.2 - g.2 * n.1) := by unfold dotP crs; grind
  rw [h1, Int.zero_mul, Int.add_zero] at e
  have hp := dot_self_pos hg
  show dotP n d ≤ absI (dotP n g) + 0
  rw [Int.add_zero]
  have hb := mul_bd (a := dotP g d) (b := dotP n g) (A := dotP g g) (B := absI (dotP n g)) (absI_le.1 h2) (absI_le.1 (Int.le_refl _))
  rw [← e] at hb
  exact Int.le_of_mul_le_mul_left hb.2 hp
theorem inZ_nil {d : Pt} : inZ [] d ↔ d = (0, 0) := by
  constructor
  · intro h
    have h1 := h (1, 0); have h2 := h (-1, 0); have h3 := h (0, 1); have h4 := h (0, -1)
    simp only [dotP, spr] at h1 h2 h3 h4
    exact Prod.ext (by omega) (by omega)
  · rintro rfl n
    rw [dotP_zero]; exact Int.le_refl 0
/-- By the directions that the program tries. -/
theorem beyond_iff {L : List Pt} (hs : L.Pairwise fun a b => 0 < crs a b) (hu : ∀ e ∈ L, up e) (d : Pt) : (nrmls L).any (beyond L d) = false ↔ inZ L d := by
  constructor
  · intro h
    have hall : ∀ m ∈ nrmls L, absI (dotP m d) ≤ spr m L := fun m hm => by
      have := List.any_eq_false.1 h m hm
      simp only [beyond, decide_eq_true_eq] at this
      omega
    have hside : ∀ g ∈ L, absI (crs g d) ≤ wid g L := fun g hg => by
      have := hall (0 - g.2, g.1) (by unfold nrmls; simp only [List.mem_append, List.mem_flatMap]; exact .inr ⟨g, hg, by simp⟩)
      rw [dotP_perp] at this
      exact this
    have hown : ∀ g ∈ L, absI (dotP g d) ≤ spr g L := fun g hg => hall g (by unfold nrmls; simp only [List.mem_append, List.mem_flatMap]; exact .inr ⟨g, hg, by simp⟩)
    match L, hs, hu, hall, hside, hown with
    | [], _, _, hall, _, _ =>
      have h1 := absI_le.1 (hall (1, 0) (by simp [nrmls]))
      have h2 := absI_le.1 (hall (0, 1) (by simp [nrmls]))
      simp only [dotP, spr] at h1 h2
      exact inZ_nil.2 (Prod.ext (by omega) (by omega))
    | [g], _, hu, _, hside, hown =>
      have h1 := absI_le.1 (hside g (by simp))
      have h2 := hown g (by simp)
      have e : wid g [g] = 0 := by unfold wid; rw [spr_cons, dotP_perp, crs_self]; rfl
      rw [e] at h1
      have e2 : spr g [g] = dotP g g := by rw [spr_cons, absI_of_nn (Int.le_of_lt (dot_self_pos (hu g (by simp))))]; simp [spr]
      rw [e2] at h2
      exact inZ_one (hu g (by simp)) (by omega) h2
    | g :: g' :: L, hs, _, _, hside, _ => exact inZ_sides hs (by simp) hside
  · intro h
    refine List.any_eq_false.2 fun m _ => ?_
    simp only [beyond, decide_eq_true_eq]
    have := h.abs m
    omega
end Go.Proofs.Ytjfnbcifafmefaa
