/- Plain facts: the search over all cells and the columns' gaps find the same least squared distance. Conditions: none. -/
import Derived.Test.YtpanbblbcnmadaaMsqs
import Derived.Test.YtpanbblbcnmadaaMnear
namespace Go.Proofs.Ytpanbblbcnmadaa
open Go.RowKit

/-- What the search has found among the cells of V. -/
def Good (W H : Int) (xs : List Int) (cx cy : Int) (V : Int → Int → Prop) (s : Int × Int × Int) : Prop :=
  (s.2.2 = -1 ∧ ∀ x y, V x y → freeB W H xs x y = true) ∨
  (0 ≤ s.2.2 ∧ V s.1 s.2.1 ∧ freeB W H xs s.1 s.2.1 = false ∧ farI cx cy s.1 s.2.1 = s.2.2 ∧ ∀ x y, V x y → freeB W H xs x y = false → s.2.2 ≤ farI cx cy x y)
section
variable {W H : Int} {xs : List Int} {cx cy : Int}
theorem Good.congr {V V' : Int → Int → Prop} {s : Int × Int × Int} (h : Good W H xs cx cy V s) (hv : ∀ x y, V' x y ↔ V x y) : Good W H xs cx cy V' s := by
  have : V' = V := by funext x y; exact propext (hv x y)
  rwa [this]
theorem Good.step {V : Int → Int → Prop} {s : Int × Int × Int} (h : Good W H xs cx cy V s) (x y : Int) : Good W H xs cx cy (fun a b => V a b ∨ a = x ∧ b = y) (stepN W H xs cx cy s x y) := by
  unfold stepN
  have hfn := farI_nonneg cx cy x y
  by_cases hf : freeB W H xs x y = true
  · rw [if_pos hf]
    rcases h with ⟨h1, h2⟩ | ⟨h1, h2, h3, h4, h5⟩
    · refine .inl ⟨h1, fun a b hab => ?_⟩
      rcases hab with hab | ⟨rfl, rfl⟩
      · exact h2 a b hab
      · exact hf
    · refine .inr ⟨h1, .inl h2, h3, h4, fun a b hab hfr => ?_⟩
      rcases hab with hab | ⟨rfl, rfl⟩
      · exact h5 a b hab hfr
      · rw [hf] at hfr; cases hfr
  · have hf' : freeB W H xs x y = false := by simpa using hf
    rw [if_neg hf]
    rcases h with ⟨h1, h2⟩ | ⟨h1, h2, h3, h4, h5⟩
    · rw [if_pos (.inl (by omega))]
      refine .inr ⟨hfn, .inr ⟨rfl, rfl⟩, hf', rfl, fun a b hab hfr => ?_⟩
      rcases hab with hab | ⟨rfl, rfl⟩
      · rw [h2 a b hab] at hfr; cases hfr
      · exact Int.le_refl _
    · by_cases hlt : farI cx cy x y < s.2.2
      · rw [if_pos (.inr hlt)]
        refine .inr ⟨hfn, .inr ⟨rfl, rfl⟩, hf', rfl, fun a b hab hfr => ?_⟩
        rcases hab with hab | ⟨rfl, rfl⟩
        · have := h5 a b hab hfr
          show farI cx cy x y ≤ _
          omega
        · exact Int.le_refl _
      · rw [if_neg (by omega)]
        refine .inr ⟨h1, .inl h2, h3, h4, fun a b hab hfr => ?_⟩
        rcases hab with hab | ⟨rfl, rfl⟩
        · exact h5 a b hab hfr
        · omega
theorem Good.row {V : Int → Int → Prop} {s : Int × Int × Int} (h : Good W H xs cx cy V s) (y : Int) (k : Nat) : Good W H xs cx cy (fun a b => V a b ∨ b = y ∧ -1 ≤ a ∧ a < (k : Int) - 1) (rowN W H xs cx cy s y k) := by
  induction k with
  | zero => exact h.congr fun a b => ⟨fun h => h.elim id (fun h => absurd h.2.2 (by omega)), .inl⟩
  | succ k ih =>
    rw [rowN_succ]
    refine (ih.step ((k : Int) - 1) y).congr fun a b => ?_
    constructor
    · rintro (h | ⟨rfl, h1, h2⟩)
      · exact .inl (.inl h)
      · by_cases e : a = (k : Int) - 1
        · exact .inr ⟨e, rfl⟩
        · exact .inl (.inr ⟨rfl, h1, by omega⟩)
    · rintro ((h | ⟨rfl, h1, h2⟩) | ⟨rfl, rfl⟩)
      · exact .inl h
      · exact .inr ⟨rfl, h1, by omega⟩
      · exact .inr ⟨rfl, by omega, by omega⟩
theorem Good.grid (hW : 1 ≤ W) (k : Nat) : Good W H xs cx cy (fun a b => -1 ≤ a ∧ a ≤ W ∧ -1 ≤ b ∧ b < (k : Int) - 1) (gridN W H xs cx cy k) := by
  induction k with
  | zero => exact .inl ⟨rfl, fun a b h => by omega⟩
  | succ k ih =>
    rw [gridN_succ]
    refine (ih.row ((k : Int) - 1) (W + 2).toNat).congr fun a b => ?_
    constructor
    · rintro ⟨h1, h2, h3, h4⟩
      by_cases e : b = (k : Int) - 1
      · exact .inr ⟨e, h1, by omega⟩
      · exact .inl ⟨h1, h2, h3, by omega⟩
    · rintro (⟨h1, h2, h3, h4⟩ | ⟨rfl, h1, h2⟩)
      · exact ⟨h1, h2, h3, by omega⟩
      · exact ⟨h1, by omega, by omega, by omega⟩
/-- The nearest cell that is not free, and its squared distance. -/
theorem near_spec (hW : 1 ≤ W) (hH : 1 ≤ H) {a b l : Int} (h : nearI W H xs cx cy = (a, b, l)) :
    0 ≤ l ∧ (-1 ≤ a ∧ a ≤ W ∧ -1 ≤ b ∧ b ≤ H) ∧ freeB W H xs a b = false ∧ farI cx cy a b = l ∧ ∀ x y, -1 ≤ x → x ≤ W → -1 ≤ y → y ≤ H → freeB W H xs x y = false → l ≤ farI cx cy x y := by
  have hg := Good.grid (W := W) (H := H) (xs := xs) (cx := cx) (cy := cy) hW (H + 2).toNat
  unfold nearI at h
  rw [h] at hg
  rcases hg with ⟨h1, h2⟩ | ⟨h1, h2, h3, h4, h5⟩
  · have hf := h2 (-1) (-1) ⟨by omega, by omega, by omega, by omega⟩
    have : freeB W H xs (-1) (-1) = false := by
      unfold freeB atI
      have hi : inB W H (-1) (-1) = false := inB_false.2 (by omega)
      rw [hi]; rfl
    rw [this] at hf; cases hf
  · refine ⟨h1, ⟨h2.1, h2.2.1, h2.2.2.1, by have := h2.2.2.2; simp at this; omega⟩, h3, h4, fun x y a1 a2 a3 a4 a5 => h5 x y ⟨a1, a2, a3, by omega⟩ a5⟩

/-! ### the columns -/
theorem free_out {x y : Int} (h : ¬ (0 ≤ x ∧ x < W ∧ 0 ≤ y ∧ y < H)) : freeB W H xs x y = false := by
  unfold freeB atI
  rw [inB_false.2 h]; rfl
theorem free_in {y x : Nat} (hx : (x : Int) < W) (hy : (y : Int) < H) : freeB W H xs x y = (cellv W xs y x == 1) := by
  unfold freeB atI
  rw [inB_iff.2 ⟨by omega, hx, by omega, hy⟩, if_pos rfl]
  rfl
theorem fwd_spec {x : Nat} (hx : (x : Int) < W) (k : Nat) (hk : (k : Int) ≤ H) :
    ∃ y', -1 ≤ y' ∧ y' < (k : Int) ∧ freeB W H xs x y' = false ∧ fwd W xs x k = (k : Int) - 1 - y' ∧ ∀ y, y' < y → y < (k : Int) → freeB W H xs x y = true := by
  induction k with
  | zero => exact ⟨-1, by omega, by omega, free_out (by omega), by simp [fwd], fun y h1 h2 => by omega⟩
  | succ k ih =>
    obtain ⟨y', h1, h2, h3, h4, h5⟩ := ih (by omega)
    by_cases hc : cellv W xs k x = 1
    · refine ⟨y', h1, by omega, h3, by unfold fwd; rw [if_pos hc, h4]; omega, fun y a b => ?_⟩
      by_cases e : y = k
      · subst e; rw [free_in hx (by omega)]; simp [hc]
      · exact h5 y a (by omega)
    · exact ⟨k, by omega, by omega, by rw [free_in hx (by omega)]; simp [hc], by unfold fwd; rw [if_neg hc]; omega, fun y a b => by omega⟩
theorem bwd_spec {x h : Nat} (hx : (x : Int) < W) (hH : H = h) (j : Nat) (hj : j ≤ h) :
    ∃ y', (h : Int) - j ≤ y' ∧ y' ≤ h ∧ freeB W H xs x y' = false ∧ bwd W h xs x j = y' - ((h : Int) - j) ∧ ∀ y, (h : Int) - j ≤ y → y < y' → freeB W H xs x y = true := by
  subst hH
  induction j with
  | zero => exact ⟨h, by omega, by omega, free_out (by omega), by simp [bwd], fun y h1 h2 => by omega⟩
  | succ j ih =>
    obtain ⟨y', h1, h2, h3, h4, h5⟩ := ih (by omega)
    have he : ((h - 1 - j : Nat) : Int) = (h : Int) - (j + 1) := by omega
    have hfr : freeB W h xs x ((h : Int) - ((j + 1 : Nat) : Int)) = (cellv W xs (h - 1 - j) x == 1) := by
      rw [← free_in (W := W) (H := h) hx (by omega), he]; congr 1
    by_cases hc : cellv W xs (h - 1 - j) x = 1
    · refine ⟨y', by omega, h2, h3, by unfold bwd; rw [if_pos hc, h4]; omega, fun y a b => ?_⟩
      by_cases e : y = (h : Int) - ((j + 1 : Nat) : Int)
      · subst e; rw [hfr]; simp [hc]
      · exact h5 y (by omega) b
    · exact ⟨(h : Int) - ((j + 1 : Nat) : Int), by omega, by omega, by rw [hfr]; simp [hc], by unfold bwd; rw [if_neg hc]; omega, fun y a b => by omega⟩
/-- The gap of a cell is the distance to the nearest cell of its column that is not free. -/
theorem colg_spec {x y h : Nat} (hx : (x : Int) < W) (hH : H = h) (hy : y < h) :
    (∃ y', -1 ≤ y' ∧ y' ≤ H ∧ freeB W H xs x y' = false ∧ colg W h xs y x * colg W h xs y x = ((y : Int) - y') * ((y : Int) - y')) ∧
    ∀ y', -1 ≤ y' → y' ≤ H → freeB W H xs x y' = false → colg W h xs y x * colg W h xs y x ≤ ((y : Int) - y') * ((y : Int) - y') := by
  obtain ⟨a, a1, a2, a3, a4, a5⟩ := fwd_spec (W := W) (H := H) (xs := xs) hx (y + 1) (by omega)
  obtain ⟨b, b1, b2, b3, b4, b5⟩ := bwd_spec (W := W) (H := H) (xs := xs) hx hH (h - y) (by omega)
  have hc : colg W h xs y x = min ((y : Int) - a) (b - y) := by
    unfold colg; rw [a4, b4]; congr 1 <;> omega
  have ha : 0 ≤ (y : Int) - a := by omega
  have hb : 0 ≤ b - (y : Int) := by omega
  constructor
  · by_cases hle : (y : Int) - a ≤ b - y
    · exact ⟨a, a1, by omega, a3, by rw [hc, Int.min_eq_left hle]⟩
    · refine ⟨b, by omega, by omega, b3, ?_⟩
      rw [hc, Int.min_eq_right (by omega), show (y : Int) - b = -(b - y) by omega, Int.neg_mul_neg]
  · intro y' h1 h2 h3
    have hd : colg W h xs y x ≤ (y : Int) - y' ∨ colg W h xs y x ≤ -((y : Int) - y') := by
      rw [hc]
      by_cases hle : y' ≤ y
      · left
        have : y' ≤ a := by
          apply Classical.byContradiction; intro hn
          rw [a5 y' (by omega) (by omega)] at h3; cases h3
        omega
      · right
        have : b ≤ y' := by
          apply Classical.byContradiction; intro hn
          rw [b5 y' (by omega) (by omega)] at h3; cases h3
        omega
    have h0 : 0 ≤ colg W h xs y x := by rw [hc]; omega
    rcases hd with hd | hd
    · exact Int.mul_le_mul hd hd h0 (by omega)
    · rw [← Int.neg_mul_neg ((y : Int) - y')]; exact Int.mul_le_mul hd hd h0 (by omega)
theorem bestTo_spec {g : Nat → Int} {x k : Nat} :
    (bestTo W g x k = bestTo W g x 0 ∨ ∃ u, u < k ∧ bestTo W g x k = ((x : Int) - u) * ((x : Int) - u) + g u * g u) ∧ bestTo W g x k ≤ bestTo W g x 0 ∧ ∀ u, u < k → bestTo W g x k ≤ ((x : Int) - u) * ((x : Int) - u) + g u * g u := by
  induction k with
  | zero => exact ⟨.inl rfl, Int.le_refl _, fun u hu => by omega⟩
  | succ k ih =>
    obtain ⟨h1, h2, h3⟩ := ih
    have e : bestTo W g x (k + 1) = if ((x : Int) - k) * ((x : Int) - k) + g k * g k < bestTo W g x k then ((x : Int) - k) * ((x : Int) - k) + g k * g k else bestTo W g x k := rfl
    by_cases hlt : ((x : Int) - k) * ((x : Int) - k) + g k * g k < bestTo W g x k
    · rw [if_pos hlt] at e
      refine ⟨.inr ⟨k, by omega, e⟩, by omega, fun u hu => ?_⟩
      by_cases eu : u = k
      · subst eu; omega
      · have := h3 u (by omega); omega
    · rw [if_neg hlt] at e
      refine ⟨?_, by omega, fun u hu => ?_⟩
      · rcases h1 with h1 | ⟨u, hu, h1⟩
        · exact .inl (by omega)
        · exact .inr ⟨u, by omega, by omega⟩
      · by_cases eu : u = k
        · subst eu; omega
        · have := h3 u (by omega); omega
/-- The number of a cell, by the gaps, is the least squared distance. -/
theorem sqv_near {x y h : Nat} {a b l : Int} (hW : 1 ≤ W) (hx : (x : Int) < W) (hH : H = h) (hy : y < h) (hn : nearI W H xs x y = (a, b, l)) : sqv W h xs y x = l := by
  obtain ⟨n1, n2, n3, n4, n5⟩ := near_spec hW (by omega) hn
  obtain ⟨b1, b2, b3⟩ := bestTo_spec (W := W) (g := fun u => colg W h xs y u) (x := x) (k := W.toNat)
  have e0 : bestTo W (fun u => colg W h xs y u) x 0 = if W - (x : Int) < (x : Int) + 1 then (W - x) * (W - x) else ((x : Int) + 1) * ((x : Int) + 1) := rfl
  have s1 := sq_nonneg (W - (x : Int))
  have h0a : bestTo W (fun u => colg W h xs y u) x 0 ≤ (W - x) * (W - x) := by
    rw [e0]; split
    · exact Int.le_refl _
    · exact Int.mul_le_mul (by omega) (by omega) (by omega) (by omega)
  have h0b : bestTo W (fun u => colg W h xs y u) x 0 ≤ ((x : Int) + 1) * ((x : Int) + 1) := by
    rw [e0]; split
    · exact Int.mul_le_mul (by omega) (by omega) (by omega) (by omega)
    · exact Int.le_refl _
  have hle : l ≤ sqv W h xs y x := by
    unfold sqv
    rcases b1 with e | ⟨u, hu, e⟩
    · rw [e, e0]
      split
      · have := n5 W y (by omega) (by omega) (by omega) (by omega) (free_out (by omega))
        unfold farI at this
        rw [show (x : Int) - W = -(W - x) by omega, Int.neg_mul_neg, Int.sub_self, Int.mul_zero, Int.add_zero] at this
        exact this
      · have := n5 (-1) y (by omega) (by omega) (by omega) (by omega) (free_out (by omega))
        unfold farI at this
        rw [show (x : Int) - -1 = x + 1 by omega, Int.sub_self, Int.mul_zero, Int.add_zero] at this
        exact this
    · rw [e]
      obtain ⟨⟨y', c1, c2, c3, c4⟩, _⟩ := colg_spec (W := W) (H := H) (xs := xs) (x := u) (y := y) (by omega) hH hy
      have := n5 u y' (by omega) (by omega) c1 c2 c3
      unfold farI at this
      show l ≤ ((x : Int) - u) * ((x : Int) - u) + colg W h xs y u * colg W h xs y u
      rw [c4]; exact this
  have hge : sqv W h xs y x ≤ l := by
    rw [← n4]
    unfold sqv farI
    obtain ⟨m1, m2, m3, m4⟩ := n2
    have s2 := sq_nonneg ((y : Int) - b)
    by_cases ha : a = -1
    · subst ha
      rw [show (x : Int) - -1 = x + 1 by omega]
      omega
    · by_cases ha2 : a = W
      · subst ha2
        rw [show (x : Int) - a = -(a - x) by omega, Int.neg_mul_neg]
        omega
      · obtain ⟨u, rfl⟩ : ∃ u : Nat, a = u := ⟨a.toNat, by omega⟩
        obtain ⟨_, c⟩ := colg_spec (W := W) (H := H) (xs := xs) (x := u) (y := y) (by omega) hH hy
        have h1 := c b m3 m4 n3
        have h2 : bestTo W (fun u => colg W h xs y u) x W.toNat ≤ ((x : Int) - u) * ((x : Int) - u) + colg W h xs y u * colg W h xs y u := b3 u (by omega)
        omega
  omega
end
end Go.Proofs.Ytpanbblbcnmadaa
