/- Plain facts on the corners: both lists are one; what is among them is what is in the zonogon. Conditions: as each theorem states. -/
import Derived.Test.YtjfnbcifafmefaaMcor
import Derived.Test.YtjfnbcifafmefaaMspr
namespace Go.Proofs.Ytjfnbcifafmefaa
set_option linter.unusedSimpArgs false
set_option linter.unusedVariables false
open Go.RowKit
theorem take_snoc' {l : List Pt} {i : Nat} (h : i < l.length) : l.take (i + 1) = l.take i ++ [gp l i] := by rw [List.take_succ_eq_append_getElem h, gp_eq h]
theorem vsum_take {l : List Pt} {i : Nat} (h : i < l.length) : vsum (l.take (i + 1)) = ((vsum (l.take i)).1 + g1 l i, (vsum (l.take i)).2 + g2 l i) := by
  rw [take_snoc' h, vsum_app]; simp [vsum, padd, gp]
theorem cor0_eq (x y : Int) (l : List Pt) : ∀ i, i ≤ l.length → cor0 x y l i = (x - (vsum (l.take i)).1, y - (vsum (l.take i)).2)
  | 0, _ => by simp [cor0, vsum]
  | i + 1, h => by
    rw [cor0, cor0_eq x y l i (by omega), vsum_take (by omega)]
    exact Prod.ext (by simp only; omega) (by simp only; omega)
theorem stp_lo {l : List Pt} {i : Nat} (h : i < l.length) : stp l i = (g1 l i, g2 l i) := by unfold stp; rw [if_neg (by omega), Nat.mod_eq_of_lt h]
theorem stp_hi {l : List Pt} {k : Nat} (h : k < l.length) : stp l (l.length + k) = (-g1 l k, -g2 l k) := by unfold stp; rw [if_pos (by omega), Nat.add_mod_left, Nat.mod_eq_of_lt h]
theorem rcp_lo (l : List Pt) (p : Pt) : ∀ i, i ≤ l.length → rcp l p i = (p.1 + 2 * (vsum (l.take i)).1, p.2 + 2 * (vsum (l.take i)).2)
  | 0, _ => by simp [rcp, vsum]
  | i + 1, h => by
    rw [rcp, rcp_lo l p i (by omega), vsum_take (by omega), stp_lo (by omega)]
    exact Prod.ext (by simp only; omega) (by simp only; omega)
theorem rcp_hi (l : List Pt) (p : Pt) : ∀ k, k ≤ l.length → rcp l p (l.length + k) = (p.1 + 2 * (vsum l).1 - 2 * (vsum (l.take k)).1, p.2 + 2 * (vsum l).2 - 2 * (vsum (l.take k)).2)
  | 0, _ => by rw [Nat.add_zero, rcp_lo l p _ (Nat.le_refl _), List.take_length]; simp [vsum]
  | k + 1, h => by
    rw [← Nat.add_assoc, rcp, rcp_hi l p k (by omega), vsum_take (by omega), stp_hi (by omega)]
    exact Prod.ext (by simp only; omega) (by simp only; omega)
theorem rcp_round (l : List Pt) (p : Pt) : rcp l p (2 * l.length) = p := by
  rw [show 2 * l.length = l.length + l.length by omega, rcp_hi l p _ (Nat.le_refl _), List.take_length]
  exact Prod.ext (by simp only; omega) (by simp only; omega)
theorem sgp_one (l : List Pt) (p : Pt) : ∀ i, i ≤ l.length → sgp 1 l p i = rcp l p i
  | 0, _ => rfl
  | i + 1, h => by
    rw [sgp, rcp, sgp_one l p i (by omega), stp_lo (by omega)]
    exact Prod.ext (by simp only; omega) (by simp only; omega)
theorem sgp_neg (l : List Pt) (p : Pt) : ∀ k, k ≤ l.length → sgp (-1) l (rcp l p l.length) k = rcp l p (l.length + k)
  | 0, _ => rfl
  | k + 1, h => by
    rw [sgp, ← Nat.add_assoc, rcp, sgp_neg l p k (by omega), stp_hi (by omega)]
    exact Prod.ext (by simp only; omega) (by simp only; omega)
theorem sgo_eq (s : Int) (l : List Pt) (p : Pt) (o : List Pt) : ∀ j, sgo s l p o j = o ++ (List.range j).map fun i => sgp s l p (i + 1)
  | 0 => by simp [sgo]
  | j + 1 => by rw [sgo, sgo_eq s l p o j, List.range_succ, List.map_append, List.append_assoc]; rfl
theorem rco_eq (l : List Pt) (p : Pt) : ∀ j, rco l p j = p :: (List.range j).map fun i => rcp l p (i + 1)
  | 0 => by simp [rco]
  | j + 1 => by rw [rco, rco_eq l p j, List.range_succ, List.map_append]; rfl
theorem range_add (n m : Nat) : List.range (n + m) = List.range n ++ (List.range m).map (n + ·) := List.range_add
/-- The program's corners are the reference's. -/
theorem corP_eq (x y : Int) (l : List Pt) : corP x y l = corR x y l := by
  have h1 : pasP l (cor0 x y l l.length) 1 = rcp l (cor0 x y l l.length) l.length := sgp_one l _ _ (Nat.le_refl _)
  have hO : pasO l (cor0 x y l l.length) 2 = rco l (cor0 x y l l.length) (2 * l.length) := by
    show sgo (sgn 1) l (pasP l _ 1) (sgo (sgn 0) l (pasP l _ 0) [cor0 x y l l.length] l.length) l.length = _
    rw [h1, sgo_eq, sgo_eq, rco_eq, show 2 * l.length = l.length + l.length by omega, range_add, List.map_append, List.map_map]
    simp only [List.cons_append, List.nil_append, List.cons.injEq, true_and]
    congr 1
    · refine List.map_congr_left fun i hi => ?_
      exact sgp_one l _ _ (by have := List.mem_range.1 hi; omega)
    · refine List.map_congr_left fun i hi => ?_
      have := sgp_neg l (cor0 x y l l.length) (i + 1) (by have := List.mem_range.1 hi; omega)
      exact this
  unfold corP corR
  simp only
  rw [hO, rco_len]
  split
  · rename_i h
    have h0 : l.length = 0 := by omega
    rw [h0]
  · rename_i h
    obtain ⟨m, hm⟩ : ∃ m, 2 * l.length = m + 1 := ⟨2 * l.length - 1, by omega⟩
    rw [hm, Nat.add_sub_cancel, Nat.add_sub_cancel, rco]
    rw [List.take_append_of_le_length (by rw [rco_len]; exact Nat.le_refl _), List.take_of_length_le (by rw [rco_len]; exact Nat.le_refl _)]
theorem rco_gp (l : List Pt) (p : Pt) : ∀ m i, i ≤ m → gp (rco l p m) i = rcp l p i
  | m, 0, _ => by
    rw [gp_eq (by rw [rco_len]; omega)]
    simp only [rco_eq]; rfl
  | m, i + 1, h => by
    rw [gp_eq (by rw [rco_len]; omega)]
    simp only [rco_eq]
    simp
theorem corR_len (x y : Int) (l : List Pt) : (corR x y l).length = 2 * l.length - 1 + 1 := rco_len _ _ _
theorem corR_gp (x y : Int) (l : List Pt) {i : Nat} (h : i ≤ 2 * l.length - 1) : gp (corR x y l) i = rcp l (cor0 x y l l.length) i := rco_gp _ _ _ _ h
/-- A corner is a sum of some and the opposite of the others. -/
theorem cor_lo (x y : Int) (l : List Pt) {i : Nat} (h : i ≤ l.length) : rcp l (cor0 x y l l.length) i = padd (x, y) (psub (vsum (l.take i)) (vsum (l.drop i))) := by
  rw [rcp_lo _ _ _ h, cor0_eq _ _ _ _ (Nat.le_refl _), List.take_length]
  have e : vsum l = padd (vsum (l.take i)) (vsum (l.drop i)) := by rw [← vsum_app, List.take_append_drop]
  rw [e]; unfold padd psub
  exact Prod.ext (by simp only; omega) (by simp only; omega)
theorem cor_hi (x y : Int) (l : List Pt) {k : Nat} (h : k ≤ l.length) : rcp l (cor0 x y l l.length) (l.length + k) = padd (x, y) (psub (vsum (l.drop k)) (vsum (l.take k))) := by
  rw [rcp_hi _ _ _ h, cor0_eq _ _ _ _ (Nat.le_refl _), List.take_length]
  have e : vsum l = padd (vsum (l.take k)) (vsum (l.drop k)) := by rw [← vsum_app, List.take_append_drop]
  rw [e]; unfold padd psub
  exact Prod.ext (by simp only; omega) (by simp only; omega)
theorem inR_iff {C : List Pt} {p : Pt} : ∀ n, inR C p n = true ↔ ∀ i, i < n → inT C p i = true
  | 0 => by simp [inR]
  | n + 1 => by
    rw [inR, Bool.and_eq_true, inR_iff n]
    constructor
    · rintro ⟨h1, h2⟩ i hi
      by_cases e : i = n
      · subst e; exact h2
      · exact h1 i (by omega)
    · exact fun h => ⟨fun i hi => h i (by omega), h n (by omega)⟩
theorem swap_in {A B : List Pt} {d : Pt} (h : inZ (A ++ B) d) : inZ (B ++ A) d := fun n => by have := h n; rw [spr_app] at *; omega
/-- Each corner is in. -/
theorem cor_in (x y : Int) (l : List Pt) {i : Nat} (h : i < 2 * l.length - 1 + 1) : inZ l (psub (gp (corR x y l) i) (x, y)) := by
  rw [corR_gp x y l (by omega)]
  rcases Nat.lt_or_ge i (l.length + 1) with hk | hk
  · rw [cor_lo x y l (by omega)]
    have := inZ_split (l.take i) (l.drop i)
    rw [List.take_append_drop] at this
    have e : psub (padd (x, y) (psub (vsum (l.take i)) (vsum (l.drop i)))) (x, y) = psub (vsum (l.take i)) (vsum (l.drop i)) := by unfold psub padd; exact Prod.ext (by simp only; omega) (by simp only; omega)
    rw [e]; exact this
  · obtain ⟨k, rfl⟩ : ∃ k, i = l.length + k := ⟨i - l.length, by omega⟩
    rw [cor_hi x y l (by omega)]
    have := swap_in (inZ_split (l.drop k) (l.take k))
    rw [List.take_append_drop] at this
    have e : psub (padd (x, y) (psub (vsum (l.drop k)) (vsum (l.take k)))) (x, y) = psub (vsum (l.drop k)) (vsum (l.take k)) := by unfold psub padd; exact Prod.ext (by simp only; omega) (by simp only; omega)
    rw [e]; exact this
theorem mem_split {L : List Pt} {g : Pt} (h : g ∈ L) : ∃ k, k < L.length ∧ gp L k = g ∧ L = L.take k ++ g :: L.drop (k + 1) := by
  obtain ⟨k, hk, rfl⟩ := List.getElem_of_mem h
  exact ⟨k, hk, gp_eq hk, by rw [List.getElem_cons_drop, List.take_append_drop]⟩
theorem rcp_next (l : List Pt) (p : Pt) {i : Nat} (h : i < 2 * l.length) : rcp l p ((i + 1) % (2 * l.length - 1 + 1)) = rcp l p (i + 1) := by
  rcases Nat.lt_or_ge (i + 1) (2 * l.length) with k | k
  · rw [Nat.mod_eq_of_lt (by omega)]
  · have e : i + 1 = 2 * l.length := by omega
    rw [e, show 2 * l.length - 1 + 1 = 2 * l.length by omega, Nat.mod_self, rcp_round]
    rfl
/-- With at least two generators: the test of a side. -/
theorem inT_side {x y : Int} {l : List Pt} (h2 : 2 ≤ l.length) (p : Pt) {i : Nat} (h : i < 2 * l.length) :
    inT (corR x y l) p i = true ↔ 0 ≤ crs (stp l i) (psub p (rcp l (cor0 x y l l.length) i)) := by
  have e1 : (g1 (corR x y l) i, g2 (corR x y l) i) = rcp l (cor0 x y l l.length) i := corR_gp x y l (by omega)
  have hm : (i + 1) % (corR x y l).length ≤ 2 * l.length - 1 := by
    have := Nat.mod_lt (i + 1) (show 0 < (corR x y l).length by rw [corR_len]; omega)
    rw [corR_len] at this ⊢; omega
  have e2 : (g1 (corR x y l) ((i + 1) % (corR x y l).length), g2 (corR x y l) ((i + 1) % (corR x y l).length)) = rcp l (cor0 x y l l.length) (i + 1) := by
    have := corR_gp x y l hm
    rw [corR_len, rcp_next l _ h] at this
    rw [corR_len]; exact this
  have a1 : g1 (corR x y l) i = (rcp l (cor0 x y l l.length) i).1 := congrArg Prod.fst e1
  have a2 : g2 (corR x y l) i = (rcp l (cor0 x y l l.length) i).2 := congrArg Prod.snd e1
  have b1 : g1 (corR x y l) ((i + 1) % (corR x y l).length) = (rcp l (cor0 x y l l.length) (i + 1)).1 := congrArg Prod.fst e2
  have b2 : g2 (corR x y l) ((i + 1) % (corR x y l).length) = (rcp l (cor0 x y l l.length) (i + 1)).2 := congrArg Prod.snd e2
  have hlen : decide ((((corR x y l).length : Nat) : Int) ≤ 2) = false := decide_eq_false (by rw [corR_len]; omega)
  unfold inT
  rw [a1, a2, b1, b2, hlen, rcp]
  have e : crs ((rcp l (cor0 x y l l.length) i).1 + 2 * (stp l i).1 - (rcp l (cor0 x y l l.length) i).1, (rcp l (cor0 x y l l.length) i).2 + 2 * (stp l i).2 - (rcp l (cor0 x y l l.length) i).2) (p.1 - (rcp l (cor0 x y l l.length) i).1, p.2 - (rcp l (cor0 x y l l.length) i).2) = 2 * crs (stp l i) (psub p (rcp l (cor0 x y l l.length) i)) := by
    generalize rcp l (cor0 x y l l.length) i = v
    generalize stp l i = s
    unfold crs psub; grind
  simp only [e, Bool.false_and, Bool.not_false, Bool.and_true, Bool.not_eq_true', decide_eq_false_iff_not]
  omega
theorem side_lo {x y : Int} {L : List Pt} (hs : L.Pairwise fun a b => 0 < crs a b) (p : Pt) {k : Nat} (h : k < L.length) :
    crs (stp L k) (psub p (rcp L (cor0 x y L L.length) k)) = crs (gp L k) (psub p (x, y)) + wid (gp L k) L := by
  have hL : L = L.take k ++ gp L k :: L.drop (k + 1) := by rw [gp_eq h, List.getElem_cons_drop, List.take_append_drop]
  have hd : L.drop k = gp L k :: L.drop (k + 1) := by rw [gp_eq h, List.getElem_cons_drop]
  have w : wid (gp L k) L = crs (gp L k) (vsum (L.drop (k + 1))) - crs (gp L k) (vsum (L.take k)) := by
    have := wid_at (P := L.take k) (Q := L.drop (k + 1)) (g := gp L k) (by rw [← hL]; exact hs)
    rwa [← hL] at this
  rw [stp_lo h, cor_lo x y L (by omega), hd, w]
  show crs (gp L k) _ = _
  simp only [vsum]
  generalize gp L k = g
  generalize vsum (L.take k) = A
  generalize vsum (L.drop (k + 1)) = B
  unfold crs psub padd; grind
theorem side_hi {x y : Int} {L : List Pt} (hs : L.Pairwise fun a b => 0 < crs a b) (p : Pt) {k : Nat} (h : k < L.length) :
    crs (stp L (L.length + k)) (psub p (rcp L (cor0 x y L L.length) (L.length + k))) = wid (gp L k) L - crs (gp L k) (psub p (x, y)) := by
  have hL : L = L.take k ++ gp L k :: L.drop (k + 1) := by rw [gp_eq h, List.getElem_cons_drop, List.take_append_drop]
  have hd : L.drop k = gp L k :: L.drop (k + 1) := by rw [gp_eq h, List.getElem_cons_drop]
  have w : wid (gp L k) L = crs (gp L k) (vsum (L.drop (k + 1))) - crs (gp L k) (vsum (L.take k)) := by
    have := wid_at (P := L.take k) (Q := L.drop (k + 1)) (g := gp L k) (by rw [← hL]; exact hs)
    rwa [← hL] at this
  rw [stp_hi h, cor_hi x y L (by omega), hd, w]
  have e : (-g1 L k, -g2 L k) = (-(gp L k).1, -(gp L k).2) := rfl
  rw [e]
  simp only [vsum]
  generalize gp L k = g
  generalize vsum (L.take k) = A
  generalize vsum (L.drop (k + 1)) = B
  unfold crs psub padd; grind
/-- Being in by the sides between the corners is being beyond in no direction. -/
theorem in_iff {x y : Int} {L : List Pt} (hs : L.Pairwise fun a b => 0 < crs a b) (hu : ∀ e ∈ L, up e) (p : Pt) : inR (corR x y L) p (corR x y L).length = true ↔ inZ L (psub p (x, y)) := by
  rw [inR_iff]
  match L, hs, hu with
  | [], _, _ =>
    rw [inZ_nil]
    have hC : corR x y [] = [(x, y)] := rfl
    rw [hC]
    simp only [List.length_cons, List.length_nil, Nat.zero_add]
    have e : inT [(x, y)] p 0 = (decide (p = (x, y))) := by
      unfold inT g1 g2 crs
      simp
      rw [Bool.eq_iff_iff]; simp [Prod.ext_iff]
    constructor
    · intro h
      have := h 0 (by omega)
      rw [e, decide_eq_true_eq] at this
      rw [this]; unfold psub; simp
    · intro h i hi
      obtain rfl : i = 0 := by omega
      rw [e, decide_eq_true_eq]
      unfold psub at h
      simp only [Prod.mk.injEq] at h
      exact Prod.ext (by simp only; omega) (by simp only; omega)
  | [g], _, hu =>
    have hC : corR x y [g] = [(x - g.1, y - g.2), (x - g.1 + 2 * g.1, y - g.2 + 2 * g.2)] := rfl
    have hd : ∀ q : Prop, q ↔ q := fun _ => Iff.rfl
    have t0 : inT [(x - g.1, y - g.2), (x - g.1 + 2 * g.1, y - g.2 + 2 * g.2)] p 0 = true ↔ (crs g (psub p (x, y)) = 0 ∧ 0 ≤ dotP g (psub p (x, y)) + dotP g g) := by
      have e1 : crs (x - g.1 + 2 * g.1 - (x - g.1), y - g.2 + 2 * g.2 - (y - g.2)) (p.1 - (x - g.1), p.2 - (y - g.2)) = 2 * crs g (psub p (x, y)) := by unfold crs psub; grind
      have e2 : (x - g.1 + 2 * g.1 - (x - g.1)) * (p.1 - (x - g.1)) + (y - g.2 + 2 * g.2 - (y - g.2)) * (p.2 - (y - g.2)) = 2 * (dotP g (psub p (x, y)) + dotP g g) := by unfold dotP psub; grind
      unfold inT
      show (!decide (crs (x - g.1 + 2 * g.1 - (x - g.1), y - g.2 + 2 * g.2 - (y - g.2)) (p.1 - (x - g.1), p.2 - (y - g.2)) < 0) && !(decide ((((2 : Nat) : Int)) ≤ 2) && (crs (x - g.1 + 2 * g.1 - (x - g.1), y - g.2 + 2 * g.2 - (y - g.2)) (p.1 - (x - g.1), p.2 - (y - g.2)) != 0 || (decide ((x - g.1 + 2 * g.1 - (x - g.1)) * (p.1 - (x - g.1)) + (y - g.2 + 2 * g.2 - (y - g.2)) * (p.2 - (y - g.2)) < 0) || ((((2 : Nat) : Int)) == 1 && !(p.1 == x - g.1 && p.2 == y - g.2)))))) = true ↔ _
      rw [e1, e2]
      generalize crs g (psub p (x, y)) = a
      generalize dotP g (psub p (x, y)) + dotP g g = b
      simp
      omega
    have t1 : inT [(x - g.1, y - g.2), (x - g.1 + 2 * g.1, y - g.2 + 2 * g.2)] p 1 = true ↔ (crs g (psub p (x, y)) = 0 ∧ 0 ≤ dotP g g - dotP g (psub p (x, y))) := by
      have e1 : crs (x - g.1 - (x - g.1 + 2 * g.1), y - g.2 - (y - g.2 + 2 * g.2)) (p.1 - (x - g.1 + 2 * g.1), p.2 - (y - g.2 + 2 * g.2)) = -(2 * crs g (psub p (x, y))) := by unfold crs psub; grind
      have e2 : (x - g.1 - (x - g.1 + 2 * g.1)) * (p.1 - (x - g.1 + 2 * g.1)) + (y - g.2 - (y - g.2 + 2 * g.2)) * (p.2 - (y - g.2 + 2 * g.2)) = 2 * (dotP g g - dotP g (psub p (x, y))) := by unfold dotP psub; grind
      have m1 : (1 + 1) % [(x - g.1, y - g.2), (x - g.1 + 2 * g.1, y - g.2 + 2 * g.2)].length = 0 := by simp
      unfold inT
      rw [m1]
      show (!decide (crs (x - g.1 - (x - g.1 + 2 * g.1), y - g.2 - (y - g.2 + 2 * g.2)) (p.1 - (x - g.1 + 2 * g.1), p.2 - (y - g.2 + 2 * g.2)) < 0) && !(decide ((((2 : Nat) : Int)) ≤ 2) && (crs (x - g.1 - (x - g.1 + 2 * g.1), y - g.2 - (y - g.2 + 2 * g.2)) (p.1 - (x - g.1 + 2 * g.1), p.2 - (y - g.2 + 2 * g.2)) != 0 || (decide ((x - g.1 - (x - g.1 + 2 * g.1)) * (p.1 - (x - g.1 + 2 * g.1)) + (y - g.2 - (y - g.2 + 2 * g.2)) * (p.2 - (y - g.2 + 2 * g.2)) < 0) || ((((2 : Nat) : Int)) == 1 && !(p.1 == x - g.1 + 2 * g.1 && p.2 == y - g.2 + 2 * g.2)))))) = true ↔ _
      rw [e1, e2]
      generalize crs g (psub p (x, y)) = a
      generalize dotP g g - dotP g (psub p (x, y)) = b
      simp
      omega
    rw [hC]
    constructor
    · intro h
      have h0 := t0.1 (h 0 (by simp))
      have h1 := t1.1 (h 1 (by simp))
      exact inZ_one (hu g (by simp)) h0.1 (absI_le.2 ⟨by omega, by omega⟩)
    · intro h
      have hp := h.abs (0 - g.2, g.1)
      rw [dotP_perp, spr_cons, dotP_perp, crs_self] at hp
      have hp' := absI_le.1 hp
      have hq := h.abs g
      rw [spr_cons, absI_of_nn (Int.le_of_lt (dot_self_pos (hu g (by simp))))] at hq
      have hq' := absI_le.1 hq
      simp only [spr, absI_zero] at hp' hq'
      intro i hi
      simp only [List.length_cons, List.length_nil] at hi
      rcases (by omega : i = 0 ∨ i = 1) with rfl | rfl
      · exact t0.2 ⟨by omega, by omega⟩
      · exact t1.2 ⟨by omega, by omega⟩
  | g :: g' :: R, hs, _ =>
    generalize hL : g :: g' :: R = L at hs
    have h2 : 2 ≤ L.length := by rw [← hL]; simp
    rw [corR_len]
    constructor
    · intro h
      refine inZ_sides hs h2 fun e he => ?_
      obtain ⟨k, hk, rfl, -⟩ := mem_split he
      have h1 := (inT_side h2 p (by omega)).1 (h k (by omega))
      have h3 := (inT_side h2 p (by omega)).1 (h (L.length + k) (by omega))
      rw [side_lo hs p hk] at h1
      rw [side_hi hs p hk] at h3
      exact absI_le.2 ⟨by omega, by omega⟩
    · intro h i hi
      refine (inT_side h2 p (by omega)).2 ?_
      rcases Nat.lt_or_ge i L.length with hk | hk
      · rw [side_lo hs p hk]
        have := absI_le.1 (h.abs (0 - (gp L i).2, (gp L i).1))
        rw [dotP_perp] at this
        unfold wid; omega
      · obtain ⟨k, rfl⟩ : ∃ k, i = L.length + k := ⟨i - L.length, by omega⟩
        rw [side_hi hs p (by omega)]
        have := absI_le.1 (h.abs (0 - (gp L k).2, (gp L k).1))
        rw [dotP_perp] at this
        unfold wid; omega
theorem supR_le (n : Pt) (C : List Pt) {M : Int} : ∀ k, (n.1 * g1 C 0 + n.2 * g2 C 0 ≤ M) → (∀ i, i < k → n.1 * g1 C i + n.2 * g2 C i ≤ M) → supR n C k ≤ M
  | 0, h, _ => h
  | k + 1, h, hk => by
    have := supR_le n C k h fun i hi => hk i (by omega)
    rw [supR]; split
    · exact hk k (by omega)
    · exact this
theorem le_supR (n : Pt) (C : List Pt) {i : Nat} : ∀ k, i < k → n.1 * g1 C i + n.2 * g2 C i ≤ supR n C k
  | 0, h => by omega
  | k + 1, h => by
    rw [supR]
    by_cases e : i = k
    · subst e; split <;> omega
    · have := le_supR n C (i := i) k (by omega)
      split <;> omega
/-- The greatest value among the corners. -/
theorem sup_eq {x y : Int} {L : List Pt} (hs : L.Pairwise fun a b => 0 < crs a b) (n : Pt) : supR n (corR x y L) (corR x y L).length = n.1 * x + n.2 * y + spr n L := by
  have hle : ∀ i, i < 2 * L.length - 1 + 1 → n.1 * g1 (corR x y L) i + n.2 * g2 (corR x y L) i ≤ n.1 * x + n.2 * y + spr n L := fun i hi => by
    have := cor_in x y L hi n
    rw [dotP_sub] at this
    have e : dotP n (gp (corR x y L) i) = n.1 * g1 (corR x y L) i + n.2 * g2 (corR x y L) i := rfl
    have e2 : dotP n (x, y) = n.1 * x + n.2 * y := rfl
    omega
  have hup := supR_le n (corR x y L) (M := n.1 * x + n.2 * y + spr n L) (corR x y L).length (hle 0 (by omega)) fun i hi => hle i (by rw [corR_len] at hi; exact hi)
  suffices hex : ∃ i, i < 2 * L.length - 1 + 1 ∧ n.1 * g1 (corR x y L) i + n.2 * g2 (corR x y L) i = n.1 * x + n.2 * y + spr n L by
    obtain ⟨i, hi, he⟩ := hex
    have := le_supR n (corR x y L) (i := i) (corR x y L).length (by rw [corR_len]; exact hi)
    omega
  have val : ∀ i, i ≤ 2 * L.length - 1 → n.1 * g1 (corR x y L) i + n.2 * g2 (corR x y L) i = dotP n (rcp L (cor0 x y L L.length) i) := fun i hi => by
    have := corR_gp x y L hi
    rw [← this]; rfl
  have zero : dotP n (rcp L (cor0 x y L L.length) (2 * L.length)) = dotP n (rcp L (cor0 x y L L.length) 0) := by rw [rcp_round]; rfl
  obtain ⟨A, B, hAB, h⟩ := sign_split n L hs
  have hA : L.take A.length = A := by rw [hAB, List.take_append_of_le_length (Nat.le_refl _), List.take_length]
  have hB : L.drop A.length = B := by rw [hAB, List.drop_append_of_le_length (Nat.le_refl _), List.drop_length, List.nil_append]
  have hlen : A.length ≤ L.length := by rw [hAB]; simp
  have hsp : spr n L = spr n A + spr n B := by rw [hAB, spr_app]
  have fin : ∀ i, i ≤ 2 * L.length → dotP n (rcp L (cor0 x y L L.length) i) = n.1 * x + n.2 * y + spr n L → ∃ i, i < 2 * L.length - 1 + 1 ∧ n.1 * g1 (corR x y L) i + n.2 * g2 (corR x y L) i = n.1 * x + n.2 * y + spr n L := fun i hi he => by
    rcases Nat.lt_or_ge i (2 * L.length - 1 + 1) with k | k
    · exact ⟨i, k, by rw [val i (by omega), he]⟩
    · have e2 : i = 2 * L.length := by omega
      refine ⟨0, by omega, ?_⟩
      rw [val 0 (by omega), ← zero, ← e2, he]
  rcases h with ⟨h1, h2⟩ | ⟨h1, h2⟩
  · refine fin A.length (by omega) ?_
    rw [cor_lo x y L hlen, hA, hB, dotP_add, dotP_sub, dot_eq_spr n A h1, dot_eq_nspr n B h2, hsp]
    have e2 : dotP n (x, y) = n.1 * x + n.2 * y := rfl
    omega
  · refine fin (L.length + A.length) (by omega) ?_
    rw [cor_hi x y L hlen, hA, hB, dotP_add, dotP_sub, dot_eq_spr n B h2, dot_eq_nspr n A h1, hsp]
    have e2 : dotP n (x, y) = n.1 * x + n.2 * y := rfl
    omega
end Go.Proofs.Ytjfnbcifafmefaa
