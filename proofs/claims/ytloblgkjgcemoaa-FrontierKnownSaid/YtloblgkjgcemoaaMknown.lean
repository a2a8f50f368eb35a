/- Plain facts on frontier cells when cells change. Conditions: as each theorem states. -/
import Derived.Test.YtloblgkjgcemoaaMfro
namespace Go.Proofs.Ytloblgkjgcemoaa
open Go.RowKit
theorem gi_set' {xs : List Int} {i j : Nat} {v : Int} (h : i < xs.length) : gi (xs.set i v) j = if i = j then v else gi xs j := by
  unfold gi
  rw [List.getD_eq_getElem?_getD, List.getD_eq_getElem?_getD, List.getElem?_set]
  by_cases e : i = j
  · subst e; simp [h]
  · simp [e]
theorem isB_set {W H : Int} {xs : List Int} {i : Nat} {x y v : Int} (hi : i < xs.length) (hv : v ≠ 2) (h : isB W H (xs.set i 2) x y v = true) : isB W H xs x y v = true := by
  unfold isB at h ⊢
  simp only [Bool.and_eq_true, beq_iff_eq] at h ⊢
  refine ⟨h.1, ?_⟩
  have h2 := h.2
  rw [gi_set' hi] at h2
  split at h2
  · exact absurd h2.symm hv
  · exact h2
theorem fro_set {W H : Int} {xs : List Int} {i : Nat} {x y : Int} (hi : i < xs.length) (h : froB W H (xs.set i 2) x y = true) : froB W H xs x y = true := by
  unfold froB at h ⊢
  simp only [Bool.and_eq_true, Bool.or_eq_true] at h ⊢
  obtain ⟨h1, h2⟩ := h
  refine ⟨isB_set hi (by omega) h1, ?_⟩
  rcases h2 with ((h2 | h2) | h2) | h2
  · exact .inl (.inl (.inl (isB_set hi (by omega) h2)))
  · exact .inl (.inl (.inr (isB_set hi (by omega) h2)))
  · exact .inl (.inr (isB_set hi (by omega) h2))
  · exact .inr (isB_set hi (by omega) h2)
theorem rowP_sub {p q : Int → Int → Bool} (h : ∀ x y, p x y = true → q x y = true) (y : Nat) : ∀ j, (rowP p y j).Sublist (rowP q y j)
  | 0 => by simp [rowP]
  | j + 1 => by
    simp only [rowP]
    refine List.Sublist.append (rowP_sub h y j) ?_
    by_cases hp : p j y = true
    · rw [if_pos hp, if_pos (h _ _ hp)]; exact List.Sublist.refl _
    · rw [if_neg hp]; exact List.nil_sublist _
theorem gridP_sub {p q : Int → Int → Bool} (h : ∀ x y, p x y = true → q x y = true) (w : Nat) : ∀ i, (gridP p w i).Sublist (gridP q w i)
  | 0 => by simp [gridP]
  | i + 1 => by
    simp only [gridP]
    exact List.Sublist.append (gridP_sub h w i) (rowP_sub h i w)
theorem gridP_none {p : Int → Int → Bool} (h : ∀ x y, p x y = false) (w i : Nat) : gridP p w i = [] := by
  refine List.eq_nil_iff_forall_not_mem.2 fun c hc => ?_
  have := ((gridP_mem p w i c).1 hc).2.2.2.2
  rw [h] at this; cases this
def max1 (z : Int) : Int := if z < 1 then 1 else z
theorem max1_pos (z : Int) : 1 ≤ max1 z := by unfold max1; split <;> omega
theorem fro_max1 {W H : Int} {xs : List Int} (hV : Vld W H xs) (x y : Int) : froB W H (xs.map max1) x y = false := by
  have h0 : ∀ x y, isB W H (xs.map max1) x y 0 = false := fun x y => by
    unfold isB
    cases hi : inB W H x y
    · rfl
    · have := (hV.idx hi).2.2.2.2.1
      rw [Bool.true_and, beq_eq_false_iff_ne]
      unfold gi
      rw [List.getD_eq_getElem?_getD, List.getElem?_map, List.getElem?_eq_getElem this]
      have := max1_pos (xs[(y * W + x).toNat])
      simp only [Option.map_some, Option.getD_some]
      omega
  unfold froB
  rw [h0, h0, h0, h0]; simp
theorem froL_max1 {W H : Int} {xs : List Int} (hV : Vld W H xs) : froL W H (xs.map max1) = [] := gridP_none (fro_max1 hV) _ _
theorem vld_set {W H : Int} {xs : List Int} (hV : Vld W H xs) (i : Nat) : Vld W H (xs.set i 2) :=
  ⟨hV.w0, hV.w1, hV.h0, hV.h1, by rw [List.length_set]; exact hV.len, fun v hv => by
    rcases List.mem_or_eq_of_mem_set hv with h | h
    · exact hV.le v h
    · omega⟩
theorem vld_max1 {W H : Int} {xs : List Int} (hV : Vld W H xs) : Vld W H (xs.map max1) :=
  ⟨hV.w0, hV.w1, hV.h0, hV.h1, by rw [List.length_map]; exact hV.len, fun v hv => by
    obtain ⟨z, hz, rfl⟩ := List.mem_map.1 hv
    have := hV.le z hz
    unfold max1; split <;> omega⟩
theorem sub_skip {a b : Int × Int} {l m : List (Int × Int)} (h : (a :: l).Sublist (b :: m)) (hne : b ≠ a) : (a :: l).Sublist m := by
  cases h with
  | cons _ h => exact h
  | cons_cons _ h => exact absurd rfl hne
theorem sub_take {a b : Int × Int} {l m : List (Int × Int)} (h : (a :: l).Sublist (b :: m)) (_he : b = a) : l.Sublist (b :: m) := by
  cases h with
  | cons _ h => exact .cons _ ((List.sublist_cons_self a l).trans h)
  | cons_cons _ h => exact .cons _ h
theorem mid_len {xs ys : List Int} (h : ys.length = xs.length) (i : Nat) : (ys.take i ++ xs.drop i).length = xs.length := by
  simp; omega
theorem mid_get {xs ys : List Int} (h : ys.length = xs.length) {i : Nat} (hi : i < xs.length) : gi (ys.take i ++ xs.drop i) i = gi xs i := by
  unfold gi
  rw [List.getD_eq_getElem?_getD, List.getElem?_append_right (by simp; omega), List.getD_eq_getElem?_getD, List.getElem?_drop]
  simp; congr 2; omega
theorem mid_set {xs ys : List Int} (h : ys.length = xs.length) {i : Nat} (hi : i < xs.length) : (ys.take i ++ xs.drop i).set i (gi ys i) = ys.take (i + 1) ++ xs.drop (i + 1) := by
  rw [List.set_append_right _ _ (by simp; omega), List.drop_eq_getElem_cons hi, List.take_succ_eq_append_getElem (show i < ys.length by omega), gi_lt (show i < ys.length by omega)]
  have : i - (ys.take i).length = 0 := by simp; omega
  rw [this, List.set_cons_zero, List.append_assoc]
  rfl
end Go.Proofs.Ytloblgkjgcemoaa
