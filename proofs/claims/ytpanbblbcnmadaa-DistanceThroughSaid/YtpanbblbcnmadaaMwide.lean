/- Plain facts: the greatest number of a way; levels; the binary search. Conditions: none. -/
import Derived.Test.YtpanbblbcnmadaaMjoin
import Derived.Test.YtpanbblbcnmadaaMclear
import Derived.Lib.SlicesCompact
namespace Go.Proofs.Ytpanbblbcnmadaa
open Go.RowKit Go.Lib
section
theorem compact_spec (d : Array Int) (hs : ∀ i j : Nat, i ≤ j → j < d.size → d[i]! ≤ d[j]!) : ∀ m, m ≤ d.size → (compactUpTo d m).Pairwise (· < ·) ∧ ∀ x, x ∈ compactUpTo d m ↔ ∃ j, j < m ∧ d[j]! = x
  | 0, _ => by simp [compactUpTo]
  | m + 1, hm => by
    obtain ⟨h1, h2⟩ := compact_spec d hs m (by omega)
    rw [compactUpTo_succ]
    by_cases hk : keeps d m = true
    · rw [if_pos hk]
      refine ⟨List.pairwise_append.2 ⟨h1, by simp, fun a ha b hb => ?_⟩, fun x => ?_⟩
      · simp at hb; subst hb
        obtain ⟨j, hj, rfl⟩ := (h2 a).1 ha
        have hmo : m = 0 ∨ d[m]! ≠ d[m - 1]! := by simpa [keeps] using hk
        have hne : d[m]! ≠ d[m - 1]! := hmo.resolve_left (by omega)
        have a1 := hs j (m - 1) (by omega) (by omega)
        have a2 := hs (m - 1) m (by omega) (by omega)
        omega
      · rw [List.mem_append, h2]
        constructor
        · rintro (⟨j, hj, rfl⟩ | hx)
          · exact ⟨j, by omega, rfl⟩
          · simp at hx; exact ⟨m, by omega, hx.symm⟩
        · rintro ⟨j, hj, rfl⟩
          by_cases e : j = m
          · subst e; exact .inr (by simp)
          · exact .inl ⟨j, by omega, rfl⟩
    · rw [if_neg hk, List.append_nil]
      refine ⟨h1, fun x => (h2 x).trans ⟨fun ⟨j, hj, e⟩ => ⟨j, by omega, e⟩, fun ⟨j, hj, e⟩ => ?_⟩⟩
      by_cases e' : j = m
      · subst e'
        have hk' : ¬ (j = 0 ∨ d[j]! ≠ d[j - 1]!) := by simpa [keeps] using hk
        exact ⟨j - 1, by omega, by rw [← e]; exact (Classical.byContradiction fun hh => hk' (.inr (fun h => hh h.symm)))⟩
      · exact ⟨j, by omega, e⟩
/-- The levels: all numbers above 0, ascending. -/
structure Lev (zs L : List Int) : Prop where
  pos : ∀ i, i < L.length → 1 ≤ gi L i
  mono : ∀ i j, i < j → j < L.length → gi L i < gi L j
  all : ∀ v ∈ zs, 1 ≤ v → ∃ i, i < L.length ∧ gi L i = v
theorem getD_getBang {zs : List Int} {j : Nat} (h : j < zs.length) : zs.toArray[j]! = gi zs j := by
  simp [gi, h, List.getD_eq_getElem?_getD]
theorem sorted_compact (zs : List Int) : (compact (zs.mergeSort fun x y => decide (x ≤ y))).Pairwise (· < ·) ∧ ∀ x, x ∈ compact (zs.mergeSort fun x y => decide (x ≤ y)) ↔ x ∈ zs := by
  have hp : (zs.mergeSort fun x y => decide (x ≤ y)).Pairwise fun a b => (decide (a ≤ b)) = true := List.pairwise_mergeSort (fun a b c h1 h2 => by simp at *; omega) (fun a b => by simp; omega) zs
  generalize hS : (zs.mergeSort fun x y => decide (x ≤ y)) = S at *
  have hmem : ∀ x, x ∈ S ↔ x ∈ zs := fun x => by rw [← hS]; exact List.mem_mergeSort
  obtain ⟨h1, h2⟩ := compact_spec S.toArray (fun i j hij hj => by
    have hj' : j < S.length := by simpa using hj
    rw [getD_getBang (by omega), getD_getBang hj', gi_lt (by omega), gi_lt hj']
    rcases Nat.lt_or_ge i j with h | h
    · have := List.pairwise_iff_getElem.1 hp i j (by omega) hj' h
      simpa using this
    · have : i = j := by omega
      subst this; exact Int.le_refl _) S.length (by simp)
  refine ⟨h1, fun x => (h2 x).trans ?_⟩
  rw [← hmem]
  constructor
  · rintro ⟨j, hj, rfl⟩; rw [getD_getBang hj]; exact gi_mem hj
  · intro hx
    obtain ⟨j, hj, rfl⟩ := List.getElem_of_mem hx
    exact ⟨j, hj, by rw [getD_getBang hj, gi_lt hj]⟩
theorem pair_gi {L : List Int} (h : L.Pairwise (· < ·)) {i j : Nat} (hij : i < j) (hj : j < L.length) : gi L i < gi L j := by
  rw [gi_lt (by omega), gi_lt hj]; exact List.pairwise_iff_getElem.1 h i j (by omega) hj hij
theorem Lev.whole {zs L : List Int} (h : L.Pairwise (· < ·)) (hm : ∀ x, x ∈ L ↔ x ∈ zs) (hz : ∀ x ∈ zs, 0 ≤ x) (h0 : gi L 0 ≠ 0) : Lev zs L where
  pos i hi := by
    have a := hz _ ((hm _).1 (gi_mem (xs := L) (k := 0) (by omega)))
    rcases Nat.eq_zero_or_pos i with rfl | hp
    · omega
    · have := pair_gi h hp hi; omega
  mono i j hij hj := pair_gi h hij hj
  all v hv _ := by
    obtain ⟨i, hi, e⟩ := List.getElem_of_mem ((hm v).2 hv)
    exact ⟨i, hi, by rw [gi_lt hi, e]⟩
theorem gi_tail {a : Int} {L : List Int} {i : Nat} : gi (a :: L) (i + 1) = gi L i := by simp [gi]
theorem Lev.tail {zs L : List Int} {a : Int} (h : (a :: L).Pairwise (· < ·)) (hm : ∀ x, x ∈ a :: L ↔ x ∈ zs) (h0 : a = 0) : Lev zs L where
  pos i hi := by
    have := pair_gi h (i := 0) (j := i + 1) (by omega) (by simpa using hi)
    rw [gi_tail] at this
    simp [gi] at this ⊢; omega
  mono i j hij hj := pair_gi (List.pairwise_cons.1 h).2 hij hj
  all v hv h1 := by
    have := (hm v).2 hv
    rcases List.mem_cons.1 this with e | hv'
    · omega
    · obtain ⟨i, hi, e⟩ := List.getElem_of_mem hv'
      exact ⟨i, hi, by rw [gi_lt hi, e]⟩
end
section
variable {W H : Int} {zs xs L : List Int} {ax ay bx by_ : Int}
/-- A way over cells with a number of at least s. -/
def Way (W H : Int) (zs : List Int) (ax ay bx by_ s : Int) : Prop := Reach (fun x y => (inB W H x y && decide (s ≤ gi zs (ixI W x y))) = true) ax ay bx by_
theorem Way.anti {s t : Int} (h : Way W H zs ax ay bx by_ t) (hst : s ≤ t) : Way W H zs ax ay bx by_ s :=
  Reach.mono h fun x y hh => by simp only [Bool.and_eq_true, decide_eq_true_eq] at *; exact ⟨hh.1, by omega⟩
theorem Way.num {s : Int} (h : Way W H zs ax ay bx by_ s) : inB W H ax ay = true ∧ s ≤ gi zs (ixI W ax ay) := by
  have := Reach.first h
  simpa only [Bool.and_eq_true, decide_eq_true_eq] using this
theorem Way.numB {s : Int} (h : Way W H zs ax ay bx by_ s) : inB W H bx by_ = true ∧ s ≤ gi zs (ixI W bx by_) := by
  have := Reach.last h
  simpa only [Bool.and_eq_true, decide_eq_true_eq] using this
theorem ixI_lt (hl : (zs.length : Int) = W * H) {x y : Int} (hi : inB W H x y = true) : ixI W x y < zs.length := by
  have := idx_bd hi
  unfold ixI; omega
/-- At the end of the search: level good has a way, level good + 1 has none: no greater number has one. -/
theorem Lev.best (hL : Lev zs L) (hl : (zs.length : Int) = W * H) {good : Nat} (hg : good < L.length) (hbad : good + 1 = L.length ∨ good + 1 < L.length ∧ ¬ Way W H zs ax ay bx by_ (gi L (good + 1))) {m : Int} (hm : Way W H zs ax ay bx by_ m) : m ≤ gi L good := by
  refine Classical.byContradiction fun hh => ?_
  have hpg := hL.pos good hg
  have up : ∀ v ∈ zs, m ≤ v → good + 1 < L.length ∧ gi L (good + 1) ≤ v := fun v hv hmv => by
    obtain ⟨i, hi, e⟩ := hL.all v hv (by omega)
    have h1 : good < i := by
      rcases Nat.lt_or_ge good i with h | h
      · exact h
      · exfalso
        rcases Nat.lt_or_ge i good with h2 | h2
        · have := hL.mono i good h2 hg; omega
        · have : i = good := by omega
          subst this; omega
    refine ⟨by omega, ?_⟩
    rcases Nat.lt_or_ge (good + 1) i with h2 | h2
    · have := hL.mono _ i h2 hi; omega
    · have : i = good + 1 := by omega
      subst this; omega
  obtain ⟨n1, n2⟩ := hm.num
  have hup := up _ (gi_mem (ixI_lt hl n1)) n2
  rcases hbad with h | ⟨-, h⟩
  · omega
  · refine h (Reach.mono hm fun x y hxy => ?_)
    simp only [Bool.and_eq_true, decide_eq_true_eq] at *
    exact ⟨hxy.1, (up _ (gi_mem (ixI_lt hl hxy.1)) hxy.2).2⟩
noncomputable def wayB (W H : Int) (zs : List Int) (ax ay bx by_ s : Int) : Bool := @decide (Way W H zs ax ay bx by_ s) (Classical.propDecidable _)
theorem wayB_iff {s : Int} : wayB W H zs ax ay bx by_ s = true ↔ Way W H zs ax ay bx by_ s := by unfold wayB; simp
/-- A way at all is a way at the first level. -/
theorem Lev.first (hL : Lev zs L) (hl : (zs.length : Int) = W * H) (h : Way W H zs ax ay bx by_ 1) : Way W H zs ax ay bx by_ (gi L 0) :=
  Reach.mono h fun x y hxy => by
    simp only [Bool.and_eq_true, decide_eq_true_eq] at *
    obtain ⟨i, hi, e⟩ := hL.all _ (gi_mem (ixI_lt hl hxy.1)) hxy.2
    refine ⟨hxy.1, ?_⟩
    rw [← e]
    rcases Nat.eq_zero_or_pos i with rfl | hp
    · exact Int.le_refl _
    · exact Int.le_of_lt (hL.mono 0 i hp hi)
theorem Way.symm {s : Int} (h : Way W H zs ax ay bx by_ s) : Way W H zs bx by_ ax ay s := Reach.symm h
/-- A cell is free exactly if its number is above 0. -/
theorem free_num (hv : Vld W H xs) (x y : Int) : freeB W H xs x y = (inB W H x y && decide (1 ≤ gi (sqs W H xs) (ixI W x y))) := by
  cases hi : inB W H x y
  · rw [Bool.false_and]; unfold freeB atI; rw [hi]; rfl
  · obtain ⟨h1, h2, h3, h4⟩ := inB_iff.1 hi
    obtain ⟨X, rfl⟩ : ∃ X : Nat, x = X := ⟨x.toNat, by omega⟩
    obtain ⟨Y, rfl⟩ : ∃ Y : Nat, y = Y := ⟨y.toNat, by omega⟩
    obtain ⟨a, b, l, hn, he⟩ := sqs_near hv h2 h4
    obtain ⟨s1, s2, s3, s4, s5⟩ := near_spec hv.w0 hv.h0 hn
    rw [Bool.true_and, ixI_nat, he]
    cases hf : freeB W H xs X Y
    · have := s5 X Y (by omega) (by omega) (by omega) (by omega) hf
      have h0 : farI (X : Int) Y X Y = 0 := by unfold farI; simp
      symm; rw [decide_eq_false_iff_not]; omega
    · symm; rw [decide_eq_true_eq]
      have hne : ¬ l = 0 := fun h0 => by
        rw [h0] at s4
        unfold farI at s4
        have q1 := sq_nonneg ((X : Int) - a)
        have q2 := sq_nonneg ((Y : Int) - b)
        have e1 : (X : Int) - a = 0 := by
          have : ((X : Int) - a) * ((X : Int) - a) = 0 := by omega
          rcases Int.mul_eq_zero.1 this with h | h <;> exact h
        have e2 : (Y : Int) - b = 0 := by
          have : ((Y : Int) - b) * ((Y : Int) - b) = 0 := by omega
          rcases Int.mul_eq_zero.1 this with h | h <;> exact h
        have : a = X := by omega
        have : b = Y := by omega
        subst a b
        rw [hf] at s3; cases s3
      omega
theorem num_near (hv : Vld W H xs) {x y p q l : Int} (hi : inB W H x y = true) (h : nearI W H xs x y = (p, q, l)) : gi (sqs W H xs) (ixI W x y) = l := by
  obtain ⟨h1, h2, h3, h4⟩ := inB_iff.1 hi
  obtain ⟨X, rfl⟩ : ∃ X : Nat, x = X := ⟨x.toNat, by omega⟩
  obtain ⟨Y, rfl⟩ : ∃ Y : Nat, y = Y := ⟨y.toNat, by omega⟩
  obtain ⟨a, b, l', hn, he⟩ := sqs_near hv h2 h4
  rw [h] at hn
  rw [ixI_nat, he]
  simp at hn
  exact hn.2.2.symm
theorem num_bd (hv : Vld W H xs) {x y : Int} (hi : inB W H x y = true) : gi (sqs W H xs) (ixI W x y) ≤ 4096 := by
  obtain ⟨h1, h2, h3, h4⟩ := inB_iff.1 hi
  obtain ⟨X, rfl⟩ : ∃ X : Nat, x = X := ⟨x.toNat, by omega⟩
  obtain ⟨Y, rfl⟩ : ∃ Y : Nat, y = Y := ⟨y.toNat, by omega⟩
  rw [ixI_nat, sqs_at h2 h4]
  exact (bestTo_bd hv.w1 h2).2
/-- A cell is free in the inflated plan exactly if its number is great. -/
theorem infl_num (hv : Vld W H xs) (r2 : Int) (x y : Int) : freeB W H (infl r2 (sqs W H xs)) x y = (inB W H x y && decide (r2 + 1 ≤ gi (sqs W H xs) (ixI W x y))) := by
  cases hi : inB W H x y
  · rw [Bool.false_and]; unfold freeB atI; rw [hi]; rfl
  · have hl : ((sqs W H xs).length : Int) = W * H := by rw [sqs_len]; have := hv.pos.1; omega
    have hlt := ixI_lt hl hi
    unfold freeB atI
    rw [hi, if_pos rfl, show gi (infl r2 (sqs W H xs)) (y * W + x).toNat = _ from infl_at hlt, Bool.true_and]
    show ((if r2 < gi (sqs W H xs) (ixI W x y) then (1 : Int) else 2) == 1) = _
    by_cases h : r2 < gi (sqs W H xs) (ixI W x y)
    · rw [if_pos h]; symm; simp; omega
    · rw [if_neg h]; symm; simp; omega
theorem reach_free (hv : Vld W H xs) : Reach (fun x y => freeB W H xs x y = true) ax ay bx by_ ↔ Way W H (sqs W H xs) ax ay bx by_ 1 := by
  have : (fun x y => freeB W H xs x y = true) = fun x y => (inB W H x y && decide (1 ≤ gi (sqs W H xs) (ixI W x y))) = true := by
    funext x y; rw [free_num hv]
  unfold Way; rw [this]
theorem reach_infl (hv : Vld W H xs) (r2 : Int) : Reach (fun x y => freeB W H (infl r2 (sqs W H xs)) x y = true) ax ay bx by_ ↔ Way W H (sqs W H xs) ax ay bx by_ (r2 + 1) := by
  have : (fun x y => freeB W H (infl r2 (sqs W H xs)) x y = true) = fun x y => (inB W H x y && decide (r2 + 1 ≤ gi (sqs W H xs) (ixI W x y))) = true := by
    funext x y; rw [infl_num hv]
  unfold Way; rw [this]
/-- What Widest returns. -/
def WidSpec (W H : Int) (xs : List Int) (ax ay bx by_ n e : Int) : Prop :=
  (vldB W H xs = false ∧ n = 0 ∧ e = 1) ∨
  (vldB W H xs = true ∧ (freeB W H xs ax ay = false ∨ freeB W H xs bx by_ = false) ∧ n = 0 ∧ e = 7) ∨
  (vldB W H xs = true ∧ freeB W H xs ax ay = true ∧ freeB W H xs bx by_ = true ∧ ¬ Way W H (sqs W H xs) ax ay bx by_ 1 ∧ n = 0 ∧ e = 14) ∨
  (vldB W H xs = true ∧ freeB W H xs ax ay = true ∧ freeB W H xs bx by_ = true ∧ 1 ≤ n ∧ Way W H (sqs W H xs) ax ay bx by_ n ∧ (∀ m, Way W H (sqs W H xs) ax ay bx by_ m → m ≤ n) ∧ e = 0)
theorem WidSpec.symm {n e : Int} (h : WidSpec W H xs ax ay bx by_ n e) : WidSpec W H xs bx by_ ax ay n e := by
  rcases h with h | ⟨h1, h2, h3⟩ | ⟨h1, h2, h3, h4, h5⟩ | ⟨h1, h2, h3, h4, h5, h6, h7⟩
  · exact .inl h
  · exact .inr (.inl ⟨h1, h2.symm, h3⟩)
  · exact .inr (.inr (.inl ⟨h1, h3, h2, fun h => h4 h.symm, h5⟩))
  · exact .inr (.inr (.inr ⟨h1, h3, h2, h4, h5.symm, fun m hm => h6 m hm.symm, h7⟩))
theorem WidSpec.unique {n e n' e' : Int} (h : WidSpec W H xs ax ay bx by_ n e) (k : WidSpec W H xs ax ay bx by_ n' e') : n = n' ∧ e = e' := by
  rcases h with ⟨h1, h2, h3⟩ | ⟨h1, h2, h3, h4⟩ | ⟨h1, h2, h3, h4, h5, h6⟩ | ⟨h1, h2, h3, h4, h5, h6, h7⟩ <;>
  rcases k with ⟨k1, k2, k3⟩ | ⟨k1, k2, k3, k4⟩ | ⟨k1, k2, k3, k4, k5, k6⟩ | ⟨k1, k2, k3, k4, k5, k6, k7⟩ <;>
  first
    | (subst_vars; exact ⟨rfl, rfl⟩)
    | (exfalso; rw [h1] at k1; cases k1; done)
    | (exfalso; rcases h2 with h2 | h2 <;> simp_all; done)
    | (exfalso; rcases k2 with k2 | k2 <;> simp_all; done)
    | (exact absurd (h5.anti h4) k4)
    | (exact absurd (k5.anti k4) h4)
    | (have a := h6 _ k5; have b := k6 _ h5; exact ⟨by omega, by omega⟩)
end
end Go.Proofs.Ytpanbblbcnmadaa
