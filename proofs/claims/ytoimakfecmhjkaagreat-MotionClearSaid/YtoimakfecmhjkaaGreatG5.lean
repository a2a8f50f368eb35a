/- Proved: the law MotionClear returns true on every input, and its arguments read afterwards as before. Conditions: none beyond the given row's. -/
import Derived.Test.YtoimakfecmhjkaaGreatG2
import Derived.Test.YtoimakfecmhjkaaGreatG3
import Derived.Test.YtoimakfecmhjkaaGreatG4
namespace Go.Proofs.YtoimakfecmhjkaaGreat
set_option linter.unusedSimpArgs false
set_option linter.unusedVariables false
open Go.RowKit
section
variable (H : AHeap)
theorem psize_c (x : Int) : ACalls Tryz.prog 133 [.int .i64 x] H (fun v H' => v = .bool (decide (1 ≤ x) && decide (x ≤ 64)) ∧ H' = H) := by
  (refine ACalls_run try_mixed Tryz.func133 true _ rfl (Nat.le_of_ble_eq_true (by kernel_rfl)) (by kernel_rfl) ?_; intro hbel Q hQ hQ' c hc; unfold Tryz.f133 at hc; simp only [Option.some.injEq] at hc; subst hc; clear hQ')
  by_cases h1 : 1 ≤ x
  · simp -implicitDefEqProofs (disch := omega) only [h1, simprocAttr, amset, tyset, Function.comp_apply, one1, lenV, calleeOf, lateOk, belowV, aop, AV.ofValue, AV.ofCell, AV.cells, AV.flat, AV.one, arep, aBin, aAppend, aConv]
    exact hQ _ _ (end_plain0 (.inl rfl) hbel (x := .bool (decide (x ≤ 64))) (resT Tryz.results133) rfl ⟨by simp only [h1, decide_true, Bool.true_and], rfl⟩)
  · simp -implicitDefEqProofs (disch := omega) only [h1, simprocAttr, amset, tyset, Function.comp_apply, one1, lenV, calleeOf, lateOk, belowV, aop, AV.ofValue, AV.ofCell, AV.cells, AV.flat, AV.one, arep, aBin, aAppend, aConv]
    exact hQ _ _ (end_plain0 (.inl rfl) hbel (x := .bool false) (resT Tryz.results133) rfl ⟨by simp only [h1, decide_false, Bool.false_and], rfl⟩)
set_option maxRecDepth 100000 in
theorem max_c (xs : List Int) (b : Nat) (own : Bool) (cap : Option Nat) (hb : H[b]? = some (.cells own 1 (ints .u8 xs))) (h0 : 0 < xs.length) (hn : xs.length ≤ 1000000) : ACalls Tryz.prog 134 [.sl (some (b, 0)) xs.length cap] H (fun v H' => ∃ m, v = .int .u8 m ∧ m ∈ xs ∧ (∀ x ∈ xs, x ≤ m) ∧ H' = H) := by
  have hbl := getElem?_lt hb
  have hg0 := ints_get (k := .u8) (xs := xs) (j := 0) h0
  (refine ACalls_run try_mixed Tryz.func134 true _ rfl (Nat.le_of_ble_eq_true (by kernel_rfl)) (by kernel_rfl) ?_; intro hbel Q hQ hQ' c hc; unfold Tryz.f134 at hc; simp only [Option.some.injEq] at hc; subst hc; clear hQ')
  have h1 : ¬ (xs.length : Int) < 1 := by omega
  simp -implicitDefEqProofs (disch := omega) only [h1, hb, hg0, simprocAttr, amset, tyset, Function.comp_apply, one1, lenV, calleeOf, lateOk, belowV, aop, AV.ofValue, AV.ofCell, AV.cells, AV.flat, AV.one, arep, aBin, aAppend, aConv]
  repeat refine And.intro (by omega) ?_
  refine go_loop try_mixed (by kernel_rfl) (fun k F Hx => ∃ (i : Nat) (m : Int), i + k = xs.length ∧ 1 ≤ i ∧ m ∈ xs ∧ (∀ j, j < i → gi xs j ≤ m) ∧ F = [(0, .sl (some (b, 0)) xs.length none), (3, .int .u8 m), (4, .int .i64 (i : Nat))] ∧ Hx = H) (xs.length - 1) ?_ ?_
  · refine ⟨_, _, _, ⟨1, gi xs 0, by omega, by omega, gi_mem h0, fun j hj => by obtain rfl : j = 0 := by omega
                                                                                exact Int.le_refl _, rfl, rfl⟩, Abs.by0 hbel ?_⟩
    exact absT
  · rintro k F Hx ⟨i, m, hik, hi1, hm, hle, rfl, rfl⟩ J hJ
    by_cases hi : i < xs.length
    · have hii : (i : Int) < (xs.length : Int) := by omega
      have hg := ints_get (k := .u8) (xs := xs) (j := i) hi
      simp -implicitDefEqProofs (disch := omega) only [hii, hb, hg, simprocAttr, amset, tyset, Function.comp_apply, one1, lenV, calleeOf, lateOk, belowV, aop, AV.ofValue, AV.ofCell, AV.cells, AV.flat, AV.one, arep, aBin, aAppend, aConv]
      repeat refine And.intro (by omega) ?_
      refine hJ _ _ ⟨k - 1, by omega, _, _, _, ⟨i + 1, if m < gi xs i then gi xs i else m, by omega, by omega, by split; exact gi_mem hi; exact hm, fun j hj => ?_, rfl, rfl⟩, Abs.by0 hbel ?_⟩
      · by_cases hji : j = i
        · subst hji; split <;> omega
        · have := hle j (by omega); split <;> omega
      · exact absT
    · have hnn : ¬ ((i : Int) < (xs.length : Int)) := by omega
      simp -implicitDefEqProofs (disch := omega) only [hnn, simprocAttr, amset, tyset, Function.comp_apply, one1, lenV, calleeOf, lateOk, belowV, aop, AV.ofValue, AV.ofCell, AV.cells, AV.flat, AV.one, arep, aBin, aAppend, aConv]
      exact hQ _ _ (end_plain0 (.inl rfl) hbel (x := .int .u8 m) (resT Tryz.results134) rfl ⟨m, rfl, hm, fun x hx => by
        obtain ⟨j, hj, rfl⟩ := List.getElem_of_mem hx
        rw [← gi_lt hj]; exact hle j (by omega), rfl⟩)
theorem vldB_neg {W Hh : Int} {xs : List Int} (h : ¬ (1 ≤ W ∧ W ≤ 64 ∧ 1 ≤ Hh ∧ Hh ≤ 64 ∧ (xs.length : Int) = W * Hh)) : vldB W Hh xs = false := vld_false.2 fun v => h ⟨v.w0, v.w1, v.h0, v.h1, v.len⟩
set_option maxRecDepth 100000 in
theorem valid_a (W Hh : Int) (s : AV) (xs : List Int) (hs : IsI H .u8 s xs) : ACalls Tryz.prog 73 [.agg [.int .i64 W, .int .i64 Hh, s]] H (fun v H' => v = .bool (vldB W Hh xs) ∧ H' = H) := by
  have hs1 : ∃ a c, s = .sl a xs.length c := by
    rcases hs with ⟨rfl, rfl⟩ | ⟨b, own, cap, rfl, hb⟩
    · exact ⟨_, _, rfl⟩
    · exact ⟨_, _, rfl⟩
  obtain ⟨a1, c1, rfl⟩ := hs1
  (refine ACalls_run try_mixed Tryz.func73 true _ rfl (Nat.le_of_ble_eq_true (by kernel_rfl)) (by kernel_rfl) ?_; intro hbel Q hQ hQ' c hc; unfold Tryz.f73 at hc; simp only [Option.some.injEq] at hc; subst hc; clear hQ')
  simp -implicitDefEqProofs (disch := omega) only [simprocAttr, amset, tyset, Function.comp_apply, one1, lenV, calleeOf, lateOk, belowV, aop, AV.ofValue, AV.ofCell, AV.cells, AV.flat, AV.one, arep, aBin, aAppend, aConv]
  refine call_v (by kernel_rfl) (psize_c _ _) ?_
  cases h1 : (decide (1 ≤ W) && decide (W ≤ 64))
  · simp only [Bool.and_eq_false_iff, decide_eq_false_iff_not] at h1
    simp -implicitDefEqProofs (disch := omega) only [simprocAttr, amset, tyset, Function.comp_apply, one1, lenV, calleeOf, lateOk, belowV, aop, AV.ofValue, AV.ofCell, AV.cells, AV.flat, AV.one, arep, aBin, aAppend, aConv]
    exact hQ _ _ (end_plain (.inl rfl) hbel (x := .bool false) (resT Tryz.results73) rfl ⟨by rw [vldB_neg (by omega)], rfl⟩)
  simp only [Bool.and_eq_true, decide_eq_true_eq] at h1
  simp -implicitDefEqProofs (disch := omega) only [simprocAttr, amset, tyset, Function.comp_apply, one1, lenV, calleeOf, lateOk, belowV, aop, AV.ofValue, AV.ofCell, AV.cells, AV.flat, AV.one, arep, aBin, aAppend, aConv]
  refine call_v (by kernel_rfl) (psize_c _ _) ?_
  cases h2 : (decide (1 ≤ Hh) && decide (Hh ≤ 64))
  · simp only [Bool.and_eq_false_iff, decide_eq_false_iff_not] at h2
    simp -implicitDefEqProofs (disch := omega) only [simprocAttr, amset, tyset, Function.comp_apply, one1, lenV, calleeOf, lateOk, belowV, aop, AV.ofValue, AV.ofCell, AV.cells, AV.flat, AV.one, arep, aBin, aAppend, aConv]
    exact hQ _ _ (end_plain (.inl rfl) hbel (x := .bool false) (resT Tryz.results73) rfl ⟨by rw [vldB_neg (by omega)], rfl⟩)
  simp only [Bool.and_eq_true, decide_eq_true_eq] at h2
  have hm := mul_le_64 (a := W) (b := Hh) (by omega) (by omega) (by omega) (by omega)
  have hm1 := Int.mul_le_mul (a := 1) (b := 1) (c := W) (d := Hh) h1.1 h2.1 (by omega) (by omega)
  by_cases h3 : (xs.length : Int) = W * Hh
  · have h3' : ((xs.length : Int) != W * Hh) = false := by simp [h3]
    have h4 : ((xs.length : Int) == 0) = false := beq_eq_false_iff_ne.2 (by omega)
    obtain ⟨b, own, cap, e1, hb⟩ := hs.resolve_left (fun h => by rw [h.1] at h3; simp at h3; omega)
    injection e1 with e1 _ e1'; subst e1 e1'
    have hb0 := fun l => get_app (l := l) hb
    have hbl := getElem?_lt hb
    simp -implicitDefEqProofs (disch := omega) only [h3', h4, simprocAttr, amset, tyset, Function.comp_apply, one1, lenV, calleeOf, lateOk, belowV, aop, AV.ofValue, AV.ofCell, AV.cells, AV.flat, AV.one, arep, aBin, aAppend, aConv]
    refine call_of (by kernel_rfl) (max_c _ xs b own c1 (hb0 _) (by omega) (by omega)) ?_
    rintro x H' ⟨m, rfl, hm, hle, rfl⟩
    simp -implicitDefEqProofs (disch := omega) only [simprocAttr, amset, tyset, Function.comp_apply, one1, lenV, calleeOf, lateOk, belowV, aop, AV.ofValue, AV.ofCell, AV.cells, AV.flat, AV.one, arep, aBin, aAppend, aConv]
    exact hQ _ _ (end_plain (.inl rfl) hbel (x := .bool (decide (m ≤ 2))) (resT Tryz.results73) rfl ⟨by
      congr 1
      rw [Bool.eq_iff_iff, vld_iff, decide_eq_true_eq]
      exact ⟨fun h => ⟨h1.1, h1.2, h2.1, h2.2, h3, fun v hv => Int.le_trans (hle v hv) h⟩, fun h => h.le m hm⟩, rfl⟩)
  · have h3' : ((xs.length : Int) != W * Hh) = true := by simp [h3]
    simp -implicitDefEqProofs (disch := omega) only [h3', simprocAttr, amset, tyset, Function.comp_apply, one1, lenV, calleeOf, lateOk, belowV, aop, AV.ofValue, AV.ofCell, AV.cells, AV.flat, AV.one, arep, aBin, aAppend, aConv]
    exact hQ _ _ (end_plain (.inl rfl) hbel (x := .bool false) (resT Tryz.results73) rfl ⟨by rw [vldB_neg (by omega)], rfl⟩)
set_option maxRecDepth 100000 in
theorem rplan_a (W Hh : Int) (s : AV) (xs : List Int) (hs : IsI H .u8 s xs) : ACalls Tryz.prog 80 [.agg [.int .i64 W, .int .i64 Hh, s]] H (fun v H' => v = .bool (vldB W Hh xs) ∧ H' = H) := by
  have hs1 : ∃ a c, s = .sl a xs.length c := by
    rcases hs with ⟨rfl, rfl⟩ | ⟨b, own, cap, rfl, hb⟩
    · exact ⟨_, _, rfl⟩
    · exact ⟨_, _, rfl⟩
  obtain ⟨a1, c1, rfl⟩ := hs1
  (refine ACalls_run try_mixed Tryz.func80 true _ rfl (Nat.le_of_ble_eq_true (by kernel_rfl)) (by kernel_rfl) ?_; intro hbel Q hQ hQ' c hc; unfold Tryz.f80 at hc; simp only [Option.some.injEq] at hc; subst hc; clear hQ')
  by_cases h1 : W < 1
  · simp -implicitDefEqProofs (disch := omega) only [h1, simprocAttr, amset, tyset, Function.comp_apply, one1, lenV, calleeOf, lateOk, belowV, aop, AV.ofValue, AV.ofCell, AV.cells, AV.flat, AV.one, arep, aBin, aAppend, aConv]
    exact hQ _ _ (end_plain (.inl rfl) hbel (x := .bool false) (resT Tryz.results80) rfl ⟨by rw [vldB_neg (by omega)], rfl⟩)
  by_cases h2 : 64 < W
  · simp -implicitDefEqProofs (disch := omega) only [h1, h2, simprocAttr, amset, tyset, Function.comp_apply, one1, lenV, calleeOf, lateOk, belowV, aop, AV.ofValue, AV.ofCell, AV.cells, AV.flat, AV.one, arep, aBin, aAppend, aConv]
    exact hQ _ _ (end_plain (.inl rfl) hbel (x := .bool false) (resT Tryz.results80) rfl ⟨by rw [vldB_neg (by omega)], rfl⟩)
  by_cases h3 : Hh < 1
  · simp -implicitDefEqProofs (disch := omega) only [h1, h2, h3, simprocAttr, amset, tyset, Function.comp_apply, one1, lenV, calleeOf, lateOk, belowV, aop, AV.ofValue, AV.ofCell, AV.cells, AV.flat, AV.one, arep, aBin, aAppend, aConv]
    exact hQ _ _ (end_plain (.inl rfl) hbel (x := .bool false) (resT Tryz.results80) rfl ⟨by rw [vldB_neg (by omega)], rfl⟩)
  by_cases h4 : 64 < Hh
  · simp -implicitDefEqProofs (disch := omega) only [h1, h2, h3, h4, simprocAttr, amset, tyset, Function.comp_apply, one1, lenV, calleeOf, lateOk, belowV, aop, AV.ofValue, AV.ofCell, AV.cells, AV.flat, AV.one, arep, aBin, aAppend, aConv]
    exact hQ _ _ (end_plain (.inl rfl) hbel (x := .bool false) (resT Tryz.results80) rfl ⟨by rw [vldB_neg (by omega)], rfl⟩)
  have hm := mul_le_64 (a := W) (b := Hh) (by omega) (by omega) (by omega) (by omega)
  have hm1 := Int.mul_le_mul (a := 1) (b := 1) (c := W) (d := Hh) (by omega) (by omega) (by omega) (by omega)
  by_cases h5 : (xs.length : Int) = W * Hh
  · have h5' : ((xs.length : Int) != W * Hh) = false := by simp [h5]
    obtain ⟨b, own, cap, e1, hb⟩ := hs.resolve_left (fun h => by rw [h.1] at h5; simp at h5; omega)
    injection e1 with e1 _ e1'; subst e1 e1'
    have hb0 := fun l => get_app (l := l) hb
    have hbl := getElem?_lt hb
    simp -implicitDefEqProofs (disch := omega) only [h1, h2, h3, h4, h5', simprocAttr, amset, tyset, Function.comp_apply, one1, lenV, calleeOf, lateOk, belowV, aop, AV.ofValue, AV.ofCell, AV.cells, AV.flat, AV.one, arep, aBin, aAppend, aConv]
    refine go_loop try_mixed (by kernel_rfl) (fun k F Hx => ∃ (i : Nat), i + k = xs.length ∧ (∀ j, j < i → gi xs j ≤ 2) ∧ F = [(1, .ptr (some (H.length, 0))), (3, .int .i64 (i : Nat))] ∧ Hx = H ++ [.cells true 0 [.int .i64 W, .int .i64 Hh, .sl (some (b, 0)) xs.length c1]]) xs.length ?_ ?_
    · refine ⟨_, _, _, ⟨0, by omega, fun j hj => absurd hj (Nat.not_lt_zero j), rfl, rfl⟩, Abs.by hbel [0] (by decide) ?_⟩
      exact absT
    · rintro k F Hx ⟨i, hik, hle, rfl, rfl⟩ J hJ
      by_cases hi : i < xs.length
      · have hii : (i : Int) < (xs.length : Int) := by omega
        have hg := ints_get (k := .u8) (xs := xs) (j := i) hi
        by_cases h6 : 2 < gi xs i
        · simp -implicitDefEqProofs (disch := omega) only [hii, hb0, hg, h6, simprocAttr, amset, tyset, Function.comp_apply, one1, lenV, calleeOf, lateOk, belowV, aop, AV.ofValue, AV.ofCell, AV.cells, AV.flat, AV.one, arep, aBin, aAppend, aConv]
          repeat refine And.intro (by omega) ?_
          exact hQ _ _ (end_plain (.inl rfl) hbel (x := .bool false) (resT Tryz.results80) rfl ⟨by rw [vld_false.2 fun v => absurd (v.le _ (gi_mem hi)) (by omega)], rfl⟩)
        · simp -implicitDefEqProofs (disch := omega) only [hii, hb0, hg, h6, simprocAttr, amset, tyset, Function.comp_apply, one1, lenV, calleeOf, lateOk, belowV, aop, AV.ofValue, AV.ofCell, AV.cells, AV.flat, AV.one, arep, aBin, aAppend, aConv]
          repeat refine And.intro (by omega) ?_
          refine hJ _ _ ⟨k - 1, by omega, _, _, _, ⟨i + 1, by omega, fun j hj => ?_, rfl, rfl⟩, Abs.by hbel [0] (by decide) ?_⟩
          · by_cases hji : j = i
            · subst hji; omega
            · exact hle j (by omega)
          · exact absT
      · have hnn : ¬ ((i : Int) < (xs.length : Int)) := by omega
        simp -implicitDefEqProofs (disch := omega) only [hnn, simprocAttr, amset, tyset, Function.comp_apply, one1, lenV, calleeOf, lateOk, belowV, aop, AV.ofValue, AV.ofCell, AV.cells, AV.flat, AV.one, arep, aBin, aAppend, aConv]
        exact hQ _ _ (end_plain (.inl rfl) hbel (x := .bool true) (resT Tryz.results80) rfl ⟨by rw [vld_iff.2 ⟨by omega, by omega, by omega, by omega, h5, fun x hx => by
          obtain ⟨j, hj, rfl⟩ := List.getElem_of_mem hx
          rw [← gi_lt hj]; exact hle j (by omega)⟩], rfl⟩)
  · have h5' : ((xs.length : Int) != W * Hh) = true := by simp [h5]
    simp -implicitDefEqProofs (disch := omega) only [h1, h2, h3, h4, h5', simprocAttr, amset, tyset, Function.comp_apply, one1, lenV, calleeOf, lateOk, belowV, aop, AV.ofValue, AV.ofCell, AV.cells, AV.flat, AV.one, arep, aBin, aAppend, aConv]
    exact hQ _ _ (end_plain (.inl rfl) hbel (x := .bool false) (resT Tryz.results80) rfl ⟨by rw [vldB_neg (by omega)], rfl⟩)
end
set_option linter.unusedSimpArgs false
set_option linter.unusedVariables false
open Go.RowKit
section
variable {H : AHeap} {W Hh x y : Int} {s : AV} {xs : List Int} {g : Nat} {own : Bool} {cap : Option Nat} {n : Nat}
set_option maxRecDepth 100000 in
theorem rinside_c {a : Option (Nat × Nat)} : ACalls Tryz.prog 171 [.agg [.int .i64 W, .int .i64 Hh, .sl a n cap], .agg [.int .i64 x, .int .i64 y]] H (fun v H' => v = .bool (inB W Hh x y) ∧ H' = H) := by
  (refine ACalls_run try_mixed Tryz.func171 true _ rfl (Nat.le_of_ble_eq_true (by kernel_rfl)) (by kernel_rfl) ?_; intro hbel Q hQ hQ' c hc; unfold Tryz.f171 at hc; simp only [Option.some.injEq] at hc; subst hc; clear hQ')
  by_cases h1 : 0 ≤ x
  · by_cases h2 : x < W
    · by_cases h3 : 0 ≤ y
      · simp -implicitDefEqProofs (disch := omega) only [h1, h2, h3, simprocAttr, amset, tyset, Function.comp_apply, one1, lenV, calleeOf, lateOk, belowV, aop, AV.ofValue, AV.ofCell, AV.cells, AV.flat, AV.one, arep, aBin, aAppend, aConv]
        exact hQ _ _ (end_plain (.inl rfl) hbel (x := .bool (decide (y < Hh))) (resT Tryz.results171) rfl ⟨by simp [inB, h1, h2, h3], rfl⟩)
      · simp -implicitDefEqProofs (disch := omega) only [h1, h2, h3, simprocAttr, amset, tyset, Function.comp_apply, one1, lenV, calleeOf, lateOk, belowV, aop, AV.ofValue, AV.ofCell, AV.cells, AV.flat, AV.one, arep, aBin, aAppend, aConv]
        exact hQ _ _ (end_plain (.inl rfl) hbel (x := .bool false) (resT Tryz.results171) rfl ⟨by simp [inB, h1, h2, h3], rfl⟩)
    · simp -implicitDefEqProofs (disch := omega) only [h1, h2, simprocAttr, amset, tyset, Function.comp_apply, one1, lenV, calleeOf, lateOk, belowV, aop, AV.ofValue, AV.ofCell, AV.cells, AV.flat, AV.one, arep, aBin, aAppend, aConv]
      exact hQ _ _ (end_plain (.inl rfl) hbel (x := .bool false) (resT Tryz.results171) rfl ⟨by simp [inB, h1, h2], rfl⟩)
  · simp -implicitDefEqProofs (disch := omega) only [h1, simprocAttr, amset, tyset, Function.comp_apply, one1, lenV, calleeOf, lateOk, belowV, aop, AV.ofValue, AV.ofCell, AV.cells, AV.flat, AV.one, arep, aBin, aAppend, aConv]
    exact hQ _ _ (end_plain (.inl rfl) hbel (x := .bool false) (resT Tryz.results171) rfl ⟨by simp [inB, h1], rfl⟩)
set_option maxRecDepth 100000 in
theorem at_c (hV : Vld W Hh xs) (hg : H[g]? = some (.cells own 1 (ints .u8 xs))) (hn : n = xs.length) : ACalls Tryz.prog 145 [.agg [.int .i64 W, .int .i64 Hh, .sl (some (g, 0)) n cap], .agg [.int .i64 x, .int .i64 y]] H (fun r H' => r = .int .u8 (atI W Hh xs x y) ∧ H' = H) := by
  (refine ACalls_run try_mixed Tryz.func145 true _ rfl (Nat.le_of_ble_eq_true (by kernel_rfl)) (by kernel_rfl) ?_; intro hbel Q hQ hQ' c hc; unfold Tryz.f145 at hc; simp only [Option.some.injEq] at hc; subst hc; clear hQ')
  have hg0 := fun l => get_app (l := l) hg
  simp -implicitDefEqProofs (disch := omega) only [simprocAttr, amset, tyset, Function.comp_apply, one1, lenV, calleeOf, lateOk, belowV, aop, AV.ofValue, AV.ofCell, AV.cells, AV.flat, AV.one, arep, aBin, aAppend, aConv]
  refine call_v (by kernel_rfl) rinside_c ?_
  cases hi : inB W Hh x y
  · simp -implicitDefEqProofs (disch := omega) only [simprocAttr, amset, tyset, Function.comp_apply, one1, lenV, calleeOf, lateOk, belowV, aop, AV.ofValue, AV.ofCell, AV.cells, AV.flat, AV.one, arep, aBin, aAppend, aConv]
    exact hQ _ _ (end_plain (.inl rfl) hbel (x := .int .u8 2) (resT Tryz.results145) rfl ⟨by simp [atI, hi], rfl⟩)
  · obtain ⟨i1, i2, i3, i4, i5, -⟩ := hV.idx hi
    have hl := hV.len
    have hp := hV.pos
    have hgi := ints_get (k := .u8) (xs := xs) (j := (y * W + x).toNat) i5
    simp -implicitDefEqProofs (disch := omega) only [hg0, hgi, simprocAttr, amset, tyset, Function.comp_apply, one1, lenV, calleeOf, lateOk, belowV, aop, AV.ofValue, AV.ofCell, AV.cells, AV.flat, AV.one, arep, aBin, aAppend, aConv]
    repeat refine And.intro (by omega) ?_
    exact hQ _ _ (end_plain (.inl rfl) hbel (x := .int .u8 (gi xs (y * W + x).toNat)) (resT Tryz.results145) rfl ⟨by simp [atI, hi], rfl⟩)
end
set_option linter.unusedSimpArgs false
set_option linter.unusedVariables false
open Go.RowKit
set_option maxRecDepth 100000 in
theorem idx_int (H : AHeap) (s : AV) (l : List Int) (hs : Sl H 1 s l.length (ints .i64 l)) (hl : l.length ≤ 1000000000) (g : FuncId) (caps : List AV) (hok : okFn Tryz.prog g = true) (hc : AV.bels H.length caps = true) (p : Int → Bool) (hf : ∀ j, j < l.length → ACalls Tryz.prog g (.int .i64 (gi l j) :: caps) H (fun v H' => v = .bool (p (gi l j)) ∧ H' = H)) :
    ACalls Tryz.prog 174 [s, .fn g caps] H (fun v H' => v = .int .i64 (idxI p l) ∧ H' = H) := by
  obtain ⟨b, own, cap, rfl, hb⟩ := hs
  have hbl := getElem?_lt hb
  have hmv := fun m sel => mvs_caps (n := H.length) (m := m) (sel := sel) hc
  (refine ACalls_run try_mixed Tryz.func174 true _ rfl (Nat.le_of_ble_eq_true (by kernel_rfl)) (by kernel_rfl) ?_; intro hbel Q hQ hQ' c hc; unfold Tryz.f174 at hc; simp only [Option.some.injEq] at hc; subst hc; clear hQ')
  simp -implicitDefEqProofs (disch := omega) only [simprocAttr, amset, tyset, Function.comp_apply, one1, lenV, calleeOf, lateOk, belowV, aop, AV.ofValue, AV.ofCell, AV.cells, AV.flat, AV.one, arep, aBin, aAppend, aConv]
  refine go_loop try_mixed (by kernel_rfl) (fun k F Hx => ∃ i : Nat, i + k = l.length ∧ (l.take i).any p = false ∧ F = [(0, .sl (some (b, 0)) l.length none), (1, .fn g caps), (7, .int .i64 l.length), (8, .int .i64 (i : Nat))] ∧ Hx = H) l.length ?_ ?_
  · refine ⟨_, _, _, ⟨0, by omega, rfl, rfl, rfl⟩, Abs.by0 hbel ?_⟩
    exact absWf @hmv
  · rintro k F Hx ⟨i, hik, ht, rfl, rfl⟩ J hJ
    by_cases hi : i < l.length
    · have hii : (i : Int) < (l.length : Int) := by omega
      have q1 := ints_get (k := .i64) hi
      have hg := gi_eq hi
      simp -implicitDefEqProofs (disch := omega) only [hii, hb, q1, ints_len, ints_ones, simprocAttr, amset, tyset, Function.comp_apply, one1, lenV, calleeOf, lateOk, belowV, aop, AV.ofValue, AV.ofCell, AV.cells, AV.flat, AV.one, arep, aBin, aAppend, aConv]
      refine And.intro (by omega) ?_
      refine call_v hok (hf i hi) ?_
      have hst := any_step (p := p) hi
      rw [ht, Bool.false_or, ← hg] at hst
      cases h1 : p (gi l i)
      · rw [h1] at hst
        simp -implicitDefEqProofs (disch := omega) only [h1, simprocAttr, amset, tyset, Function.comp_apply, one1, lenV, calleeOf, lateOk, belowV, aop, AV.ofValue, AV.ofCell, AV.cells, AV.flat, AV.one, arep, aBin, aAppend, aConv]
        refine hJ _ _ ⟨k - 1, by omega, _, _, _, ⟨i + 1, by omega, hst, rfl, rfl⟩, Abs.by0 hbel ?_⟩
        exact absWf @hmv
      · simp -implicitDefEqProofs (disch := omega) only [h1, simprocAttr, amset, tyset, Function.comp_apply, one1, lenV, calleeOf, lateOk, belowV, aop, AV.ofValue, AV.ofCell, AV.cells, AV.flat, AV.one, arep, aBin, aAppend, aConv]
        exact hQ _ _ (end_plain0 (.inl rfl) hbel (x := .int .i64 (i : Nat)) (resT Tryz.results174) rfl ⟨by rw [idxI_at hi ht (by rw [← hg]; exact h1)], rfl⟩)
    · have hnn : ¬ ((i : Int) < (l.length : Int)) := by omega
      simp -implicitDefEqProofs (disch := omega) only [hnn, simprocAttr, amset, tyset, Function.comp_apply, one1, lenV, calleeOf, lateOk, belowV, aop, AV.ofValue, AV.ofCell, AV.cells, AV.flat, AV.one, arep, aBin, aAppend, aConv]
      rw [List.take_of_length_le (by omega)] at ht
      exact hQ _ _ (end_plain0 (.inl rfl) hbel (x := .int .i64 (-1)) (resT Tryz.results174) rfl ⟨by rw [idxI_none ht], rfl⟩)
theorem has_int (H : AHeap) (s : AV) (l : List Int) (hs : Sl H 1 s l.length (ints .i64 l)) (hl : l.length ≤ 1000000000) (g : FuncId) (caps : List AV) (hok : okFn Tryz.prog g = true) (hc : AV.bels H.length caps = true) (p : Int → Bool) (hf : ∀ j, j < l.length → ACalls Tryz.prog g (.int .i64 (gi l j) :: caps) H (fun v H' => v = .bool (p (gi l j)) ∧ H' = H)) :
    ACalls Tryz.prog 155 [s, .fn g caps] H (fun v H' => v = .bool (l.any p) ∧ H' = H) := by
  have key := idx_int H s l hs hl g caps hok hc p hf
  obtain ⟨b, own, cap, rfl, hb⟩ := hs
  have hbl := getElem?_lt hb
  (refine ACalls_run try_mixed Tryz.func155 true _ rfl (Nat.le_of_ble_eq_true (by kernel_rfl)) (by kernel_rfl) ?_; intro hbel Q hQ hQ' c hc; unfold Tryz.f155 at hc; simp only [Option.some.injEq] at hc; subst hc; clear hQ')
  simp -implicitDefEqProofs (disch := omega) only [simprocAttr, amset, tyset, Function.comp_apply, one1, lenV, calleeOf, lateOk, belowV, aop, AV.ofValue, AV.ofCell, AV.cells, AV.flat, AV.one, arep, aBin, aAppend, aConv]
  refine call_v (by kernel_rfl) key ?_
  simp -implicitDefEqProofs (disch := omega) only [simprocAttr, amset, tyset, Function.comp_apply, one1, lenV, calleeOf, lateOk, belowV, aop, AV.ofValue, AV.ofCell, AV.cells, AV.flat, AV.one, arep, aBin, aAppend, aConv]
  exact hQ _ _ (end_plain0 (.inl rfl) hbel (x := .bool (decide (0 ≤ idxI p l))) (resT Tryz.results155) rfl ⟨by rw [idxI_any], rfl⟩)
open Go.RowKit
set_option maxRecDepth 100000 in
theorem idx_box (H : AHeap) (s : AV) (l : List T6) (hs : Sl H 6 s l.length (r6 l)) (hl : l.length ≤ 1000000000) (g : FuncId) (caps : List AV) (hok : okFn Tryz.prog g = true) (hc : AV.bels H.length caps = true) (p : T6 → Bool) (hf : ∀ j, j < l.length → ACalls Tryz.prog g (.agg [.int .i64 (g61 l j), .int .i64 (g62 l j), .int .i64 (g63 l j), .int .i64 (g64 l j), .int .i64 (g65 l j), .int .i64 (g66 l j)] :: caps) H (fun v H' => v = .bool (p (g61 l j, g62 l j, g63 l j, g64 l j, g65 l j, g66 l j)) ∧ H' = H)) :
    ACalls Tryz.prog 168 [s, .fn g caps] H (fun v H' => v = .int .i64 (idxI p l) ∧ H' = H) := by
  obtain ⟨b, own, cap, rfl, hb⟩ := hs
  have hbl := getElem?_lt hb
  have hmv := fun m sel => mvs_caps (n := H.length) (m := m) (sel := sel) hc
  (refine ACalls_run try_mixed Tryz.func168 true _ rfl (Nat.le_of_ble_eq_true (by kernel_rfl)) (by kernel_rfl) ?_; intro hbel Q hQ hQ' c hc; unfold Tryz.f168 at hc; simp only [Option.some.injEq] at hc; subst hc; clear hQ')
  simp -implicitDefEqProofs (disch := omega) only [simprocAttr, amset, tyset, Function.comp_apply, one1, lenV, calleeOf, lateOk, belowV, aop, AV.ofValue, AV.ofCell, AV.cells, AV.flat, AV.one, arep, aBin, aAppend, aConv]
  refine go_loop try_mixed (by kernel_rfl) (fun k F Hx => ∃ i : Nat, i + k = l.length ∧ (l.take i).any p = false ∧ F = [(0, .sl (some (b, 0)) l.length none), (1, .fn g caps), (7, .int .i64 l.length), (8, .int .i64 (i : Nat))] ∧ Hx = H) l.length ?_ ?_
  · refine ⟨_, _, _, ⟨0, by omega, rfl, rfl, rfl⟩, Abs.by0 hbel ?_⟩
    exact absWf @hmv
  · rintro k F Hx ⟨i, hik, ht, rfl, rfl⟩ J hJ
    by_cases hi : i < l.length
    · have hii : (i : Int) < (l.length : Int) := by omega
      have q1 := r6_load hi
      have hg := g6_eq hi
      simp -implicitDefEqProofs (disch := omega) only [hii, hb, q1, r6_len, r6_one, simprocAttr, amset, tyset, Function.comp_apply, one1, lenV, calleeOf, lateOk, belowV, aop, AV.ofValue, AV.ofCell, AV.cells, AV.flat, AV.one, arep, aBin, aAppend, aConv]
      iterate 2 refine And.intro (by omega) ?_
      refine call_v hok (hf i hi) ?_
      have hst := any_step (p := p) hi
      rw [ht, Bool.false_or, ← hg] at hst
      cases h1 : p (g61 l i, g62 l i, g63 l i, g64 l i, g65 l i, g66 l i)
      · rw [h1] at hst
        simp -implicitDefEqProofs (disch := omega) only [h1, simprocAttr, amset, tyset, Function.comp_apply, one1, lenV, calleeOf, lateOk, belowV, aop, AV.ofValue, AV.ofCell, AV.cells, AV.flat, AV.one, arep, aBin, aAppend, aConv]
        refine hJ _ _ ⟨k - 1, by omega, _, _, _, ⟨i + 1, by omega, hst, rfl, rfl⟩, Abs.by0 hbel ?_⟩
        exact absWf @hmv
      · simp -implicitDefEqProofs (disch := omega) only [h1, simprocAttr, amset, tyset, Function.comp_apply, one1, lenV, calleeOf, lateOk, belowV, aop, AV.ofValue, AV.ofCell, AV.cells, AV.flat, AV.one, arep, aBin, aAppend, aConv]
        exact hQ _ _ (end_plain0 (.inl rfl) hbel (x := .int .i64 (i : Nat)) (resT Tryz.results168) rfl ⟨by rw [idxI_at hi ht (by rw [← hg]; exact h1)], rfl⟩)
    · have hnn : ¬ ((i : Int) < (l.length : Int)) := by omega
      simp -implicitDefEqProofs (disch := omega) only [hnn, simprocAttr, amset, tyset, Function.comp_apply, one1, lenV, calleeOf, lateOk, belowV, aop, AV.ofValue, AV.ofCell, AV.cells, AV.flat, AV.one, arep, aBin, aAppend, aConv]
      rw [List.take_of_length_le (by omega)] at ht
      exact hQ _ _ (end_plain0 (.inl rfl) hbel (x := .int .i64 (-1)) (resT Tryz.results168) rfl ⟨by rw [idxI_none ht], rfl⟩)
theorem has_box (H : AHeap) (s : AV) (l : List T6) (hs : Sl H 6 s l.length (r6 l)) (hl : l.length ≤ 1000000000) (g : FuncId) (caps : List AV) (hok : okFn Tryz.prog g = true) (hc : AV.bels H.length caps = true) (p : T6 → Bool) (hf : ∀ j, j < l.length → ACalls Tryz.prog g (.agg [.int .i64 (g61 l j), .int .i64 (g62 l j), .int .i64 (g63 l j), .int .i64 (g64 l j), .int .i64 (g65 l j), .int .i64 (g66 l j)] :: caps) H (fun v H' => v = .bool (p (g61 l j, g62 l j, g63 l j, g64 l j, g65 l j, g66 l j)) ∧ H' = H)) :
    ACalls Tryz.prog 135 [s, .fn g caps] H (fun v H' => v = .bool (l.any p) ∧ H' = H) := by
  have key := idx_box H s l hs hl g caps hok hc p hf
  obtain ⟨b, own, cap, rfl, hb⟩ := hs
  have hbl := getElem?_lt hb
  (refine ACalls_run try_mixed Tryz.func135 true _ rfl (Nat.le_of_ble_eq_true (by kernel_rfl)) (by kernel_rfl) ?_; intro hbel Q hQ hQ' c hc; unfold Tryz.f135 at hc; simp only [Option.some.injEq] at hc; subst hc; clear hQ')
  simp -implicitDefEqProofs (disch := omega) only [simprocAttr, amset, tyset, Function.comp_apply, one1, lenV, calleeOf, lateOk, belowV, aop, AV.ofValue, AV.ofCell, AV.cells, AV.flat, AV.one, arep, aBin, aAppend, aConv]
  refine call_v (by kernel_rfl) key ?_
  simp -implicitDefEqProofs (disch := omega) only [simprocAttr, amset, tyset, Function.comp_apply, one1, lenV, calleeOf, lateOk, belowV, aop, AV.ofValue, AV.ofCell, AV.cells, AV.flat, AV.one, arep, aBin, aAppend, aConv]
  exact hQ _ _ (end_plain0 (.inl rfl) hbel (x := .bool (decide (0 ≤ idxI p l))) (resT Tryz.results135) rfl ⟨by rw [idxI_any], rfl⟩)
open Go.RowKit
set_option maxHeartbeats 4000000
set_option maxRecDepth 100000
theorem small1_c (H : AHeap) (n : Int) : ACalls Tryz.prog 180 [.int .i64 n] H (fun v H' => v = .bool (offB n) ∧ H' = H) := by
  refine AcT true Tryz.func180 ?_; intro hbel Q hQ
  refine runT ?_
  refine gd_split (fun h1 => ?_) (fun h1 => ?_)
  · have h1d := bsT h1
    have g'1 := (jn @h1 @h1d)
    refine runTf g'1 ?_
    exact hQ _ _ (end_plain0 (.inl rfl) hbel (x := .bool (decide (1048576 < n))) (resT Tryz.results180) rfl ⟨by simp [offB, h1d], rfl⟩)
  · have h1d := bsT h1
    have g'2 := (jn @h1 @h1d)
    refine runTf g'2 ?_
    exact hQ _ _ (end_plain0 (.inl rfl) hbel (x := .bool true) (resT Tryz.results180) rfl ⟨by simp [offB, h1d], rfl⟩)
theorem small_c (H : AHeap) (s : AV) (l : List Int) (hs : Sl H 1 s l.length (ints .i64 l)) (hl : l.length ≤ 1000000) : ACalls Tryz.prog 169 [s] H (fun v H' => v = .bool (!(l.any offB)) ∧ H' = H) := by
  obtain ⟨bs, os, cs, rfl, hbs⟩ := hs
  have hbls := getElem?_lt hbs
  have hb0s := fun l => get_app (l := l) hbs
  refine AcT true Tryz.func169 ?_; intro hbel Q hQ
  have g'3 := (jn @hbs @hb0s)
  refine runTf g'3 ?_
  refine call_v (by kernel_rfl) (has_int _ _ l ⟨_, _, _, rfl, by first | exact hb0s _ | exact hbs⟩ (by omega) _ [] (by kernel_rfl) rfl offB (fun j hj => small1_c _ _)) ?_
  refine runTf g'3 ?_
  exact hQ _ _ (end_plain0 (.inl rfl) hbel (x := .bool (!(l.any offB))) (resT Tryz.results169) rfl ⟨rfl, rfl⟩)
theorem varc_c (H : AHeap) (f : Int) (c : Int) : ACalls Tryz.prog 138 [.agg [.int .i64 f, .int .i64 c]] H (fun v H' => v = .bool (arcB f c) ∧ H' = H) := by
  refine AcT true Tryz.func138 ?_; intro hbel Q hQ
  refine runT ?_
  refine gd_split (fun h1 => ?_) (fun h1 => ?_)
  · have h1d := bsT h1
    have g'4 := (jn @h1 @h1d)
    refine runTf g'4 ?_
    refine gd_split (fun h2 => ?_) (fun h2 => ?_)
    · have h2d := bsT h2
      have g'5 := (jn @h2 (jn @h2d g'4))
      refine runTf g'5 ?_
      refine gd_split (fun h3 => ?_) (fun h3 => ?_)
      · have h3d := bsT h3
        have g'6 := (jn @h3 (jn @h3d g'5))
        refine runTf g'6 ?_
        refine gd_split (fun h4 => ?_) (fun h4 => ?_)
        · have h4d := bsT h4
          have g'7 := (jn @h4 (jn @h4d g'6))
          refine runTf g'7 ?_
          refine gd_split (fun h5 => ?_) (fun h5 => ?_)
          · have h5d := bsT h5
            have h5n := bnT h5
            have g'8 := (jn @h5 (jn @h5n (jn @int_bne (jn @int_beq g'7))))
            refine runTf g'8 ?_
            exact hQ _ _ (end_plain (.inl rfl) hbel (x := .bool (decide (c < 256))) (resT Tryz.results138) rfl ⟨by first | (simp [arcB, h1d, h2d, h3d, h4d, h5d]; done) | (simp [arcB, h1d, h2d, h3d, h4d, h5d]; omega), rfl⟩)
          · have h5d := bsT h5
            have h5n := bnT h5
            have g'9 := (jn @h5 (jn @h5n (jn @int_bne (jn @int_beq g'7))))
            refine runTf g'9 ?_
            exact hQ _ _ (end_plain (.inl rfl) hbel (x := .bool true) (resT Tryz.results138) rfl ⟨by first | (simp [arcB, h1d, h2d, h3d, h4d, h5d]; done) | (simp [arcB, h1d, h2d, h3d, h4d, h5d]; omega), rfl⟩)
        · have h4d := bsT h4
          have g'10 := (jn @h4 (jn @h4d g'6))
          refine runTf g'10 ?_
          exact hQ _ _ (end_plain (.inl rfl) hbel (x := .bool false) (resT Tryz.results138) rfl ⟨by first | (simp [arcB, h1d, h2d, h3d, h4d]; done) | (simp [arcB, h1d, h2d, h3d, h4d]; omega), rfl⟩)
      · have h3d := bsT h3
        have g'11 := (jn @h3 (jn @h3d g'5))
        refine runTf g'11 ?_
        exact hQ _ _ (end_plain (.inl rfl) hbel (x := .bool false) (resT Tryz.results138) rfl ⟨by first | (simp [arcB, h1d, h2d, h3d]; done) | (simp [arcB, h1d, h2d, h3d]; omega), rfl⟩)
    · have h2d := bsT h2
      have g'12 := (jn @h2 (jn @h2d g'4))
      refine runTf g'12 ?_
      exact hQ _ _ (end_plain (.inl rfl) hbel (x := .bool false) (resT Tryz.results138) rfl ⟨by first | (simp [arcB, h1d, h2d]; done) | (simp [arcB, h1d, h2d]; omega), rfl⟩)
  · have h1d := bsT h1
    have g'13 := (jn @h1 @h1d)
    refine runTf g'13 ?_
    exact hQ _ _ (end_plain (.inl rfl) hbel (x := .bool false) (resT Tryz.results138) rfl ⟨by first | (simp [arcB, h1d]; done) | (simp [arcB, h1d]; omega), rfl⟩)
theorem xarc_c (H : AHeap) (x0 : Int) (y0 : Int) (x1 : Int) (y1 : Int) (f : Int) (c : Int) : ACalls Tryz.prog 151 [.agg [.int .i64 x0, .int .i64 y0, .int .i64 x1, .int .i64 y1, .int .i64 f, .int .i64 c]] H (fun v H' => v = .agg [.int .i64 f, .int .i64 c] ∧ H' = H) := by
  refine AcT true Tryz.func151 ?_; intro hbel Q hQ
  refine runT ?_
  exact hQ _ _ (end_plain (.inl rfl) hbel (x := .agg [.int .i64 f, .int .i64 c]) (resT Tryz.results151) rfl ⟨rfl, rfl⟩)
theorem bxv_c (H : AHeap) (x0 : Int) (y0 : Int) (x1 : Int) (y1 : Int) (f : Int) (c : Int) : ACalls Tryz.prog 137 [.agg [.int .i64 x0, .int .i64 y0, .int .i64 x1, .int .i64 y1, .int .i64 f, .int .i64 c]] H (fun v H' => v = .bool (bxB x0 y0 x1 y1 f c) ∧ H' = H) := by
  refine AcT true Tryz.func137 ?_; intro hbel Q hQ
  refine runT ?_
  refine gd_split (fun h1 => ?_) (fun h1 => ?_)
  · have h1d := bsT h1
    have g'24 := (jn @h1 @h1d)
    refine runTf g'24 ?_
    refine gd_split (fun h2 => ?_) (fun h2 => ?_)
    · have h2d := bsT h2
      have g'25 := (jn @h2 (jn @h2d g'24))
      refine runTf g'25 ?_
      refine call_v (by kernel_rfl) (small_c _ _ [x0, y0, x1, y1] ⟨_, _, _, by first | rfl | (rw [List.length_append]; done) | (rw [List.length_append]; rfl), by first | rfl | (rw [get_newk]; rfl) | (rw [get_new0]; rfl) | (rw [get_newk, prs_append]; rfl) | (rw [get_new0, prs_append]; rfl)⟩ (by first | decide | omega | simp)) ?_
      refine runTf g'25 ?_
      refine gd_split (fun h3 => ?_) (fun h3 => ?_)
      · have h3d := bsT h3
        have g'26 := (jn @h3 (jn @h3d g'25))
        refine runTf g'26 ?_
        refine call_v (by kernel_rfl) (xarc_c _ x0 y0 x1 y1 f c) ?_
        refine runTf g'26 ?_
        refine call_v (by kernel_rfl) (varc_c _ f c) ?_
        refine runTf g'26 ?_
        exact hQ _ _ (end_plain (.inl rfl) hbel (x := .bool (arcB f c)) (resT Tryz.results137) rfl ⟨by first | (simp [bxB, h1d, h2d, h3d]; done) | (unfold bxB; simp only [h1d, h2d, h3d]; rfl), rfl⟩)
      · have h3d := bsT h3
        have g'27 := (jn @h3 (jn @h3d g'25))
        refine runTf g'27 ?_
        exact hQ _ _ (end_plain (.inl rfl) hbel (x := .bool false) (resT Tryz.results137) rfl ⟨by first | (simp [bxB, h1d, h2d, h3d]; done) | (unfold bxB; simp only [h1d, h2d, h3d]; rfl), rfl⟩)
    · have h2d := bsT h2
      have g'28 := (jn @h2 (jn @h2d g'24))
      refine runTf g'28 ?_
      exact hQ _ _ (end_plain (.inl rfl) hbel (x := .bool false) (resT Tryz.results137) rfl ⟨by first | (simp [bxB, h1d, h2d]; done) | (unfold bxB; simp only [h1d, h2d]; rfl), rfl⟩)
  · have h1d := bsT h1
    have g'29 := (jn @h1 @h1d)
    refine runTf g'29 ?_
    exact hQ _ _ (end_plain (.inl rfl) hbel (x := .bool false) (resT Tryz.results137) rfl ⟨by first | (simp [bxB, h1d]; done) | (unfold bxB; simp only [h1d]; rfl), rfl⟩)
theorem vset1_c (H : AHeap) (x0 : Int) (y0 : Int) (x1 : Int) (y1 : Int) (f : Int) (c : Int) : ACalls Tryz.prog 136 [.agg [.int .i64 x0, .int .i64 y0, .int .i64 x1, .int .i64 y1, .int .i64 f, .int .i64 c]] H (fun v H' => v = .bool (!(bxB x0 y0 x1 y1 f c)) ∧ H' = H) := by
  refine AcT true Tryz.func136 ?_; intro hbel Q hQ
  refine runT ?_
  refine call_v (by kernel_rfl) (bxv_c _ x0 y0 x1 y1 f c) ?_
  refine runT ?_
  exact hQ _ _ (end_plain (.inl rfl) hbel (x := .bool (!(bxB x0 y0 x1 y1 f c))) (resT Tryz.results136) rfl ⟨rfl, rfl⟩)
theorem vset_c (H : AHeap) (s : AV) (l : List T6) (hs : Sl H 6 s l.length (r6 l)) (hl : l.length ≤ 1000000000) : ACalls Tryz.prog 74 [s] H (fun v H' => v = .bool (setB l) ∧ H' = H) := by
  obtain ⟨bs, os, cs, rfl, hbs⟩ := hs
  have hbls := getElem?_lt hbs
  have hb0s := fun l => get_app (l := l) hbs
  refine AcT true Tryz.func74 ?_; intro hbel Q hQ
  have g'42 := (jn @hbs @hb0s)
  refine runTf g'42 ?_
  refine gd_split (fun h1 => ?_) (fun h1 => ?_)
  · have h1d := bsT h1
    have g'43 := (jn @h1 (jn @h1d g'42))
    refine runTf g'43 ?_
    refine call_v (by kernel_rfl) (has_box _ _ l ⟨_, _, _, rfl, by first | exact hb0s _ | exact hbs⟩ (by omega) _ [] (by kernel_rfl) rfl (fun b => !boxB b) (fun j hj => vset1_c _ _ _ _ _ _ _)) ?_
    refine runTf g'43 ?_
    exact hQ _ _ (end_plain0 (.inl rfl) hbel (x := .bool (!(l.any (fun b => !boxB b)))) (resT Tryz.results74) rfl ⟨by first | (simp [setB, h1d]; done) | (unfold setB; simp only [h1]; rfl), rfl⟩)
  · have h1d := bsT h1
    have g'44 := (jn @h1 (jn @h1d g'42))
    refine runTf g'44 ?_
    exact hQ _ _ (end_plain0 (.inl rfl) hbel (x := .bool false) (resT Tryz.results74) rfl ⟨by first | (simp [setB, h1d]; done) | (unfold setB; simp only [h1]; rfl), rfl⟩)
open Go.RowKit
theorem pinside_c (H : AHeap) (W : Int) (Hh : Int) (pp : AV) (xs : List Int) (x : Int) (y : Int) (hpp : Sl H 1 pp xs.length (ints .u8 xs)) : ACalls Tryz.prog 170 [.agg [.int .i64 W, .int .i64 Hh, pp], .agg [.int .i64 x, .int .i64 y]] H (fun v H' => v = .bool (inB W Hh x y) ∧ H' = H) := by
  obtain ⟨bpp, opp, cpp, rfl, hbpp⟩ := hpp
  have hblpp := getElem?_lt hbpp
  have hb0pp := fun l => get_app (l := l) hbpp
  refine AcT true Tryz.func170 ?_; intro hbel Q hQ
  have g'1 := (jn @hbpp @hb0pp)
  refine runTf g'1 ?_
  refine gd_split (fun h1 => ?_) (fun h1 => ?_)
  · have h1d := bsT h1
    have g'2 := (jn @h1 (jn @h1d g'1))
    refine runTf g'2 ?_
    refine gd_split (fun h2 => ?_) (fun h2 => ?_)
    · have h2d := bsT h2
      have g'3 := (jn @h2 (jn @h2d g'2))
      refine runTf g'3 ?_
      refine gd_split (fun h3 => ?_) (fun h3 => ?_)
      · have h3d := bsT h3
        have g'4 := (jn @h3 (jn @h3d g'3))
        refine runTf g'4 ?_
        exact hQ _ _ (end_plain (.inl rfl) hbel (x := .bool (decide (y < Hh))) (resT Tryz.results170) rfl ⟨by first | (simp [inB, h1d, h2d, h3d]; done) | (simp [inB, h1d, h2d, h3d]; omega), rfl⟩)
      · have h3d := bsT h3
        have g'5 := (jn @h3 (jn @h3d g'3))
        refine runTf g'5 ?_
        exact hQ _ _ (end_plain (.inl rfl) hbel (x := .bool false) (resT Tryz.results170) rfl ⟨by first | (simp [inB, h1d, h2d, h3d]; done) | (simp [inB, h1d, h2d, h3d]; omega), rfl⟩)
    · have h2d := bsT h2
      have g'6 := (jn @h2 (jn @h2d g'2))
      refine runTf g'6 ?_
      exact hQ _ _ (end_plain (.inl rfl) hbel (x := .bool false) (resT Tryz.results170) rfl ⟨by first | (simp [inB, h1d, h2d]; done) | (simp [inB, h1d, h2d]; omega), rfl⟩)
  · have h1d := bsT h1
    have g'7 := (jn @h1 (jn @h1d g'1))
    refine runTf g'7 ?_
    exact hQ _ _ (end_plain (.inl rfl) hbel (x := .bool false) (resT Tryz.results170) rfl ⟨by first | (simp [inB, h1d]; done) | (simp [inB, h1d]; omega), rfl⟩)
theorem pat_c (H : AHeap) (W : Int) (Hh : Int) (pp : AV) (xs : List Int) (x : Int) (y : Int) (hpp : Sl H 1 pp xs.length (ints .u8 xs)) (hV : vldB W Hh xs = true) : ACalls Tryz.prog 142 [.agg [.int .i64 W, .int .i64 Hh, pp], .agg [.int .i64 x, .int .i64 y]] H (fun v H' => v = .int .u8 (atI W Hh xs x y) ∧ H' = H) := by
  obtain ⟨bpp, opp, cpp, rfl, hbpp⟩ := hpp
  have hblpp := getElem?_lt hbpp
  have hb0pp := fun l => get_app (l := l) hbpp
  have hVl := vld_iff.1 hV
  have hll := hVl.len
  have hpp2 := hVl.pos
  refine AcT true Tryz.func142 ?_; intro hbel Q hQ
  have g'8 := (jn @hbpp (jn @hb0pp @hV))
  refine runTf g'8 ?_
  refine call_v (by kernel_rfl) (valid_a _ W Hh _ xs (.inr ⟨_, _, _, rfl, by first | exact hb0pp _ | exact hbpp⟩)) ?_
  refine runTf g'8 ?_
  refine call_v (by kernel_rfl) (pinside_c _ W Hh _ xs x y ⟨_, _, _, rfl, by first | exact hb0pp _ | exact hbpp⟩) ?_
  refine runTf g'8 ?_
  refine cond_split (fun h1 => ?_) (fun h1 => ?_)
  · have h1d := bsT h1
    have g'9 := (jn @h1 (jn @h1d g'8))
    refine runTf g'9 ?_
    exact hQ _ _ (end_plain (.inl rfl) hbel (x := .int .u8 2) (resT Tryz.results142) rfl ⟨by simp [atI, h1d], rfl⟩)
  · have h1d := bsT h1
    have hin := h1d
    obtain ⟨i1, i2, i3, i4, i5, -⟩ := hVl.idx hin
    have q2 := ints_get (k := .u8) (xs := xs) (j := ((y * W) + x).toNat) (by omega)
    have g'10 := (jn @h1 (jn @h1d (jn @q2 g'8)))
    refine runTf g'10 ?_
    exact hQ _ _ (end_plain (.inl rfl) hbel (x := .int .u8 (gi xs (((y * W) + x).toNat))) (resT Tryz.results142) rfl ⟨by simp [atI, h1d], rfl⟩)
theorem unh1_c (H : AHeap) (c1 : Int) (c2 : Int) (W : Int) (Hh : Int) (pp : AV) (xs : List Int) (bz : Nat) (hpp : Sl H 1 pp xs.length (ints .u8 xs)) (hz : ∃ o, H[bz]? = some (.cells o 0 [.int .i64 W, .int .i64 Hh, pp])) (hV : vldB W Hh xs = true) : ACalls Tryz.prog 141 [.agg [.int .i64 c1, .int .i64 c2], .ptr (some (bz, 0))] H (fun v H' => v = .bool ((atI W Hh xs c1 c2) != 1) ∧ H' = H) := by
  obtain ⟨bpp, opp, cpp, rfl, hbpp⟩ := hpp
  have hblpp := getElem?_lt hbpp
  have hb0pp := fun l => get_app (l := l) hbpp
  obtain ⟨oz, hbz⟩ := hz
  have hblz := getElem?_lt hbz
  have hb0z := fun l => get_app (l := l) hbz
  refine AcT true Tryz.func141 ?_; intro hbel Q hQ
  have g'11 := (jn @hbpp (jn @hb0pp (jn @hbz @hb0z)))
  refine runTf g'11 ?_
  refine call_v (by kernel_rfl) (pat_c _ W Hh _ xs c1 c2 ⟨_, _, _, rfl, by first | exact hb0pp _ | exact hbpp⟩ hV) ?_
  refine runTf g'11 ?_
  exact hQ _ _ (end_plain (.inl rfl) hbel (x := .bool ((atI W Hh xs c1 c2) != 1)) (resT Tryz.results141) rfl ⟨rfl, rfl⟩)
open Go.RowKit
theorem pwithin_c (H : AHeap) (x : Int) (m : Int) (h : 0 ≤ m ∧ m ≤ 4611686018427387904) : ACalls Tryz.prog 179 [.int .i64 x, .int .i64 m] H (fun v H' => v = .bool (within x m) ∧ H' = H) := by
  refine AcT true Tryz.func179 ?_; intro hbel Q hQ
  refine runT ?_
  refine gd_split (fun h1 => ?_) (fun h1 => ?_)
  · have h1d := bsT h1
    have g'1 := (jn @h1 @h1d)
    refine runTf g'1 ?_
    exact hQ _ _ (end_plain0 (.inl rfl) hbel (x := .bool (decide (x ≤ m))) (resT Tryz.results179) rfl ⟨by first | (simp [within, h1d]; done) | (simp [within, h1d]; omega), rfl⟩)
  · have h1d := bsT h1
    have g'2 := (jn @h1 @h1d)
    refine runTf g'2 ?_
    exact hQ _ _ (end_plain0 (.inl rfl) hbel (x := .bool false) (resT Tryz.results179) rfl ⟨by first | (simp [within, h1d]; done) | (simp [within, h1d]; omega), rfl⟩)
theorem pvpt_c (H : AHeap) (x : Int) (y : Int) : ACalls Tryz.prog 165 [.agg [.int .i64 x, .int .i64 y]] H (fun v H' => v = .bool (ptB x y) ∧ H' = H) := by
  refine AcT true Tryz.func165 ?_; intro hbel Q hQ
  refine runT ?_
  refine call_v (by kernel_rfl) (pwithin_c _ x 1048576 (by decide)) ?_
  refine runT ?_
  refine gd_split (fun h1 => ?_) (fun h1 => ?_)
  · have h1d := bsT h1
    have g'3 := (jn @h1 @h1d)
    refine runTf g'3 ?_
    refine call_v (by kernel_rfl) (pwithin_c _ y 1048576 (by decide)) ?_
    refine runTf g'3 ?_
    exact hQ _ _ (end_plain (.inl rfl) hbel (x := .bool (within y 1048576)) (resT Tryz.results165) rfl ⟨by simp [ptB, h1d], rfl⟩)
  · have h1d := bsT h1
    have g'4 := (jn @h1 @h1d)
    refine runTf g'4 ?_
    exact hQ _ _ (end_plain (.inl rfl) hbel (x := .bool false) (resT Tryz.results165) rfl ⟨by simp [ptB, h1d], rfl⟩)
theorem pvrc_c (H : AHeap) (x0 : Int) (y0 : Int) (x1 : Int) (y1 : Int) : ACalls Tryz.prog 121 [.agg [.int .i64 x0, .int .i64 y0, .int .i64 x1, .int .i64 y1]] H (fun v H' => v = .bool (rctB x0 y0 x1 y1) ∧ H' = H) := by
  refine AcT true Tryz.func121 ?_; intro hbel Q hQ
  refine runT ?_
  refine gd_split (fun h1 => ?_) (fun h1 => ?_)
  · have h1d := bsT h1
    have g'5 := (jn @h1 @h1d)
    refine runTf g'5 ?_
    refine gd_split (fun h2 => ?_) (fun h2 => ?_)
    · have h2d := bsT h2
      have g'6 := (jn @h2 (jn @h2d g'5))
      refine runTf g'6 ?_
      refine call_v (by kernel_rfl) (pvpt_c _ x0 y0) ?_
      refine runTf g'6 ?_
      refine gd_split (fun h3 => ?_) (fun h3 => ?_)
      · have h3d := bsT h3
        have g'7 := (jn @h3 (jn @h3d g'6))
        refine runTf g'7 ?_
        refine call_v (by kernel_rfl) (pvpt_c _ x1 y1) ?_
        refine runTf g'7 ?_
        exact hQ _ _ (end_plain (.inl rfl) hbel (x := .bool (ptB x1 y1)) (resT Tryz.results121) rfl ⟨by simp [rctB, h1d, h2d, h3d], rfl⟩)
      · have h3d := bsT h3
        have g'8 := (jn @h3 (jn @h3d g'6))
        refine runTf g'8 ?_
        exact hQ _ _ (end_plain (.inl rfl) hbel (x := .bool false) (resT Tryz.results121) rfl ⟨by simp [rctB, h1d, h2d, h3d], rfl⟩)
    · have h2d := bsT h2
      have g'9 := (jn @h2 (jn @h2d g'5))
      refine runTf g'9 ?_
      exact hQ _ _ (end_plain (.inl rfl) hbel (x := .bool false) (resT Tryz.results121) rfl ⟨by simp [rctB, h1d, h2d], rfl⟩)
  · have h1d := bsT h1
    have g'10 := (jn @h1 @h1d)
    refine runTf g'10 ?_
    exact hQ _ _ (end_plain (.inl rfl) hbel (x := .bool false) (resT Tryz.results121) rfl ⟨by simp [rctB, h1d], rfl⟩)
theorem span_c (H : AHeap) (a : Int) (b : Int) (kba : -2097152 ≤ a ∧ a ≤ 2097152) (kbb : -2097152 ≤ b ∧ b ≤ 2097152) : ACalls Tryz.prog 122 [.int .i64 a, .int .i64 b] H (fun v H' => v = .tup [.int .i64 (spl a), .int .i64 (sph b)] ∧ H' = H) := by
  refine AcT true Tryz.func122 ?_; intro hbel Q hQ
  refine runT ?_
  refine call_v (by kernel_rfl) (pdown_c _ (0 - a) 64 (by omega) (by omega)) ?_
  refine runT ?_
  refine call_v (by kernel_rfl) (pdown_c _ b 64 (by omega) (by omega)) ?_
  refine runT ?_
  exact hQ _ _ (end_plain0 (.inl rfl) hbel (x := .tup [.int .i64 ((0 - ((0 - a) / 64)) - 1), .int .i64 (b / 64)]) (resT Tryz.results122) rfl ⟨rfl, rfl⟩)
theorem bsquare_c (H : AHeap) (x : Int) (y : Int) (kbx : -2097152 ≤ x ∧ x ≤ 2097152) (kby : -2097152 ≤ y ∧ y ≤ 2097152) : ACalls Tryz.prog 32 [.agg [.int .i64 x, .int .i64 y]] H (fun v H' => v = .agg [.int .i64 (x * 64), .int .i64 (y * 64), .int .i64 (x * 64 + 64), .int .i64 (y * 64 + 64)] ∧ H' = H) := by
  refine AcT true Tryz.func32 ?_; intro hbel Q hQ
  refine runT ?_
  exact hQ _ _ (end_plain (.inl rfl) hbel (x := .agg [.int .i64 (x * 64), .int .i64 (y * 64), .int .i64 ((x * 64) + 64), .int .i64 ((y * 64) + 64)]) (resT Tryz.results32) rfl ⟨rfl, rfl⟩)
theorem cells_c (H : AHeap) (x0 : Int) (y0 : Int) (x1 : Int) (y1 : Int) : ACalls Tryz.prog 65 [.agg [.int .i64 x0, .int .i64 y0, .int .i64 x1, .int .i64 y1]] H (fun v H' => v = .tup [.sl (some (H.length, 0)) ((cellsR x0 y0 x1 y1).length) (capG (cellsR x0 y0 x1 y1).length), .int .i64 (cellsE x0 y0 x1 y1)] ∧ H' = H ++ [.cells (ownG (cellsR x0 y0 x1 y1).length) 2 (prs (cellsR x0 y0 x1 y1))]) := by
  refine AcT true Tryz.func65 ?_; intro hbel Q hQ
  refine runT ?_
  refine call_v (by kernel_rfl) (pvrc_c _ x0 y0 x1 y1) ?_
  refine runT ?_
  refine cond_split (fun h1 => ?_) (fun h1 => ?_)
  · have h1d := bsT h1
    have hfinE : cellsE x0 y0 x1 y1 = 1 := if_neg (by simp [h1d])
    have hfinR : cellsR x0 y0 x1 y1 = [] := if_neg (by rw [hfinE]; decide)
    have g'27 := (jn @h1 @h1d)
    refine runTf g'27 ?_
    refine hQ _ _ (end_byG (.inl rfl) hbel (x1 := .tup [.sl none 0 (some 0), .int .i64 1]) (l2 := [.cells false 2 []]) (.tup [.sl (some (H.length, 0)) 0 (some 0), .int .i64 1]) (resT Tryz.results65) [.cells false 2 []] rfl [1] (by decide) ⟨by first | (rw [hfinR, hfinE]; done) | (rw [hfinR, hfinE]; rfl) | (rw [hfinR]; done) | (rw [hfinR]; rfl), by first | (rw [hfinR, hfinE]; done) | (rw [hfinR, hfinE]; rfl) | (rw [hfinR]; done) | (rw [hfinR]; rfl)⟩ ?_)
    exact absW
  · have h1d := bsT h1
    have hok := h1d
    have hrc := rctB_iff.1 h1d
    have hc1 := cel_bd hrc.1
    have hc2 := cel_bd hrc.2
    have hmm := mul_bd (a := sph x1 - spl x0 + 1) (b := sph y1 - spl y0 + 1) (A := 65536) (B := 65536) (by omega) (by omega)
    have g'28 := (jn @h1 @h1d)
    refine runTf g'28 ?_
    refine call_v (by kernel_rfl) (span_c _ x0 x1 (by omega) (by omega)) ?_
    refine runTf g'28 ?_
    refine call_v (by kernel_rfl) (span_c _ y0 y1 (by omega) (by omega)) ?_
    refine runTf g'28 ?_
    refine cond_split (fun h2 => ?_) (fun h2 => ?_)
    · have h2d := bsT h2
      have hfinE : cellsE x0 y0 x1 y1 = 6 := by unfold cellsE; rw [if_pos hok, if_pos h2d]
      have hfinR : cellsR x0 y0 x1 y1 = [] := if_neg (by rw [hfinE]; decide)
      have g'29 := (jn @h2 (jn @h2d g'28))
      refine runTf g'29 ?_
      refine hQ _ _ (end_byG (.inl rfl) hbel (x1 := .tup [.sl none 0 (some 0), .int .i64 6]) (l2 := [.cells false 2 []]) (.tup [.sl (some (H.length, 0)) 0 (some 0), .int .i64 6]) (resT Tryz.results65) [.cells false 2 []] rfl [1] (by decide) ⟨by first | (rw [hfinR, hfinE]; done) | (rw [hfinR, hfinE]; rfl) | (rw [hfinR]; done) | (rw [hfinR]; rfl), by first | (rw [hfinR, hfinE]; done) | (rw [hfinR, hfinE]; rfl) | (rw [hfinR]; done) | (rw [hfinR]; rfl)⟩ ?_)
      exact absW
    · have h2d := bsT h2
      have hfinE : cellsE x0 y0 x1 y1 = 0 := by unfold cellsE; rw [if_pos hok, if_neg (by omega)]
      have hfinR : cellsR x0 y0 x1 y1 = cellsG x0 y0 x1 y1 := if_pos hfinE
      have g'30 := (jn @h2 (jn @h2d g'28))
      refine runTf g'30 ?_
      refine go_loop try_mixed (by kernel_rfl) (fun k F Hx => ∃ n : Nat, n + k = celN y0 y1 ∧ F = [(4, .int .i64 (spl x0)), (5, .int .i64 (sph x1)), (7, .int .i64 (sph y1)), (8, .sl (some (H.length, 0)) ((gridR tt2 (spl x0) (celN x0 x1) (spl y0) n).length) (capG (gridR tt2 (spl x0) (celN x0 x1) (spl y0) n).length)), (9, .int .i64 (spl y0 + ((n : Nat) : Int)))] ∧ Hx = H ++ [.cells (ownG (gridR tt2 (spl x0) (celN x0 x1) (spl y0) n).length) 2 (prs (gridR tt2 (spl x0) (celN x0 x1) (spl y0) n))]) (celN y0 y1) ?_ ?_
      · refine ⟨_, _, _, ⟨0, by omega, rfl, rfl⟩, Abs.byG hbel [.cells false 2 []] rfl [1] (by decide) ?_⟩
        exact absRf (jn @gridR_0 (jn @Int.natCast_zero @Int.add_zero))
      · rintro k0 F Hx ⟨n, hm0, rfl, rfl⟩ J0 hJ0
        have g'31 := (jn @prs_len (jn @prs_one g'30))
        refine runTf g'31 ?_
        refine cond_split (fun h3 => ?_) (fun h3 => ?_)
        · have h3d := bsT h3
          have g'32 := (jn @h3 (jn @h3d g'31))
          refine runTf g'32 ?_
          refine go_loop try_mixed (by kernel_rfl) (fun k F Hx => ∃ m : Nat, m + k = celN x0 x1 ∧ F = [(4, .int .i64 (spl x0)), (5, .int .i64 (sph x1)), (7, .int .i64 (sph y1)), (8, .sl (some (H.length, 0)) ((gridR tt2 (spl x0) (celN x0 x1) (spl y0) n ++ rowR tt2 (spl x0) (spl y0 + ((n : Nat) : Int)) m).length) (capG (gridR tt2 (spl x0) (celN x0 x1) (spl y0) n ++ rowR tt2 (spl x0) (spl y0 + ((n : Nat) : Int)) m).length)), (9, .int .i64 (spl y0 + ((n : Nat) : Int))), (10, .int .i64 (spl x0 + ((m : Nat) : Int)))] ∧ Hx = H ++ [.cells (ownG (gridR tt2 (spl x0) (celN x0 x1) (spl y0) n ++ rowR tt2 (spl x0) (spl y0 + ((n : Nat) : Int)) m).length) 2 (prs (gridR tt2 (spl x0) (celN x0 x1) (spl y0) n ++ rowR tt2 (spl x0) (spl y0 + ((n : Nat) : Int)) m))]) (celN x0 x1) ?_ ?_
          · refine ⟨_, _, _, ⟨0, by omega, rfl, rfl⟩, Abs.byG hbel [] rfl [0] (by decide) ?_⟩
            exact absRf (jn @rowR_0 (jn @List.append_nil.{0} (jn @Int.natCast_zero @Int.add_zero)))
          · rintro k1 F Hx ⟨m, hm1, rfl, rfl⟩ J1 hJ1
            refine runTf g'32 ?_
            refine cond_split (fun h4 => ?_) (fun h4 => ?_)
            · have h4d := bsT h4
              have hgb := grid_bd (p := tt2) (x0 := spl x0) (y0 := spl y0) (y := spl y0 + ((n : Nat) : Int)) (w := celN x0 x1) (n := n) (m := m) (by omega) (by omega) (by omega)
              have g'33 := (jn @h4 (jn @h4d (jn @capG_s g'32)))
              refine runTf g'33 ?_
              refine hJ1 _ _ ⟨k1 - 1, by omega, _, _, _, ⟨m + 1, by omega, rfl, rfl⟩, Abs.byG hbel [] rfl [2] (by decide) ?_⟩
              exact absRf (jn @rowR_t (jn @List.append_assoc.{0} (jn @Int.natCast_add (jn @Int.natCast_one @Int.add_assoc))))
            · have h4d := bsT h4
              obtain rfl : m = celN x0 x1 := by omega
              have g'34 := (jn @h4 (jn @h4d g'32))
              refine runTf g'34 ?_
              refine hJ0 _ _ ⟨k0 - 1, by omega, _, _, _, ⟨n + 1, by omega, rfl, rfl⟩, Abs.byG hbel [] rfl [0] (by decide) ?_⟩
              exact absRf (jn @gridR_s (jn @Int.natCast_add (jn @Int.natCast_one @Int.add_assoc)))
        · have h3d := bsT h3
          obtain rfl : n = celN y0 y1 := by omega
          have g'35 := (jn @h3 (jn @h3d g'31))
          refine runTf g'35 ?_
          refine hQ _ _ (end_byG (.inl rfl) hbel (x1 := .tup [.sl (some (H.length, 0)) ((gridR tt2 (spl x0) (celN x0 x1) (spl y0) (celN y0 y1)).length) (capG (gridR tt2 (spl x0) (celN x0 x1) (spl y0) (celN y0 y1)).length), .int .i64 0]) (l2 := [.cells (ownG (gridR tt2 (spl x0) (celN x0 x1) (spl y0) (celN y0 y1)).length) 2 (prs (gridR tt2 (spl x0) (celN x0 x1) (spl y0) (celN y0 y1)))]) (.tup [.sl (some (H.length, 0)) ((gridR tt2 (spl x0) (celN x0 x1) (spl y0) (celN y0 y1)).length) (capG (gridR tt2 (spl x0) (celN x0 x1) (spl y0) (celN y0 y1)).length), .int .i64 0]) (resT Tryz.results65) [] rfl [0] (by decide) ⟨by first | (rw [hfinR, hfinE]; done) | (rw [hfinR, hfinE]; rfl) | (rw [hfinR]; done) | (rw [hfinR]; rfl), by first | (rw [hfinR, hfinE]; done) | (rw [hfinR, hfinE]; rfl) | (rw [hfinR]; done) | (rw [hfinR]; rfl)⟩ ?_)
          exact absW
open Go.RowKit
def bldB (W Hh : Int) (xs : List Int) : Bool := vldB W Hh xs && !(xs.any fun v => v == 0)
def blN (a b : Int) : Nat := (mxI a b / 64 + 1 - (mnI a b / 64 - 1) + 1).toNat
def blP (W Hh : Int) (xs : List Int) (px py qx qy : Int) (c : Pt) : Bool := atI W Hh xs c.1 c.2 == 2 && touchB px py qx qy (c.1 * 64) (c.2 * 64) (c.1 * 64 + 64) (c.2 * 64 + 64)
/-- A wall is touched on the way. -/
def blkB (W Hh : Int) (xs : List Int) (px py qx qy : Int) : Bool := (gridR tt2 (mnI px qx / 64 - 1) (blN px qx) (mnI py qy / 64 - 1) (blN py qy)).any (blP W Hh xs px py qx qy)
theorem blk_t {W Hh : Int} {xs : List Int} {px py qx qy : Int} {n m : Nat} (hn : n < blN py qy) (hm : m < blN px qx) (h : blP W Hh xs px py qx qy (mnI px qx / 64 - 1 + (m : Int), mnI py qy / 64 - 1 + (n : Int)) = true) : blkB W Hh xs px py qx qy = true :=
  List.any_eq_true.2 ⟨_, gridR_mem.2 ⟨by simp only; omega, by simp only; omega, rfl⟩, h⟩
theorem blk_f {W Hh : Int} {xs : List Int} {px py qx qy : Int} (h : ∀ n m : Nat, n < blN py qy → m < blN px qx → blP W Hh xs px py qx qy (mnI px qx / 64 - 1 + (m : Int), mnI py qy / 64 - 1 + (n : Int)) = false) : blkB W Hh xs px py qx qy = false :=
  List.any_eq_false.2 fun c hc => by
    obtain ⟨h1, h2, -⟩ := gridR_mem.1 hc
    have := h (c.2 - (mnI py qy / 64 - 1)).toNat (c.1 - (mnI px qx / 64 - 1)).toNat (by omega) (by omega)
    rw [show mnI px qx / 64 - 1 + (((c.1 - (mnI px qx / 64 - 1)).toNat : Nat) : Int) = c.1 by omega, show mnI py qy / 64 - 1 + (((c.2 - (mnI py qy / 64 - 1)).toNat : Nat) : Int) = c.2 by omega] at this
    rw [this]; decide
theorem mn_r (a b : Int) : (if b < a then b else a) = mnI a b := rfl
theorem mx_r2 (a b : Int) : (if a < b then b else a) = mxI a b := rfl
def stB (W Hh : Int) (xs : List Int) (ax ay ah t f eT eL eX eY : Int) : Bool := decide (nxE ax ay ah t f eT eL eX eY = 0) && ((f != 0) && blkB W Hh xs ax ay (nxX ax ay ah t f eT eL eX eY) (nxY ax ay ah t f eT eL eX eY))
def stX (W Hh : Int) (xs : List Int) (ax ay ah t f eT eL eX eY : Int) : Int := if stB W Hh xs ax ay ah t f eT eL eX eY = true then ax else nxX ax ay ah t f eT eL eX eY
def stY (W Hh : Int) (xs : List Int) (ax ay ah t f eT eL eX eY : Int) : Int := if stB W Hh xs ax ay ah t f eT eL eX eY = true then ay else nxY ax ay ah t f eT eL eX eY
theorem st_f {W Hh : Int} {xs : List Int} {ax ay ah t f eT eL eX eY : Int} (h : stB W Hh xs ax ay ah t f eT eL eX eY = false) : stX W Hh xs ax ay ah t f eT eL eX eY = nxX ax ay ah t f eT eL eX eY ∧ stY W Hh xs ax ay ah t f eT eL eX eY = nxY ax ay ah t f eT eL eX eY := ⟨if_neg (by rw [h]; decide), if_neg (by rw [h]; decide)⟩
theorem st_t {W Hh : Int} {xs : List Int} {ax ay ah t f eT eL eX eY : Int} (h : stB W Hh xs ax ay ah t f eT eL eX eY = true) : stX W Hh xs ax ay ah t f eT eL eX eY = ax ∧ stY W Hh xs ax ay ah t f eT eL eX eY = ay := ⟨if_pos h, if_pos h⟩
theorem mark_in {ah t e tu : Int} (ha : 0 ≤ ah ∧ ah ≤ 255) (ht : 0 ≤ tu ∧ tu ≤ 8) (he : -tu ≤ e ∧ e ≤ tu) : nhI ah t e ∈ mrkA ah 1 t tu := by
  unfold mrkA mrkL
  rw [List.mem_map]
  refine ⟨(tu + e).toNat, List.mem_range.2 ?_, ?_⟩
  · unfold grC arcC; split <;> split <;> omega
  · unfold grF shF arcF arcC nhI
    repeat' split
    all_goals omega
/-- With a command that is safe, no wall is touched. -/
theorem clear_ok {W Hh : Int} {xs : List Int} {ax ay ah t f cT cL cX cY tu le sl ra n6 : Int} (hs : saB W Hh xs [(ax - n6, ay, ax, ay + n6, ah, 1)] t f tu le sl ra = true) (hsE : saE W Hh xs [(ax - n6, ay, ax, ay + n6, ah, 1)] t f tu le sl ra = 0)
    (hx : -524288 ≤ ax ∧ ax ≤ 524288) (hy : -524288 ≤ ay ∧ ay ≤ 524288) (hn6 : 0 ≤ n6 ∧ n6 ≤ 6) (hP : poseB ax ay ah = true) (hf : 0 ≤ f) (ht : 0 ≤ tu ∧ tu ≤ 8) (h1 : -tu ≤ cT ∧ cT ≤ tu) (h2 : -le ≤ cL ∧ cL ≤ le) (h3 : -sl ≤ cX ∧ cX ≤ sl) (h4 : -sl ≤ cY ∧ cY ≤ sl)
    (he : nxE ax ay ah t f cT cL cX cY = 0) : stB W Hh xs ax ay ah t f cT cL cX cY = false := by
  have hPi := poseB_iff.1 hP
  have hbt := btw_iff.1 hPi.2
  unfold stB
  by_cases h0 : f = 0
  · rw [h0]; simp
  unfold saB at hs
  rw [decide_eq_false h0, hsE] at hs
  simp only [decide_true, Bool.true_and, Bool.false_or, List.all_cons, List.all_nil, Bool.and_true] at hs
  unfold boxOK at hs
  rw [List.all_eq_true] at hs
  have hu := hs _ (mark_in hbt ht h1)
  have hw := next_way he hf h2 h3 h4
  rw [(nx_ok he).2.2] at hw
  have hd : (ax - n6, ay, ax, ay + n6, ah, (1 : Int)) = (ax - n6, ay, ax, ay + n6, ah, (1 : Int)) := rfl
  simp only at hu
  unfold unhB at hu
  simp only [Bool.and_eq_true, decide_eq_true_eq, Bool.not_eq_true'] at hu
  obtain ⟨u1, u2, u3⟩ := hu
  have hbk : blkB W Hh xs ax ay (nxX ax ay ah t f cT cL cX cY) (nxY ax ay ah t f cT cL cX cY) = false := by
    unfold blkB
    refine List.any_eq_false.2 fun c _ => ?_
    intro hc
    unfold blP at hc
    simp only [Bool.and_eq_true, beq_iff_eq] at hc
    have hg := touch_geo hc.2
    have hm := (cell_in (px := ax) (py := ay) (dx := nxX ax ay ah t f cT cL cX cY - ax) (dy := nxY ax ay ah t f cT cL cX cY - ay) (cx := c.1) (cy := c.2) u1 (by omega) (by omega)).2 (by omega) (by omega) hw (by rw [show ax + (nxX ax ay ah t f cT cL cX cY - ax) = nxX ax ay ah t f cT cL cX cY by omega, show ay + (nxY ax ay ah t f cT cL cX cY - ay) = nxY ax ay ah t f cT cL cX cY by omega]; exact hg)
    have := List.any_eq_false.1 u3 _ hm
    simp only [bne_iff_ne, ne_eq, Classical.not_not] at this
    rw [hc.1] at this; omega
  rw [hbk]; simp
theorem bld_c (H : AHeap) (W : Int) (Hh : Int) (pp : AV) (xs : List Int) (hpp : Sl H 1 pp xs.length (ints .u8 xs)) : ACalls Tryz.prog 34 [.agg [.int .i64 W, .int .i64 Hh, pp]] H (fun v H' => v = .bool (bldB W Hh xs) ∧ H' = H) := by
  obtain ⟨bpp, opp, cpp, rfl, hbpp⟩ := hpp
  have hblpp := getElem?_lt hbpp
  have hb0pp := fun l => get_app (l := l) hbpp
  refine AcT true Tryz.func34 ?_; intro hbel Q hQ
  have g'1 := (jn @hbpp @hb0pp)
  refine runTf g'1 ?_
  refine call_v (by kernel_rfl) (rplan_a _ W Hh _ xs (.inr ⟨_, _, _, rfl, by first | exact hb0pp _ | exact hbpp⟩)) ?_
  refine runTf g'1 ?_
  refine cond_split (fun h1 => ?_) (fun h1 => ?_)
  · have h1d := bsT h1
    have hfinD : bldB W Hh xs = false := by unfold bldB; rw [h1d]; rfl
    have g'2 := (jn @h1 (jn @h1d g'1))
    refine runTf g'2 ?_
    exact hQ _ _ (end_plain (.inl rfl) hbel (x := .bool false) (resT Tryz.results34) rfl ⟨by first | (rw [hfinD]; done) | (unfold bldB; simp [h1d, hfinD]; done), rfl⟩)
  · have h1d := bsT h1
    have hV := h1d
    have hVl := vld_iff.1 hV
    have g'3 := (jn @h1 (jn @h1d g'1))
    refine runTf g'3 ?_
    refine go_loop try_mixed (by kernel_rfl) (fun k F Hx => ∃ i : Nat, i + k = xs.length ∧ (∀ j : Nat, j < i → ¬ gi xs j = 0) ∧ F = [(1, .ptr (some (H.length, 0))), (3, .int .i64 ((i : Nat) : Int))] ∧ Hx = H ++ [.cells true 0 [.int .i64 W, .int .i64 Hh, .sl (some (bpp, 0)) xs.length cpp]]) (xs.length) ?_ ?_
    · refine ⟨_, _, _, ⟨0, by omega, fun j h => by omega, rfl, rfl⟩, Abs.byG hbel [] rfl [0] (by decide) ?_⟩
      exact absW
    · rintro k0 F Hx ⟨i, hm0, hal, rfl, rfl⟩ J0 hJ0
      have hl4 := hVl.len
      have hl5 := hVl.pos
      refine runTf g'3 ?_
      refine cond_split (fun h2 => ?_) (fun h2 => ?_)
      · have h2d := bsT h2
        have q3 := ints_get (k := .u8) (xs := xs) (j := i) (by omega)
        have g'4 := (jn @h2 (jn @h2d (jn @q3 g'3)))
        refine runTf g'4 ?_
        refine cond_split (fun h4 => ?_) (fun h4 => ?_)
        · have h4d := bsT h4
          have h4n := bnT h4
          have hfinD : bldB W Hh xs = false := by
            unfold bldB
            have e : xs.any (fun v => v == 0) = true := List.any_eq_true.2 ⟨xs[i]'(by omega), List.getElem_mem _, by rw [← gi_eq (show i < xs.length by omega)]; simpa using h4d⟩
            rw [e]; simp
          have g'5 := (jn @h4 (jn @h4n (jn @int_bne (jn @int_beq g'4))))
          refine runTf g'5 ?_
          exact hQ _ _ (end_plain (.inl rfl) hbel (x := .bool false) (resT Tryz.results34) rfl ⟨by first | (rw [hfinD]; done) | (unfold bldB; simp [h1d, h2d, h4d, hfinD]; done), rfl⟩)
        · have h4d := bsT h4
          have h4n := bnT h4
          have hnz : ¬ gi xs i = 0 := by simpa using h4d
          have g'6 := (jn @h4 (jn @h4n (jn @int_bne (jn @int_beq g'4))))
          refine runTf g'6 ?_
          refine hJ0 _ _ ⟨k0 - 1, by omega, _, _, _, ⟨i + 1, by omega, fun j hj => by
                      rcases Nat.lt_or_ge j i with hji | hji
                      · exact hal j hji
                      · rw [show j = i by omega]; exact hnz, rfl, rfl⟩, Abs.byG hbel [] rfl [0] (by decide) ?_⟩
          exact absW
      · have h2d := bsT h2
        have hfinD : bldB W Hh xs = true := by
          unfold bldB
          have e : xs.any (fun v => v == 0) = false := List.any_eq_false.2 fun v hv => by
            obtain ⟨j, hj, rfl⟩ := List.mem_iff_getElem.1 hv
            rw [← gi_eq hj]; simpa using hal j (by omega)
          rw [e, hV]; rfl
        have g'7 := (jn @h2 (jn @h2d g'3))
        refine runTf g'7 ?_
        exact hQ _ _ (end_plain (.inl rfl) hbel (x := .bool true) (resT Tryz.results34) rfl ⟨by first | (rw [hfinD]; done) | (unfold bldB; simp [h1d, h2d, hfinD]; done), rfl⟩)
theorem blk_c (H : AHeap) (W : Int) (Hh : Int) (pp : AV) (xs : List Int) (px : Int) (py : Int) (qx : Int) (qy : Int) (hpp : Sl H 1 pp xs.length (ints .u8 xs)) (hV : vldB W Hh xs = true) (hBl : bldB W Hh xs = true) (hp : ptB px py = true) (hq : ptB qx qy = true) (hdx : -1024 ≤ px - qx ∧ px - qx ≤ 1024) (hdy : -1024 ≤ py - qy ∧ py - qy ≤ 1024) : ACalls Tryz.prog 94 [.agg [.int .i64 W, .int .i64 Hh, pp], .agg [.int .i64 px, .int .i64 py], .agg [.int .i64 qx, .int .i64 qy]] H (fun v H' => v = .bool (blkB W Hh xs px py qx qy) ∧ H' = H) := by
  obtain ⟨bpp, opp, cpp, rfl, hbpp⟩ := hpp
  have hblpp := getElem?_lt hbpp
  have hb0pp := fun l => get_app (l := l) hbpp
  have hw1 := within_iff.2 hdx
  have hw2 := within_iff.2 hdy
  have hpi := hp
  have hqi := hq
  simp only [ptB, Bool.and_eq_true, within_iff] at hpi hqi
  have hmn := fun a b : Int => mn_r a b
  have hmx := fun a b : Int => mx_r2 a b
  have hx1 : -1048576 ≤ mnI px qx ∧ mnI px qx ≤ 1048576 ∧ mnI px qx ≤ mxI px qx ∧ mxI px qx ≤ 1048576 := by unfold mnI mxI; split <;> split <;> omega
  have hy1 : -1048576 ≤ mnI py qy ∧ mnI py qy ≤ 1048576 ∧ mnI py qy ≤ mxI py qy ∧ mxI py qy ≤ 1048576 := by unfold mnI mxI; split <;> split <;> omega
  have hnx : mnI px qx / 64 - 1 + ((blN px qx : Nat) : Int) = mxI px qx / 64 + 2 := by unfold blN; omega
  have hny : mnI py qy / 64 - 1 + ((blN py qy : Nat) : Int) = mxI py qy / 64 + 2 := by unfold blN; omega
  refine AcT true Tryz.func94 ?_; intro hbel Q hQ
  have g'8 := (jn @hbpp (jn @hb0pp (jn @hBl (jn @hp (jn @hq (jn @hw1 (jn @hw2 (jn @hmn @hmx))))))))
  refine runTf g'8 ?_
  refine call_v (by kernel_rfl) (bld_c _ W Hh _ xs ⟨_, _, _, rfl, by first | exact hb0pp _ | exact hbpp⟩) ?_
  refine runTf g'8 ?_
  refine call_v (by kernel_rfl) (bpt_c _ px py) ?_
  refine runTf g'8 ?_
  refine call_v (by kernel_rfl) (bpt_c _ qx qy) ?_
  refine runTf g'8 ?_
  refine call_v (by kernel_rfl) (bsize2_c _ (px - qx) 1024 (by decide)) ?_
  refine runTf g'8 ?_
  refine call_v (by kernel_rfl) (bsize2_c _ (py - qy) 1024 (by decide)) ?_
  refine runTf g'8 ?_
  refine call_v (by kernel_rfl) (bfloor_c _ (mnI py qy) 64 (by omega) (by omega)) ?_
  refine runTf g'8 ?_
  refine go_loop try_mixed (by kernel_rfl) (fun k F Hx => ∃ n : Nat, n + k = blN py qy ∧ (∀ j m : Nat, j < n → m < blN px qx → blP W Hh xs px py qx qy (mnI px qx / 64 - 1 + (m : Int), mnI py qy / 64 - 1 + (j : Int)) = false) ∧ F = [(3, .ptr (some (H.length, 0))), (4, .ptr (some (H.length + 1, 0))), (5, .ptr (some (H.length + 2, 0))), (7, .int .i64 (mnI py qy / 64 - 1 + ((n : Nat) : Int)))] ∧ Hx = H ++ [.cells true 0 [.int .i64 W, .int .i64 Hh, .sl (some (bpp, 0)) xs.length cpp], .cells true 0 [.int .i64 px, .int .i64 py], .cells true 0 [.int .i64 qx, .int .i64 qy]]) (blN py qy) ?_ ?_
  · refine ⟨_, _, _, ⟨0, by omega, fun j m h => by omega, rfl, rfl⟩, Abs.byG hbel [] rfl [0, 1, 2] (by decide) ?_⟩
    exact absWf (jn @Int.natCast_zero @Int.add_zero)
  · rintro k0 F Hx ⟨n, hm0, hout, rfl, rfl⟩ J0 hJ0
    refine runTf g'8 ?_
    refine call_v (by kernel_rfl) (bfloor_c _ (mxI py qy) 64 (by omega) (by omega)) ?_
    refine runTf g'8 ?_
    refine cond_split (fun h1 => ?_) (fun h1 => ?_)
    · have h1d := bsT h1
      have g'9 := (jn @h1 (jn @h1d g'8))
      refine runTf g'9 ?_
      refine call_v (by kernel_rfl) (bfloor_c _ (mnI px qx) 64 (by omega) (by omega)) ?_
      refine runTf g'9 ?_
      refine go_loop try_mixed (by kernel_rfl) (fun k F Hx => ∃ m : Nat, m + k = blN px qx ∧ (∀ j : Nat, j < m → blP W Hh xs px py qx qy (mnI px qx / 64 - 1 + (j : Int), mnI py qy / 64 - 1 + (n : Int)) = false) ∧ F = [(3, .ptr (some (H.length, 0))), (4, .ptr (some (H.length + 1, 0))), (5, .ptr (some (H.length + 2, 0))), (7, .int .i64 (mnI py qy / 64 - 1 + ((n : Nat) : Int))), (8, .int .i64 (mnI px qx / 64 - 1 + ((m : Nat) : Int)))] ∧ Hx = H ++ [.cells true 0 [.int .i64 W, .int .i64 Hh, .sl (some (bpp, 0)) xs.length cpp], .cells true 0 [.int .i64 px, .int .i64 py], .cells true 0 [.int .i64 qx, .int .i64 qy]]) (blN px qx) ?_ ?_
      · refine ⟨_, _, _, ⟨0, by omega, fun j h => by omega, rfl, rfl⟩, Abs.byG hbel [] rfl [0, 1, 2] (by decide) ?_⟩
        exact absWf (jn @Int.natCast_zero @Int.add_zero)
      · rintro k1 F Hx ⟨m, hm1, hin, rfl, rfl⟩ J1 hJ1
        refine runTf g'9 ?_
        refine call_v (by kernel_rfl) (bfloor_c _ (mxI px qx) 64 (by omega) (by omega)) ?_
        refine runTf g'9 ?_
        refine cond_split (fun h2 => ?_) (fun h2 => ?_)
        · have h2d := bsT h2
          have g'10 := (jn @h2 (jn @h2d g'9))
          refine runTf g'10 ?_
          refine call_d (by kernel_rfl) (at_c (x := (mnI px qx / 64 - 1 + ((m : Nat) : Int))) (y := (mnI py qy / 64 - 1 + ((n : Nat) : Int))) (vld_iff.1 hV) (by first | exact hb0pp _ | exact hbpp) rfl) ?_
          refine runTf g'10 ?_
          refine gd_split (fun h3 => ?_) (fun h3 => ?_)
          · have h3d := bsT h3
            have h3n := bnT h3
            have hat2 := h3d
            have g'11 := (jn @h3 (jn @h3n (jn @int_bne (jn @int_beq g'10))))
            refine runTf g'11 ?_
            refine call_d (by kernel_rfl) (bsquare_c _ (mnI px qx / 64 - 1 + ((m : Nat) : Int)) (mnI py qy / 64 - 1 + ((n : Nat) : Int)) (by omega) (by omega)) ?_
            refine runTf g'11 ?_
            refine call_d (by kernel_rfl) (r5touch_c _ px py qx qy ((mnI px qx / 64 - 1 + ((m : Nat) : Int)) * 64) ((mnI py qy / 64 - 1 + ((n : Nat) : Int)) * 64) ((mnI px qx / 64 - 1 + ((m : Nat) : Int)) * 64 + 64) ((mnI py qy / 64 - 1 + ((n : Nat) : Int)) * 64 + 64)) ?_
            refine runTf g'11 ?_
            refine cond_split (fun h4 => ?_) (fun h4 => ?_)
            · have h4d := bsT h4
              have hfinK : blkB W Hh xs px py qx qy = true := blk_t (n := n) (m := m) (by omega) (by omega) (by unfold blP; simp only; rw [h4d, Bool.and_true]; simpa using hat2)
              have g'12 := (jn @h4 (jn @h4d g'11))
              refine runTf g'12 ?_
              exact hQ _ _ (end_plain (.inl rfl) hbel (x := .bool true) (resT Tryz.results94) rfl ⟨by rw [hfinK], rfl⟩)
            · have h4d := bsT h4
              have hbf : blP W Hh xs px py qx qy (mnI px qx / 64 - 1 + ((m : Nat) : Int), mnI py qy / 64 - 1 + ((n : Nat) : Int)) = false := by unfold blP; simp only; rw [h4d, Bool.and_false]
              have g'13 := (jn @h4 (jn @h4d g'11))
              refine runTf g'13 ?_
              refine hJ1 _ _ ⟨k1 - 1, by omega, _, _, _, ⟨m + 1, by omega, fun j hj => by
                          rcases Nat.lt_or_ge j m with hji | hji
                          · exact hin j hji
                          · rw [show j = m by omega]; exact hbf, rfl, rfl⟩, Abs.byG hbel [] rfl [0, 1, 2] (by decide) ?_⟩
              exact absWf (jn @Int.natCast_add (jn @Int.natCast_one @Int.add_assoc))
          · have h3d := bsT h3
            have h3n := bnT h3
            have hbf : blP W Hh xs px py qx qy (mnI px qx / 64 - 1 + ((m : Nat) : Int), mnI py qy / 64 - 1 + ((n : Nat) : Int)) = false := by unfold blP; simp only; rw [beq_eq_false_iff_ne.2 h3d]; rfl
            have g'14 := (jn @h3 (jn @h3n (jn @int_bne (jn @int_beq g'10))))
            refine runTf g'14 ?_
            refine hJ1 _ _ ⟨k1 - 1, by omega, _, _, _, ⟨m + 1, by omega, fun j hj => by
                        rcases Nat.lt_or_ge j m with hji | hji
                        · exact hin j hji
                        · rw [show j = m by omega]; exact hbf, rfl, rfl⟩, Abs.byG hbel [] rfl [0, 1, 2] (by decide) ?_⟩
            exact absWf (jn @Int.natCast_add (jn @Int.natCast_one @Int.add_assoc))
        · have h2d := bsT h2
          obtain rfl : m = blN px qx := by omega
          have g'15 := (jn @h2 (jn @h2d g'9))
          refine runTf g'15 ?_
          refine hJ0 _ _ ⟨k0 - 1, by omega, _, _, _, ⟨n + 1, by omega, fun j m hj hm => by
                      rcases Nat.lt_or_ge j n with hji | hji
                      · exact hout j m hji hm
                      · rw [show j = n by omega]; exact hin m hm, rfl, rfl⟩, Abs.byG hbel [] rfl [0, 1, 2] (by decide) ?_⟩
          exact absWf (jn @Int.natCast_add (jn @Int.natCast_one @Int.add_assoc))
    · have h1d := bsT h1
      have hfinK : blkB W Hh xs px py qx qy = false := blk_f fun j m hj hm => hout j m (by omega) hm
      have g'16 := (jn @h1 (jn @h1d g'8))
      refine runTf g'16 ?_
      exact hQ _ _ (end_plain (.inl rfl) hbel (x := .bool false) (resT Tryz.results94) rfl ⟨by rw [hfinK], rfl⟩)
theorem step_c (H : AHeap) (W : Int) (Hh : Int) (pp : AV) (xs : List Int) (ax : Int) (ay : Int) (ah : Int) (t : Int) (f : Int) (eT : Int) (eL : Int) (eX : Int) (eY : Int) (hpp : Sl H 1 pp xs.length (ints .u8 xs)) (hV : vldB W Hh xs = true) (hBl : bldB W Hh xs = true) (hP : poseB ax ay ah = true) : ACalls Tryz.prog 35 [.agg [.int .i64 W, .int .i64 Hh, pp], .agg [.int .i64 ax, .int .i64 ay, .int .i64 ah], .agg [.int .i64 t, .int .i64 f], .agg [.int .i64 eT, .int .i64 eL, .int .i64 eX, .int .i64 eY]] H (fun v H' => v = .tup [.agg [.int .i64 (stX W Hh xs ax ay ah t f eT eL eX eY), .int .i64 (stY W Hh xs ax ay ah t f eT eL eX eY), .int .i64 (nxH ax ay ah t f eT eL eX eY)], .bool (stB W Hh xs ax ay ah t f eT eL eX eY), .int .i64 (nxE ax ay ah t f eT eL eX eY)] ∧ H' = H) := by
  obtain ⟨bpp, opp, cpp, rfl, hbpp⟩ := hpp
  have hblpp := getElem?_lt hbpp
  have hb0pp := fun l => get_app (l := l) hbpp
  refine AcT true Tryz.func35 ?_; intro hbel Q hQ
  have g'17 := (jn @hbpp (jn @hb0pp (jn @hV @hBl)))
  refine runTf g'17 ?_
  refine call_v (by kernel_rfl) (rplan_a _ W Hh _ xs (.inr ⟨_, _, _, rfl, by first | exact hb0pp _ | exact hbpp⟩)) ?_
  refine runTf g'17 ?_
  refine call_v (by kernel_rfl) (bld_c _ W Hh _ xs ⟨_, _, _, rfl, by first | exact hb0pp _ | exact hbpp⟩) ?_
  refine runTf g'17 ?_
  refine call_v (by kernel_rfl) (next_c _ ax ay ah t f eT eL eX eY) ?_
  refine runTf g'17 ?_
  refine cond_split (fun h1 => ?_) (fun h1 => ?_)
  · have h1d := bsT h1
    have h1n := bnT h1
    have hne : ¬ nxE ax ay ah t f eT eL eX eY = 0 := by simpa using h1d
    obtain ⟨e1, e2, hfinH⟩ := nx_err rfl hne
    have hfinB : stB W Hh xs ax ay ah t f eT eL eX eY = false := by unfold stB; rw [decide_eq_false hne]; rfl
    have hfinX := (st_f hfinB).1.trans e1
    have hfinY := (st_f hfinB).2.trans e2
    have hfinE : nxE ax ay ah t f eT eL eX eY = nxE ax ay ah t f eT eL eX eY := rfl
    have g'18 := (jn @h1 (jn @h1n (jn @int_bne (jn @int_beq g'17))))
    refine runTf g'18 ?_
    exact hQ _ _ (end_plain (.inl rfl) hbel (x := .tup [.agg [.int .i64 0, .int .i64 0, .int .i64 0], .bool false, .int .i64 (nxE ax ay ah t f eT eL eX eY)]) (resT Tryz.results35) rfl ⟨by first | (rw [hfinX, hfinY, hfinH, hfinB, hfinE]; done) | (rw [hfinX, hfinY, hfinB, hfinE]; done) | (rw [hfinX, hfinY, hfinH, hfinB]; done), rfl⟩)
  · have h1d := bsT h1
    have h1n := bnT h1
    have hfinE : nxE ax ay ah t f eT eL eX eY = 0 := by simpa using h1d
    have hfinH : nxH ax ay ah t f eT eL eX eY = nxH ax ay ah t f eT eL eX eY := rfl
    have g'19 := (jn @h1 (jn @h1n (jn @int_bne (jn @int_beq g'17))))
    refine runTf g'19 ?_
    refine gd_split (fun h2 => ?_) (fun h2 => ?_)
    · have h2d := bsT h2
      have h2n := bnT h2
      have hf0 : ¬ f = 0 := by simpa using h2d
      have hpn := poseB_iff.1 (nx_pose hfinE hP)
      have hpp := poseB_iff.1 hP
      have hpp0 := hpp.1
      have hpn0 := hpn.1
      have hwd := nx_dist hfinE
      have g'20 := (jn @h2 (jn @h2n g'19))
      refine runTf g'20 ?_
      refine call_v (by kernel_rfl) (blk_c _ W Hh _ xs ax ay (nxX ax ay ah t f eT eL eX eY) (nxY ax ay ah t f eT eL eX eY) ⟨_, _, _, rfl, by first | exact hb0pp _ | exact hbpp⟩ hV hBl (by first | assumption | exact hpp0) (by first | assumption | exact hpn0) (by omega) (by omega)) ?_
      refine runTf g'20 ?_
      refine cond_split (fun h3 => ?_) (fun h3 => ?_)
      · have h3d := bsT h3
        have hfinB : stB W Hh xs ax ay ah t f eT eL eX eY = true := by unfold stB; rw [decide_eq_true hfinE, h3d]; simpa using hf0
        have hfinX := (st_t hfinB).1
        have hfinY := (st_t hfinB).2
        have g'21 := (jn @h3 (jn @h3d g'20))
        refine runTf g'21 ?_
        exact hQ _ _ (end_plain (.inl rfl) hbel (x := .tup [.agg [.int .i64 ax, .int .i64 ay, .int .i64 (nxH ax ay ah t f eT eL eX eY)], .bool true, .int .i64 0]) (resT Tryz.results35) rfl ⟨by first | (rw [hfinX, hfinY, hfinH, hfinB, hfinE]; done) | (rw [hfinX, hfinY, hfinB, hfinE]; done) | (rw [hfinX, hfinY, hfinH, hfinB]; done), rfl⟩)
      · have h3d := bsT h3
        have hfinB : stB W Hh xs ax ay ah t f eT eL eX eY = false := by unfold stB; rw [h3d]; simp
        have hfinX := (st_f hfinB).1
        have hfinY := (st_f hfinB).2
        have g'22 := (jn @h3 (jn @h3d g'20))
        refine runTf g'22 ?_
        exact hQ _ _ (end_plain (.inl rfl) hbel (x := .tup [.agg [.int .i64 (nxX ax ay ah t f eT eL eX eY), .int .i64 (nxY ax ay ah t f eT eL eX eY), .int .i64 (nxH ax ay ah t f eT eL eX eY)], .bool false, .int .i64 0]) (resT Tryz.results35) rfl ⟨by first | (rw [hfinX, hfinY, hfinH, hfinB, hfinE]; done) | (rw [hfinX, hfinY, hfinB, hfinE]; done) | (rw [hfinX, hfinY, hfinH, hfinB]; done), rfl⟩)
    · have h2d := bsT h2
      have h2n := bnT h2
      have hf0 : f = 0 := by simpa using h2d
      have hfinB : stB W Hh xs ax ay ah t f eT eL eX eY = false := by unfold stB; rw [hf0]; simp
      have hfinX := (st_f hfinB).1
      have hfinY := (st_f hfinB).2
      have g'23 := (jn @h2 (jn @h2n g'19))
      refine runTf g'23 ?_
      exact hQ _ _ (end_plain (.inl rfl) hbel (x := .tup [.agg [.int .i64 (nxX ax ay ah t f eT eL eX eY), .int .i64 (nxY ax ay ah t f eT eL eX eY), .int .i64 (nxH ax ay ah t f eT eL eX eY)], .bool false, .int .i64 0]) (resT Tryz.results35) rfl ⟨by first | (rw [hfinX, hfinY, hfinH, hfinB, hfinE]; done) | (rw [hfinX, hfinY, hfinB, hfinE]; done) | (rw [hfinX, hfinY, hfinH, hfinB]; done), rfl⟩)
open Go.RowKit
theorem cellsq_c (H : AHeap) (x y : Int) (l : List Pt) : ACalls Tryz.prog 65 [.agg [.int .i64 ((ifv (validB x y l) (x - spr (1, 0) l)) / 2), .int .i64 ((ifv (validB x y l) (y - spr (0, 1) l)) / 2), .int .i64 (0 - ((0 - (ifv (validB x y l) (x + spr (1, 0) l))) / 2)), .int .i64 (0 - ((0 - (ifv (validB x y l) (y + spr (0, 1) l))) / 2))]] H (fun v H' => v = .tup [.sl (some (H.length, 0)) (touQ x y l).length (capG (touQ x y l).length), .int .i64 (touF x y l)] ∧ H' = H ++ [.cells (ownG (touQ x y l).length) 2 (prs (touQ x y l))]) := cells_c _ _ _ _ _
theorem touch1_c (H : AHeap) (c1 : Int) (c2 : Int) (x : Int) (y : Int) (s : AV) (l : List (Int × Int)) (bz : Nat) (hs : Sl H 2 s l.length (prs l)) (hz : ∃ o, H[bz]? = some (.cells o 0 [.int .i64 x, .int .i64 y, s])) (kbc1 : -2097152 ≤ c1 ∧ c1 ≤ 2097152) (kbc2 : -2097152 ≤ c2 ∧ c2 ≤ 2097152) : ACalls Tryz.prog 67 [.agg [.int .i64 c1, .int .i64 c2], .ptr (some (bz, 0))] H (fun v H' => v = .bool (apP x y l (c1, c2)) ∧ H' = H) := by
  obtain ⟨bs, os, cs, rfl, hbs⟩ := hs
  have hbls := getElem?_lt hbs
  have hb0s := fun l => get_app (l := l) hbs
  obtain ⟨oz, hbz⟩ := hz
  have hblz := getElem?_lt hbz
  have hb0z := fun l => get_app (l := l) hbz
  refine AcT true Tryz.func67 ?_; intro hbel Q hQ
  have g'1 := (jn @hbs (jn @hb0s (jn @hbz @hb0z)))
  refine runTf g'1 ?_
  refine call_v (by kernel_rfl) (apart_c _ x y _ l (c1 * 64) (c2 * 64) ((c1 + 1) * 64) ((c2 + 1) * 64) ⟨_, _, _, rfl, by first | exact hb0s _ | exact hbs⟩) ?_
  refine runTf g'1 ?_
  exact hQ _ _ (end_plain (.inl rfl) hbel (x := .bool (apartB x y l (c1 * 64) (c2 * 64) ((c1 + 1) * 64) ((c2 + 1) * 64))) (resT Tryz.results67) rfl ⟨rfl, rfl⟩)
theorem touched_c (H : AHeap) (x : Int) (y : Int) (s : AV) (l : List (Int × Int)) (hs : Sl H 2 s l.length (prs l)) : ACalls Tryz.prog 17 [.agg [.int .i64 x, .int .i64 y, s]] H (fun v H' => v = .tup [.sl (some (H.length, 0)) ((touL x y l).length) none, .int .i64 (touE x y l)] ∧ H' = H ++ [.cells (ownG (touC x y l).length) 2 (prs (touL x y l))]) := by
  obtain ⟨bs, os, cs, rfl, hbs⟩ := hs
  have hbls := getElem?_lt hbs
  have hb0s := fun l => get_app (l := l) hbs
  refine AcT false Tryz.func17 ?_; intro hbel Q hQ
  have g'2 := (jn @hbs @hb0s)
  refine runTf g'2 ?_
  refine call_v (by kernel_rfl) (Bounds_c _ x y _ l ⟨_, _, _, rfl, by first | exact hb0s _ | exact hbs⟩) ?_
  refine runTf g'2 ?_
  refine cond_split (fun h1 => ?_) (fun h1 => ?_)
  · have h1d := bsT h1
    have hv0 : ¬ validB x y l = true := by intro hv; simp [hv] at h1d
    have hfinE : touE x y l = 1 := if_neg hv0
    have hfinC : touC x y l = [] := if_neg hv0
    have hfinL : touL x y l = [] := if_neg (by rw [hfinE]; decide)
    have g'3 := (jn @h1 (jn @h1d (jn @int_bne (jn @int_beq g'2))))
    refine runTf g'3 ?_
    refine hQ _ _ (end_byG (.inl rfl) hbel (x1 := .tup [.sl none 0 (some 0), .int .i64 (if (validB x y l) = true then 0 else 1)]) (l2 := [.cells false 2 []]) (.tup [.sl (some (H.length, 0)) 0 none, .int .i64 (if (validB x y l) = true then 0 else 1)]) (resT Tryz.results17) [.cells false 2 []] rfl [2] (by decide) ⟨by first | (rw [hfinL, hfinE, if_neg hv0]; rfl) | (rw [hfinL, hfinE]; rfl) | (rw [hfinL, hfinE, hfinC]; done) | (rw [hfinL, hfinE, hfinC2]; done), by first | (rw [hfinL, hfinC2]; rfl) | (rw [hfinL, hfinC]; done) | (rw [hfinL, hfinC]; rfl) | (rw [hfinL, hfinC2]; rfl)⟩ ?_)
    exact absWf @prs_padL
  · have h1d := bsT h1
    have hv0 : validB x y l = true := by simpa using h1d
    have hbb := bnd_bd hv0
    have hfinC : touC x y l = touQ x y l := if_pos hv0
    have hEE : touE x y l = touF x y l := if_pos hv0
    have g'4 := (jn @h1 (jn @h1d (jn @int_bne (jn @int_beq g'2))))
    refine runTf g'4 ?_
    refine call_d (by kernel_rfl) (mfloor_c _ (ifv (validB x y l) (x - spr (1, 0) l)) 2 (by omega) (by omega)) ?_
    refine runTf g'4 ?_
    refine call_d (by kernel_rfl) (mfloor_c _ (ifv (validB x y l) (y - spr (0, 1) l)) 2 (by omega) (by omega)) ?_
    refine runTf g'4 ?_
    refine call_d (by kernel_rfl) (mfloor_c _ (0 - (ifv (validB x y l) (x + spr (1, 0) l))) 2 (by omega) (by omega)) ?_
    refine runTf g'4 ?_
    refine call_d (by kernel_rfl) (mfloor_c _ (0 - (ifv (validB x y l) (y + spr (0, 1) l))) 2 (by omega) (by omega)) ?_
    refine runTf g'4 ?_
    refine call_x (by kernel_rfl) (by simp) (cellsq_c _ x y l) ?_
    refine runTf g'4 ?_
    refine cond_split (fun h2 => ?_) (fun h2 => ?_)
    · have h2d := bsT h2
      have hne : ¬ touE x y l = 0 := by rw [hEE]; simpa using h2d
      have hfinE := hEE
      have hfinC2 : touC x y l = [] := by rw [hfinC]; exact if_neg (show ¬ touF x y l = 0 by rw [← hEE]; exact hne)
      have hfinL : touL x y l = [] := if_neg hne
      have g'5 := (jn @h2 (jn @h2d g'4))
      refine runTf g'5 ?_
      refine hQ _ _ (end_byG (.inl rfl) hbel (x1 := .tup [.sl none 0 (some 0), .int .i64 (touF x y l)]) (l2 := [.cells false 2 []]) (.tup [.sl (some (H.length, 0)) 0 none, .int .i64 (touF x y l)]) (resT Tryz.results17) [.cells false 2 []] rfl [3] (by decide) ⟨by first | (rw [hfinL, hfinE, if_neg hv0]; rfl) | (rw [hfinL, hfinE]; rfl) | (rw [hfinL, hfinE, hfinC]; done) | (rw [hfinL, hfinE, hfinC2]; done), by first | (rw [hfinL, hfinC2]; rfl) | (rw [hfinL, hfinC]; done) | (rw [hfinL, hfinC]; rfl) | (rw [hfinL, hfinC2]; rfl)⟩ ?_)
      exact absWf @prs_padL
    · have h2d := bsT h2
      have hfinE : touE x y l = 0 := by rw [hEE]; simpa using h2d
      have hfinL : touL x y l = delL (apP x y l) (touC x y l) := if_pos hfinE
      have g'6 := (jn @h2 (jn @h2d g'4))
      refine runTf g'6 ?_
      refine call_v (by kernel_rfl) (del_cell _ _ _ (touQ x y l) (by rw [get_newk]; rfl) (Nat.le_trans (touQ_len _ _ _) (by decide)) _ _ (by kernel_rfl) (by simp [AV.bels, AV.bel]) (apP x y l) (fun X e L he => touch1_c _ e.1 e.2 x y _ l _ ⟨_, _, _, rfl, by rw [set_newk, List.append_assoc]; exact hb0s _⟩ ⟨_, by rw [set_newk, List.append_assoc, get_new0]; rfl⟩ (by have := touQ_bd e he; omega) (by have := touQ_bd e he; omega))) ?_
      refine runTf g'6 ?_
      refine hQ _ _ (end_byG (.inl rfl) hbel (x1 := .tup [.sl (some (H.length + 2, 0)) ((delL (apP x y l) (touQ x y l)).length) none, .int .i64 0]) (l2 := [.cells (ownG (touQ x y l).length) 2 (prs (delL (apP x y l) (touQ x y l)))]) (.tup [.sl (some (H.length, 0)) ((delL (apP x y l) (touQ x y l)).length) none, .int .i64 0]) (resT Tryz.results17) [] rfl [2] (by decide) ⟨by first | (rw [hfinL, hfinE, if_neg hv0]; rfl) | (rw [hfinL, hfinE]; rfl) | (rw [hfinL, hfinE, hfinC]; done) | (rw [hfinL, hfinE, hfinC2]; done), by first | (rw [hfinL, hfinC2]; rfl) | (rw [hfinL, hfinC]; done) | (rw [hfinL, hfinC]; rfl) | (rw [hfinL, hfinC2]; rfl)⟩ ?_)
      exact absWf @prs_padL
open Go.RowKit
theorem ofrect_0 (H : AHeap) (x0 y0 x1 y1 : Int) (h : rectE x0 y0 x1 y1 = 0) : ACalls Tryz.prog 50 [.agg [.int .i64 x0, .int .i64 y0, .int .i64 x1, .int .i64 y1]] H (fun v H' => v = .tup [.agg [.int .i64 (x0 + x1), .int .i64 (y0 + y1), .sl (some (H.length, 0)) (canonL (recL x0 y0 x1 y1)).length (capG (canonL (recL x0 y0 x1 y1)).length)], .int .i64 0] ∧ H' = H ++ [.cells (ownG (canonL (recL x0 y0 x1 y1)).length) 2 (prs (canonL (recL x0 y0 x1 y1)))]) := by
  have k := ofrect_c H x0 y0 x1 y1
  rw [h] at k
  exact k
theorem ofway_0 (H : AHeap) (a b : Int) (h : segE 0 0 a b = 0) : ACalls Tryz.prog 54 [.agg [.int .i64 0, .int .i64 0], .agg [.int .i64 a, .int .i64 b]] H (fun v H' => v = .tup [.agg [.int .i64 a, .int .i64 b, .sl (some (H.length, 0)) (canonL [(a, b)]).length (capG (canonL [(a, b)]).length)], .int .i64 0] ∧ H' = H ++ [.cells (ownG (canonL [(a, b)]).length) 2 (prs (canonL [(a, b)]))]) := by
  have k := ofseg_c H 0 0 a b
  rw [h, Int.zero_add, Int.zero_add, Int.sub_zero, Int.sub_zero] at k
  exact k
theorem Sum_0 (H : AHeap) (x1 y1 : Int) (s : AV) (l : List Pt) (x2 y2 : Int) (t : AV) (m : List Pt) (hs : SlP H s l) (ht : SlP H t m) (h : sumE x1 y1 l x2 y2 m = 0) : ACalls Tryz.prog 51 [.agg [.int .i64 x1, .int .i64 y1, s], .agg [.int .i64 x2, .int .i64 y2, t]] H (fun v H' => v = .tup [.agg [.int .i64 (x1 + x2), .int .i64 (y1 + y2), .sl (some (H.length, 0)) (canonL (l ++ m)).length (capG (canonL (l ++ m)).length)], .int .i64 0] ∧ H' = H ++ [.cells (ownG (canonL (l ++ m)).length) 2 (prs (canonL (l ++ m)))]) := by
  have k := Sum_c H x1 y1 s l x2 y2 t m hs ht
  rw [h] at k
  exact k
theorem square_c (H : AHeap) (a : Int) (ha : 0 ≤ a ∧ a ≤ 1000) : ACalls Tryz.prog 52 [.int .i64 a] H (fun v H' => v = .agg [.int .i64 0, .int .i64 0, .sl (some (H.length, 0)) ((canonL (sqrL a)).length) (capG (canonL (sqrL a)).length)] ∧ H' = H ++ [.cells (ownG (canonL (sqrL a)).length) 2 (prs (canonL (sqrL a)))]) := by
  have hre : rectE (0 - a) (0 - a) a a = 0 := if_pos ⟨by unfold far4; simp only [Bool.and_eq_true, within_iff]; omega, by omega, by omega, by omega, by omega⟩
  refine AcT true Tryz.func52 ?_; intro hbel Q hQ
  refine runT ?_
  refine call_v (by kernel_rfl) (ofrect_0 _ (0 - a) (0 - a) a a (by assumption)) ?_
  refine runT ?_
  refine hQ _ _ (end_byG (.inl rfl) hbel (x1 := .agg [.int .i64 ((0 - a) + a), .int .i64 ((0 - a) + a), .sl (some (H.length + 1, 0)) ((canonL (recL (0 - a) (0 - a) a a)).length) (capG (canonL (recL (0 - a) (0 - a) a a)).length)]) (l2 := [.cells (ownG (canonL (recL (0 - a) (0 - a) a a)).length) 2 (prs (canonL (recL (0 - a) (0 - a) a a)))]) (.agg [.int .i64 ((0 - a) + a), .int .i64 ((0 - a) + a), .sl (some (H.length, 0)) ((canonL (recL (0 - a) (0 - a) a a)).length) (capG (canonL (recL (0 - a) (0 - a) a a)).length)]) (resT Tryz.results52) [] rfl [1] (by decide) ⟨by rw [show (0 : Int) - a + a = 0 by omega]; rfl, rfl⟩ ?_)
  exact absW
open Go.RowKit
theorem sweep_c (H : AHeap) (x0 : Int) (y0 : Int) (x1 : Int) (y1 : Int) (h : Int) (t : Int) (f : Int) (tu : Int) (le : Int) (sl : Int) (ra : Int) : ACalls Tryz.prog 13 [.agg [.int .i64 x0, .int .i64 y0, .int .i64 x1, .int .i64 y1], .int .i64 h, .agg [.int .i64 t, .int .i64 f], .agg [.int .i64 tu, .int .i64 le, .int .i64 sl, .int .i64 ra]] H (fun v H' => v = .tup [.agg [.int .i64 (mkX (sweE x0 y0 x1 y1 h t f tu le sl ra) (sweX x0 x1 h f le)), .int .i64 (mkX (sweE x0 y0 x1 y1 h t f tu le sl ra) (sweY y0 y1 h f le)), .sl (some (H.length, 0)) ((mkL (sweE x0 y0 x1 y1 h t f tu le sl ra) (sweL x0 y0 x1 y1 h f le sl)).length) (capG (mkL (sweE x0 y0 x1 y1 h t f tu le sl ra) (sweL x0 y0 x1 y1 h f le sl)).length)], .int .i64 (sweE x0 y0 x1 y1 h t f tu le sl ra)] ∧ H' = H ++ [.cells (ownG (mkL (sweE x0 y0 x1 y1 h t f tu le sl ra) (sweL x0 y0 x1 y1 h f le sl)).length) 2 (prs (mkL (sweE x0 y0 x1 y1 h t f tu le sl ra) (sweL x0 y0 x1 y1 h f le sl)))]) := by
  have hwx : (f + le) * (dirV h).1 / (dirV h).2.2 = wayX h (f + le) := rfl
  have hwy : (f + le) * (dirV h).2.1 / (dirV h).2.2 = wayY h (f + le) := rfl
  (refine ACalls_pieces Tryz.func13 _ rfl (Nat.le_of_ble_eq_true (by kernel_rfl)) rfl ?_; intro hbel Q hQ hQ' c hc; unfold Tryz.f13 at hc; simp only [Option.some.injEq] at hc; subst hc; clear hQ')
  refine AW_step false try_mixed (by kernel_rfl) (fun F Hx => look F 1 = .int .i64 h ∧ look F 4 = .ptr (some (H.length, 0)) ∧ look F 6 = .ptr (some (H.length + 1, 0)) ∧ look F 7 = .ptr (some (H.length + 2, 0)) ∧ look F 8 = .ptr (some (H.length + 3, 0)) ∧ look F 9 = .int .i64 0 ∧ Hx = H ++ [.cells true 0 [.int .i64 x0, .int .i64 y0, .int .i64 x1, .int .i64 y1], .cells true 0 [.int .i64 t, .int .i64 f], .cells true 0 [.int .i64 tu, .int .i64 le, .int .i64 sl, .int .i64 ra], .cells true 0 [.int .i64 0, .int .i64 0, .sl none 0 (some 0)]]) ?_ ?_
  · skip
    have g'1 := (jn @hwx @hwy)
    refine runTf g'1 ?_
    refine inv_of ?_
    exact absT
  rintro F Hx ⟨f1, f2, f3, f4, f5, f6, rfl⟩
  refine AW_step false try_mixed (by kernel_rfl) (fun F Hx => within x0 1048576 = true ∧ within y0 1048576 = true ∧ within x1 1048576 = true ∧ within y1 1048576 = true ∧ (btw (x1 - x0) 0 32768) = true ∧ (btw (y1 - y0) 0 32768) = true ∧ cmdB t f = true ∧ bndB tu le sl ra = true ∧ look F 1 = .int .i64 h ∧ look F 4 = .ptr (some (H.length, 0)) ∧ look F 6 = .ptr (some (H.length + 1, 0)) ∧ look F 7 = .ptr (some (H.length + 2, 0)) ∧ look F 8 = .ptr (some (H.length + 3, 0)) ∧ look F 9 = .int .i64 0 ∧ Hx = H ++ [.cells true 0 [.int .i64 x0, .int .i64 y0, .int .i64 x1, .int .i64 y1], .cells true 0 [.int .i64 t, .int .i64 f], .cells true 0 [.int .i64 tu, .int .i64 le, .int .i64 sl, .int .i64 ra], .cells true 0 [.int .i64 0, .int .i64 0, .sl none 0 (some 0)]]) ?_ ?_
  · skip
    have g'2 := (jn @f1 (jn @f2 (jn @f3 (jn @f4 (jn @f5 (jn @f6 (jn @hwx @hwy)))))))
    refine runTf g'2 ?_
    refine call_v (by kernel_rfl) (mnear_c _ x0) ?_
    refine runTf g'2 ?_
    refine gd_split (fun h7 => ?_) (fun h7 => ?_)
    · have h7d := bsT h7
      have hwx0 := within_iff.1 h7d
      have g'3 := (jn @h7 (jn @h7d g'2))
      refine runTf g'3 ?_
      refine call_v (by kernel_rfl) (mnear_c _ y0) ?_
      refine runTf g'3 ?_
      refine gd_split (fun h8 => ?_) (fun h8 => ?_)
      · have h8d := bsT h8
        have hwy0 := within_iff.1 h8d
        have g'4 := (jn @h8 (jn @h8d g'3))
        refine runTf g'4 ?_
        refine call_v (by kernel_rfl) (mnear_c _ x1) ?_
        refine runTf g'4 ?_
        refine gd_split (fun h9 => ?_) (fun h9 => ?_)
        · have h9d := bsT h9
          have hwx1 := within_iff.1 h9d
          have g'5 := (jn @h9 (jn @h9d g'4))
          refine runTf g'5 ?_
          refine call_v (by kernel_rfl) (mnear_c _ y1) ?_
          refine runTf g'5 ?_
          refine gd_split (fun h10 => ?_) (fun h10 => ?_)
          · have h10d := bsT h10
            have hwy1 := within_iff.1 h10d
            have g'6 := (jn @h10 (jn @h10d g'5))
            refine runTf g'6 ?_
            refine call_v (by kernel_rfl) (mwithin_c _ (x1 - x0) 0 32768) ?_
            refine runTf g'6 ?_
            refine gd_split (fun h11 => ?_) (fun h11 => ?_)
            · have h11d := bsT h11
              have g'7 := (jn @h11 (jn @h11d g'6))
              refine runTf g'7 ?_
              refine call_v (by kernel_rfl) (mwithin_c _ (y1 - y0) 0 32768) ?_
              refine runTf g'7 ?_
              refine gd_split (fun h12 => ?_) (fun h12 => ?_)
              · have h12d := bsT h12
                have g'8 := (jn @h12 (jn @h12d g'7))
                refine runTf g'8 ?_
                refine call_v (by kernel_rfl) (vcmd_c _ t f) ?_
                refine runTf g'8 ?_
                refine gd_split (fun h13 => ?_) (fun h13 => ?_)
                · have h13d := bsT h13
                  have g'9 := (jn @h13 (jn @h13d g'8))
                  refine runTf g'9 ?_
                  refine call_v (by kernel_rfl) (vbnd_c _ tu le sl ra) ?_
                  refine runTf g'9 ?_
                  refine cond_split (fun h14 => ?_) (fun h14 => ?_)
                  · have h14d := bsT h14
                    have g'10 := (jn @h14 (jn @h14d g'9))
                    refine runTf g'10 ?_
                    refine hQ _ _ (end_byG (.inl rfl) hbel (x1 := .tup [.agg [.int .i64 0, .int .i64 0, .sl none 0 (some 0)], .int .i64 1]) (l2 := [.cells false 2 []]) (.tup [.agg [.int .i64 0, .int .i64 0, .sl (some (H.length, 0)) 0 (some 0)], .int .i64 1]) (resTf (jn @f1 (jn @f2 (jn @f3 (jn @f4 (jn @f5 @f6))))) Tryz.results13) [.cells false 2 []] rfl [4] (by decide) ⟨by first | (simp [mkX, mkL, sweE, sweB, capG_0, ownG_0, prs_nil, h7d, h8d, h9d, h10d, h11d, h12d, h13d, h14d]; done) | (simp [mkX, mkL, sweE, hok, capG_0, ownG_0, prs_nil, h7d, h8d, h9d, h10d, h11d, h12d, h13d, h14d]; done) | (rw [hfinE]; simp only [mkX_0, mkL_0, sweX, sweY, sweL, wayL, hlf, hfinF, if_true, if_false, sw_eq, ← sw_eq0, Int.add_zero]), by first | (simp [mkX, mkL, sweE, sweB, capG_0, ownG_0, prs_nil, h7d, h8d, h9d, h10d, h11d, h12d, h13d, h14d]; done) | (simp [mkX, mkL, sweE, hok, capG_0, ownG_0, prs_nil, h7d, h8d, h9d, h10d, h11d, h12d, h13d, h14d]; done) | (rw [hfinE]; simp only [mkX_0, mkL_0, sweX, sweY, sweL, wayL, hlf, hfinF, if_true, if_false, sw_eq, ← sw_eq0, Int.add_zero])⟩ ?_)
                    exact absW
                  · have h14d := bsT h14
                    have g'11 := (jn @h14 (jn @h14d g'9))
                    refine runTf g'11 ?_
                    refine inv_of ?_
                    exact absTf (jn @f1 (jn @f2 (jn @f3 (jn @f4 (jn @f5 @f6)))))
                · have h13d := bsT h13
                  have g'12 := (jn @h13 (jn @h13d g'8))
                  refine runTf g'12 ?_
                  refine hQ _ _ (end_byG (.inl rfl) hbel (x1 := .tup [.agg [.int .i64 0, .int .i64 0, .sl none 0 (some 0)], .int .i64 1]) (l2 := [.cells false 2 []]) (.tup [.agg [.int .i64 0, .int .i64 0, .sl (some (H.length, 0)) 0 (some 0)], .int .i64 1]) (resTf (jn @f1 (jn @f2 (jn @f3 (jn @f4 (jn @f5 @f6))))) Tryz.results13) [.cells false 2 []] rfl [4] (by decide) ⟨by first | (simp [mkX, mkL, sweE, sweB, capG_0, ownG_0, prs_nil, h7d, h8d, h9d, h10d, h11d, h12d, h13d]; done) | (simp [mkX, mkL, sweE, hok, capG_0, ownG_0, prs_nil, h7d, h8d, h9d, h10d, h11d, h12d, h13d]; done) | (rw [hfinE]; simp only [mkX_0, mkL_0, sweX, sweY, sweL, wayL, hlf, hfinF, if_true, if_false, sw_eq, ← sw_eq0, Int.add_zero]), by first | (simp [mkX, mkL, sweE, sweB, capG_0, ownG_0, prs_nil, h7d, h8d, h9d, h10d, h11d, h12d, h13d]; done) | (simp [mkX, mkL, sweE, hok, capG_0, ownG_0, prs_nil, h7d, h8d, h9d, h10d, h11d, h12d, h13d]; done) | (rw [hfinE]; simp only [mkX_0, mkL_0, sweX, sweY, sweL, wayL, hlf, hfinF, if_true, if_false, sw_eq, ← sw_eq0, Int.add_zero])⟩ ?_)
                  exact absW
              · have h12d := bsT h12
                have g'13 := (jn @h12 (jn @h12d g'7))
                refine runTf g'13 ?_
                refine hQ _ _ (end_byG (.inl rfl) hbel (x1 := .tup [.agg [.int .i64 0, .int .i64 0, .sl none 0 (some 0)], .int .i64 1]) (l2 := [.cells false 2 []]) (.tup [.agg [.int .i64 0, .int .i64 0, .sl (some (H.length, 0)) 0 (some 0)], .int .i64 1]) (resTf (jn @f1 (jn @f2 (jn @f3 (jn @f4 (jn @f5 @f6))))) Tryz.results13) [.cells false 2 []] rfl [4] (by decide) ⟨by first | (simp [mkX, mkL, sweE, sweB, capG_0, ownG_0, prs_nil, h7d, h8d, h9d, h10d, h11d, h12d]; done) | (simp [mkX, mkL, sweE, hok, capG_0, ownG_0, prs_nil, h7d, h8d, h9d, h10d, h11d, h12d]; done) | (rw [hfinE]; simp only [mkX_0, mkL_0, sweX, sweY, sweL, wayL, hlf, hfinF, if_true, if_false, sw_eq, ← sw_eq0, Int.add_zero]), by first | (simp [mkX, mkL, sweE, sweB, capG_0, ownG_0, prs_nil, h7d, h8d, h9d, h10d, h11d, h12d]; done) | (simp [mkX, mkL, sweE, hok, capG_0, ownG_0, prs_nil, h7d, h8d, h9d, h10d, h11d, h12d]; done) | (rw [hfinE]; simp only [mkX_0, mkL_0, sweX, sweY, sweL, wayL, hlf, hfinF, if_true, if_false, sw_eq, ← sw_eq0, Int.add_zero])⟩ ?_)
                exact absW
            · have h11d := bsT h11
              have g'14 := (jn @h11 (jn @h11d g'6))
              refine runTf g'14 ?_
              refine hQ _ _ (end_byG (.inl rfl) hbel (x1 := .tup [.agg [.int .i64 0, .int .i64 0, .sl none 0 (some 0)], .int .i64 1]) (l2 := [.cells false 2 []]) (.tup [.agg [.int .i64 0, .int .i64 0, .sl (some (H.length, 0)) 0 (some 0)], .int .i64 1]) (resTf (jn @f1 (jn @f2 (jn @f3 (jn @f4 (jn @f5 @f6))))) Tryz.results13) [.cells false 2 []] rfl [4] (by decide) ⟨by first | (simp [mkX, mkL, sweE, sweB, capG_0, ownG_0, prs_nil, h7d, h8d, h9d, h10d, h11d]; done) | (simp [mkX, mkL, sweE, hok, capG_0, ownG_0, prs_nil, h7d, h8d, h9d, h10d, h11d]; done) | (rw [hfinE]; simp only [mkX_0, mkL_0, sweX, sweY, sweL, wayL, hlf, hfinF, if_true, if_false, sw_eq, ← sw_eq0, Int.add_zero]), by first | (simp [mkX, mkL, sweE, sweB, capG_0, ownG_0, prs_nil, h7d, h8d, h9d, h10d, h11d]; done) | (simp [mkX, mkL, sweE, hok, capG_0, ownG_0, prs_nil, h7d, h8d, h9d, h10d, h11d]; done) | (rw [hfinE]; simp only [mkX_0, mkL_0, sweX, sweY, sweL, wayL, hlf, hfinF, if_true, if_false, sw_eq, ← sw_eq0, Int.add_zero])⟩ ?_)
              exact absW
          · have h10d := bsT h10
            have g'15 := (jn @h10 (jn @h10d g'5))
            refine runTf g'15 ?_
            refine hQ _ _ (end_byG (.inl rfl) hbel (x1 := .tup [.agg [.int .i64 0, .int .i64 0, .sl none 0 (some 0)], .int .i64 1]) (l2 := [.cells false 2 []]) (.tup [.agg [.int .i64 0, .int .i64 0, .sl (some (H.length, 0)) 0 (some 0)], .int .i64 1]) (resTf (jn @f1 (jn @f2 (jn @f3 (jn @f4 (jn @f5 @f6))))) Tryz.results13) [.cells false 2 []] rfl [4] (by decide) ⟨by first | (simp [mkX, mkL, sweE, sweB, capG_0, ownG_0, prs_nil, h7d, h8d, h9d, h10d]; done) | (simp [mkX, mkL, sweE, hok, capG_0, ownG_0, prs_nil, h7d, h8d, h9d, h10d]; done) | (rw [hfinE]; simp only [mkX_0, mkL_0, sweX, sweY, sweL, wayL, hlf, hfinF, if_true, if_false, sw_eq, ← sw_eq0, Int.add_zero]), by first | (simp [mkX, mkL, sweE, sweB, capG_0, ownG_0, prs_nil, h7d, h8d, h9d, h10d]; done) | (simp [mkX, mkL, sweE, hok, capG_0, ownG_0, prs_nil, h7d, h8d, h9d, h10d]; done) | (rw [hfinE]; simp only [mkX_0, mkL_0, sweX, sweY, sweL, wayL, hlf, hfinF, if_true, if_false, sw_eq, ← sw_eq0, Int.add_zero])⟩ ?_)
            exact absW
        · have h9d := bsT h9
          have g'16 := (jn @h9 (jn @h9d g'4))
          refine runTf g'16 ?_
          refine hQ _ _ (end_byG (.inl rfl) hbel (x1 := .tup [.agg [.int .i64 0, .int .i64 0, .sl none 0 (some 0)], .int .i64 1]) (l2 := [.cells false 2 []]) (.tup [.agg [.int .i64 0, .int .i64 0, .sl (some (H.length, 0)) 0 (some 0)], .int .i64 1]) (resTf (jn @f1 (jn @f2 (jn @f3 (jn @f4 (jn @f5 @f6))))) Tryz.results13) [.cells false 2 []] rfl [4] (by decide) ⟨by first | (simp [mkX, mkL, sweE, sweB, capG_0, ownG_0, prs_nil, h7d, h8d, h9d]; done) | (simp [mkX, mkL, sweE, hok, capG_0, ownG_0, prs_nil, h7d, h8d, h9d]; done) | (rw [hfinE]; simp only [mkX_0, mkL_0, sweX, sweY, sweL, wayL, hlf, hfinF, if_true, if_false, sw_eq, ← sw_eq0, Int.add_zero]), by first | (simp [mkX, mkL, sweE, sweB, capG_0, ownG_0, prs_nil, h7d, h8d, h9d]; done) | (simp [mkX, mkL, sweE, hok, capG_0, ownG_0, prs_nil, h7d, h8d, h9d]; done) | (rw [hfinE]; simp only [mkX_0, mkL_0, sweX, sweY, sweL, wayL, hlf, hfinF, if_true, if_false, sw_eq, ← sw_eq0, Int.add_zero])⟩ ?_)
          exact absW
      · have h8d := bsT h8
        have g'17 := (jn @h8 (jn @h8d g'3))
        refine runTf g'17 ?_
        refine hQ _ _ (end_byG (.inl rfl) hbel (x1 := .tup [.agg [.int .i64 0, .int .i64 0, .sl none 0 (some 0)], .int .i64 1]) (l2 := [.cells false 2 []]) (.tup [.agg [.int .i64 0, .int .i64 0, .sl (some (H.length, 0)) 0 (some 0)], .int .i64 1]) (resTf (jn @f1 (jn @f2 (jn @f3 (jn @f4 (jn @f5 @f6))))) Tryz.results13) [.cells false 2 []] rfl [4] (by decide) ⟨by first | (simp [mkX, mkL, sweE, sweB, capG_0, ownG_0, prs_nil, h7d, h8d]; done) | (simp [mkX, mkL, sweE, hok, capG_0, ownG_0, prs_nil, h7d, h8d]; done) | (rw [hfinE]; simp only [mkX_0, mkL_0, sweX, sweY, sweL, wayL, hlf, hfinF, if_true, if_false, sw_eq, ← sw_eq0, Int.add_zero]), by first | (simp [mkX, mkL, sweE, sweB, capG_0, ownG_0, prs_nil, h7d, h8d]; done) | (simp [mkX, mkL, sweE, hok, capG_0, ownG_0, prs_nil, h7d, h8d]; done) | (rw [hfinE]; simp only [mkX_0, mkL_0, sweX, sweY, sweL, wayL, hlf, hfinF, if_true, if_false, sw_eq, ← sw_eq0, Int.add_zero])⟩ ?_)
        exact absW
    · have h7d := bsT h7
      have g'18 := (jn @h7 (jn @h7d g'2))
      refine runTf g'18 ?_
      refine hQ _ _ (end_byG (.inl rfl) hbel (x1 := .tup [.agg [.int .i64 0, .int .i64 0, .sl none 0 (some 0)], .int .i64 1]) (l2 := [.cells false 2 []]) (.tup [.agg [.int .i64 0, .int .i64 0, .sl (some (H.length, 0)) 0 (some 0)], .int .i64 1]) (resTf (jn @f1 (jn @f2 (jn @f3 (jn @f4 (jn @f5 @f6))))) Tryz.results13) [.cells false 2 []] rfl [4] (by decide) ⟨by first | (simp [mkX, mkL, sweE, sweB, capG_0, ownG_0, prs_nil, h7d]; done) | (simp [mkX, mkL, sweE, hok, capG_0, ownG_0, prs_nil, h7d]; done) | (rw [hfinE]; simp only [mkX_0, mkL_0, sweX, sweY, sweL, wayL, hlf, hfinF, if_true, if_false, sw_eq, ← sw_eq0, Int.add_zero]), by first | (simp [mkX, mkL, sweE, sweB, capG_0, ownG_0, prs_nil, h7d]; done) | (simp [mkX, mkL, sweE, hok, capG_0, ownG_0, prs_nil, h7d]; done) | (rw [hfinE]; simp only [mkX_0, mkL_0, sweX, sweY, sweL, wayL, hlf, hfinF, if_true, if_false, sw_eq, ← sw_eq0, Int.add_zero])⟩ ?_)
      exact absW
  rintro F Hx ⟨h15d, h16d, h17d, h18d, h19d, h20d, h21d, h22d, f23, f24, f25, f26, f27, f28, rfl⟩
  have hok : sweB x0 y0 x1 y1 t f tu le sl ra = true := by unfold sweB; rw [h15d, h16d, h17d, h18d, h19d, h20d, h21d, h22d]; rfl
  have hbd := swe_bd hok
  have hre : rectE x0 y0 x1 y1 = 0 := if_pos ⟨by unfold far4; simp only [Bool.and_eq_true, within_iff]; omega, by omega, by omega, by omega, by omega⟩
  have hrs := rec_spr (x0 := x0) (y0 := y0) (x1 := x1) (y1 := y1) (by omega) (by omega)
  have hq1 := sqr_spr (a := 20) (by omega)
  have hq2 := sqr_spr (a := sl + 21) (by omega)
  refine AW_step false try_mixed (by kernel_rfl) (fun F Hx => btw h 0 255 = true ∧ look F 1 = .int .i64 h ∧ look F 4 = .ptr (some (H.length, 0)) ∧ look F 6 = .ptr (some (H.length + 1, 0)) ∧ look F 7 = .ptr (some (H.length + 2, 0)) ∧ look F 8 = .ptr (some (H.length + 3, 0)) ∧ look F 9 = .int .i64 0 ∧ Hx = H ++ [.cells true 0 [.int .i64 x0, .int .i64 y0, .int .i64 x1, .int .i64 y1], .cells true 0 [.int .i64 t, .int .i64 f], .cells true 0 [.int .i64 tu, .int .i64 le, .int .i64 sl, .int .i64 ra], .cells true 0 [.int .i64 0, .int .i64 0, .sl none 0 (some 0)]]) ?_ ?_
  · skip
    have g'19 := (jn @f1 (jn @f2 (jn @f3 (jn @f4 (jn @f5 (jn @f6 (jn @f23 (jn @f24 (jn @f25 (jn @f26 (jn @f27 (jn @f28 (jn @h15d (jn @h16d (jn @h17d (jn @h18d (jn @h19d (jn @h20d (jn @h21d (jn @h22d (jn @hwx @hwy)))))))))))))))))))))
    refine runTf g'19 ?_
    refine call_v (by kernel_rfl) (mwithin_c _ h 0 255) ?_
    refine runTf g'19 ?_
    refine cond_split (fun h29 => ?_) (fun h29 => ?_)
    · have h29d := bsT h29
      have g'20 := (jn @h29 (jn @h29d g'19))
      refine runTf g'20 ?_
      refine hQ _ _ (end_byG (.inl rfl) hbel (x1 := .tup [.agg [.int .i64 0, .int .i64 0, .sl none 0 (some 0)], .int .i64 2]) (l2 := [.cells false 2 []]) (.tup [.agg [.int .i64 0, .int .i64 0, .sl (some (H.length, 0)) 0 (some 0)], .int .i64 2]) (resTf (jn @f1 (jn @f2 (jn @f3 (jn @f4 (jn @f5 (jn @f6 (jn @f23 (jn @f24 (jn @f25 (jn @f26 (jn @f27 @f28))))))))))) Tryz.results13) [.cells false 2 []] rfl [4] (by decide) ⟨by first | (simp [mkX, mkL, sweE, sweB, capG_0, ownG_0, prs_nil, h15d, h16d, h17d, h18d, h19d, h20d, h21d, h22d, h29d]; done) | (simp [mkX, mkL, sweE, hok, capG_0, ownG_0, prs_nil, h15d, h16d, h17d, h18d, h19d, h20d, h21d, h22d, h29d]; done) | (rw [hfinE]; simp only [mkX_0, mkL_0, sweX, sweY, sweL, wayL, hlf, hfinF, if_true, if_false, sw_eq, ← sw_eq0, Int.add_zero]), by first | (simp [mkX, mkL, sweE, sweB, capG_0, ownG_0, prs_nil, h15d, h16d, h17d, h18d, h19d, h20d, h21d, h22d, h29d]; done) | (simp [mkX, mkL, sweE, hok, capG_0, ownG_0, prs_nil, h15d, h16d, h17d, h18d, h19d, h20d, h21d, h22d, h29d]; done) | (rw [hfinE]; simp only [mkX_0, mkL_0, sweX, sweY, sweL, wayL, hlf, hfinF, if_true, if_false, sw_eq, ← sw_eq0, Int.add_zero])⟩ ?_)
      exact absW
    · have h29d := bsT h29
      have g'21 := (jn @h29 (jn @h29d g'19))
      refine runTf g'21 ?_
      refine inv_of ?_
      exact absTf (jn @f1 (jn @f2 (jn @f3 (jn @f4 (jn @f5 (jn @f6 (jn @f23 (jn @f24 (jn @f25 (jn @f26 (jn @f27 @f28)))))))))))
  rintro F Hx ⟨h30d, f31, f32, f33, f34, f35, f36, rfl⟩
  have hfinE : sweE x0 y0 x1 y1 h t f tu le sl ra = 0 := by unfold sweE; rw [hok, h30d]; rfl
  have hz0 : sumE (x0 + x1) (y0 + y1) (canonL (recL x0 y0 x1 y1)) 0 0 (canonL (sqrL 20)) = 0 := sum_ok (by omega) (by omega) (by omega) (by omega) (by simp [recL, sqrL]) (by omega) (by omega)
  refine AW_step false try_mixed (by kernel_rfl) (fun F Hx => look F 1 = .int .i64 h ∧ look F 6 = .ptr (some (H.length + 1, 0)) ∧ look F 7 = .ptr (some (H.length + 2, 0)) ∧ look F 8 = .ptr (some (H.length + 3, 0)) ∧ look F 9 = .int .i64 0 ∧ look F 10 = .ptr (some (H.length + 5, 0)) ∧ Hx = H ++ [.cells true 0 [.int .i64 x0, .int .i64 y0, .int .i64 x1, .int .i64 y1], .cells true 0 [.int .i64 t, .int .i64 f], .cells true 0 [.int .i64 tu, .int .i64 le, .int .i64 sl, .int .i64 ra], .cells true 0 [.int .i64 0, .int .i64 0, .sl none 0 (some 0)], .cells (ownG (canonL (recL x0 y0 x1 y1)).length) 2 (prs (canonL (recL x0 y0 x1 y1))), .cells true 0 [.int .i64 (x0 + x1), .int .i64 (y0 + y1), .sl (some (H.length + 4, 0)) ((canonL (recL x0 y0 x1 y1)).length) (capG (canonL (recL x0 y0 x1 y1)).length)]]) ?_ ?_
  · skip
    have g'22 := (jn @f1 (jn @f2 (jn @f3 (jn @f4 (jn @f5 (jn @f6 (jn @f23 (jn @f24 (jn @f25 (jn @f26 (jn @f27 (jn @f28 (jn @h15d (jn @h16d (jn @h17d (jn @h18d (jn @h19d (jn @h20d (jn @h21d (jn @h22d (jn @f31 (jn @f32 (jn @f33 (jn @f34 (jn @f35 (jn @f36 (jn @h30d (jn @hwx @hwy))))))))))))))))))))))))))))
    refine runTf g'22 ?_
    refine call_v (by kernel_rfl) (ofrect_0 _ x0 y0 x1 y1 (by assumption)) ?_
    refine runTf g'22 ?_
    refine inv_of ?_
    exact absTf (jn @f1 (jn @f2 (jn @f3 (jn @f4 (jn @f5 (jn @f6 (jn @f23 (jn @f24 (jn @f25 (jn @f26 (jn @f27 (jn @f28 (jn @f31 (jn @f32 (jn @f33 (jn @f34 (jn @f35 @f36)))))))))))))))))
  rintro F Hx ⟨f37, f38, f39, f40, f41, f42, rfl⟩
  refine AW_step false try_mixed (by kernel_rfl) (fun F Hx => (f == 0) = false ∧ look F 1 = .int .i64 h ∧ look F 6 = .ptr (some (H.length + 1, 0)) ∧ look F 7 = .ptr (some (H.length + 2, 0)) ∧ look F 8 = .ptr (some (H.length + 3, 0)) ∧ look F 9 = .int .i64 0 ∧ look F 10 = .ptr (some (H.length + 5, 0)) ∧ Hx = H ++ [.cells true 0 [.int .i64 x0, .int .i64 y0, .int .i64 x1, .int .i64 y1], .cells true 0 [.int .i64 t, .int .i64 f], .cells true 0 [.int .i64 tu, .int .i64 le, .int .i64 sl, .int .i64 ra], .cells true 0 [.int .i64 0, .int .i64 0, .sl none 0 (some 0)], .cells (ownG (canonL (recL x0 y0 x1 y1)).length) 2 (prs (canonL (recL x0 y0 x1 y1))), .cells true 0 [.int .i64 (x0 + x1), .int .i64 (y0 + y1), .sl (some (H.length + 4, 0)) ((canonL (recL x0 y0 x1 y1)).length) (capG (canonL (recL x0 y0 x1 y1)).length)]]) ?_ ?_
  · skip
    have g'23 := (jn @f1 (jn @f2 (jn @f3 (jn @f4 (jn @f5 (jn @f6 (jn @f23 (jn @f24 (jn @f25 (jn @f26 (jn @f27 (jn @f28 (jn @h15d (jn @h16d (jn @h17d (jn @h18d (jn @h19d (jn @h20d (jn @h21d (jn @h22d (jn @f31 (jn @f32 (jn @f33 (jn @f34 (jn @f35 (jn @f36 (jn @h30d (jn @f37 (jn @f38 (jn @f39 (jn @f40 (jn @f41 (jn @f42 (jn @hwx @hwy))))))))))))))))))))))))))))))))))
    refine runTf g'23 ?_
    refine cond_split (fun h43 => ?_) (fun h43 => ?_)
    · have h43d := bsT h43
      have hfinF : f = 0 := h43d
      have g'24 := (jn @h43 (jn @h43d (jn @int_bne (jn @int_beq g'23))))
      refine runTf g'24 ?_
      refine call_x (by kernel_rfl) (by simp) (square_c _ 20 (by omega)) ?_
      refine runTf g'24 ?_
      refine call_x (by kernel_rfl) (by simp) (Sum_0 _ (x0 + x1) (y0 + y1) _ (canonL (recL x0 y0 x1 y1)) 0 0 _ (canonL (sqrL 20)) ⟨_, _, _, by first | rfl | (rw [List.length_append]; done) | (rw [List.length_append]; rfl), by first | rfl | (rw [get_newk]; rfl) | (rw [get_new0]; rfl) | (rw [get_newk, prs_append]; rfl) | (rw [get_new0, prs_append]; rfl)⟩ ⟨_, _, _, by first | rfl | (rw [List.length_append]; done) | (rw [List.length_append]; rfl), by first | rfl | (rw [get_newk]; rfl) | (rw [get_new0]; rfl) | (rw [get_newk, prs_append]; rfl) | (rw [get_new0, prs_append]; rfl)⟩ (by assumption)) ?_
      refine runTf g'24 ?_
      refine hQ _ _ (end_byG (.inl rfl) hbel (x1 := .tup [.agg [.int .i64 ((x0 + x1) + 0), .int .i64 ((y0 + y1) + 0), .sl (some (H.length + 7, 0)) ((canonL ((canonL (recL x0 y0 x1 y1)) ++ (canonL (sqrL 20)))).length) (capG (canonL ((canonL (recL x0 y0 x1 y1)) ++ (canonL (sqrL 20)))).length)], .int .i64 0]) (l2 := [.cells (ownG (canonL ((canonL (recL x0 y0 x1 y1)) ++ (canonL (sqrL 20)))).length) 2 (prs (canonL ((canonL (recL x0 y0 x1 y1)) ++ (canonL (sqrL 20)))))]) (.tup [.agg [.int .i64 ((x0 + x1) + 0), .int .i64 ((y0 + y1) + 0), .sl (some (H.length, 0)) ((canonL ((canonL (recL x0 y0 x1 y1)) ++ (canonL (sqrL 20)))).length) (capG (canonL ((canonL (recL x0 y0 x1 y1)) ++ (canonL (sqrL 20)))).length)], .int .i64 0]) (resTf (jn @f1 (jn @f2 (jn @f3 (jn @f4 (jn @f5 (jn @f6 (jn @f23 (jn @f24 (jn @f25 (jn @f26 (jn @f27 (jn @f28 (jn @f31 (jn @f32 (jn @f33 (jn @f34 (jn @f35 (jn @f36 (jn @f37 (jn @f38 (jn @f39 (jn @f40 (jn @f41 @f42))))))))))))))))))))))) Tryz.results13) [] rfl [7] (by decide) ⟨by first | (simp [mkX, mkL, sweE, sweB, capG_0, ownG_0, prs_nil, h15d, h16d, h17d, h18d, h19d, h20d, h21d, h22d, h30d, h43d, hfinE, hfinF]; done) | (simp [mkX, mkL, sweE, hok, capG_0, ownG_0, prs_nil, h15d, h16d, h17d, h18d, h19d, h20d, h21d, h22d, h30d, h43d, hfinE, hfinF]; done) | (rw [hfinE]; simp only [mkX_0, mkL_0, sweX, sweY, sweL, wayL, hlf, hfinF, if_true, if_false, sw_eq, ← sw_eq0, Int.add_zero]), by first | (simp [mkX, mkL, sweE, sweB, capG_0, ownG_0, prs_nil, h15d, h16d, h17d, h18d, h19d, h20d, h21d, h22d, h30d, h43d, hfinE, hfinF]; done) | (simp [mkX, mkL, sweE, hok, capG_0, ownG_0, prs_nil, h15d, h16d, h17d, h18d, h19d, h20d, h21d, h22d, h30d, h43d, hfinE, hfinF]; done) | (rw [hfinE]; simp only [mkX_0, mkL_0, sweX, sweY, sweL, wayL, hlf, hfinF, if_true, if_false, sw_eq, ← sw_eq0, Int.add_zero])⟩ ?_)
      exact absW
    · have h43d := bsT h43
      have g'25 := (jn @h43 (jn @h43d (jn @int_bne (jn @int_beq g'23))))
      refine runTf g'25 ?_
      refine inv_of ?_
      exact absTf (jn @f1 (jn @f2 (jn @f3 (jn @f4 (jn @f5 (jn @f6 (jn @f23 (jn @f24 (jn @f25 (jn @f26 (jn @f27 (jn @f28 (jn @f31 (jn @f32 (jn @f33 (jn @f34 (jn @f35 (jn @f36 (jn @f37 (jn @f38 (jn @f39 (jn @f40 (jn @f41 @f42)))))))))))))))))))))))
  rintro F Hx ⟨h44d, f45, f46, f47, f48, f49, f50, rfl⟩
  have hfinF : ¬ f = 0 := by simpa using h44d
  have hdv := vecOK_iff.1 (dirV_ok h)
  have hpx := mul_bd (a := f + le) (b := (dirV h).1) (A := 48) (B := 8065) (by omega) (by omega)
  have hpy := mul_bd (a := f + le) (b := (dirV h).2.1) (A := 48) (B := 8065) (by omega) (by omega)
  have hwb := way_bd h (m := f + le) (by omega)
  have hws := way_spr (h := h) (m := f + le) (by omega)
  have hwe : segE 0 0 (wayX h (f + le)) (wayY h (f + le)) = 0 := if_pos ⟨by unfold far4; simp only [Bool.and_eq_true, within_iff]; omega, by rw [within_iff]; omega, by rw [within_iff]; omega⟩
  have hz1 : sumE (x0 + x1) (y0 + y1) (canonL (recL x0 y0 x1 y1)) (wayX h (f + le)) (wayY h (f + le)) (canonL [(wayX h (f + le), wayY h (f + le))]) = 0 := sum_ok (by omega) (by omega) (by omega) (by omega) (by simp [recL]) (by omega) (by omega)
  have hz2 : sumE (x0 + x1 + wayX h (f + le)) (y0 + y1 + wayY h (f + le)) (canonL (canonL (recL x0 y0 x1 y1) ++ canonL [(wayX h (f + le), wayY h (f + le))])) 0 0 (canonL (sqrL (sl + 21))) = 0 := sum_ok (by omega) (by omega) (by omega) (by omega) (by have a1 := canonL_len (recL x0 y0 x1 y1); have a2 := canonL_len [(wayX h (f + le), wayY h (f + le))]; have a3 : (recL x0 y0 x1 y1).length = 2 := rfl; have a4 : (sqrL (sl + 21)).length = 2 := rfl; rw [List.length_append]; simp only [List.length_cons, List.length_nil] at a2; omega) (by rw [spr_app, spr_canon, spr_canon]; omega) (by rw [spr_app, spr_canon, spr_canon]; omega)
  refine AW_special false try_mixed [[0, 1, 2, 3, 4, 5, 6, 7, 8, 9], [0, 1, 2, 3, 4, 7, 8, 5, 6, 9], [0, 1, 2, 4, 5, 7, 8, 3, 6, 9], [0, 1, 2, 4, 7, 8, 3, 5, 6, 9], [0, 2, 3, 4, 5, 6, 7, 1, 8, 9], [0, 2, 3, 4, 7, 1, 8, 5, 6, 9], [0, 2, 4, 5, 7, 1, 8, 3, 6, 9], [0, 2, 4, 7, 1, 8, 3, 5, 6, 9]] (by kernel_rfl) (fun F2 H2 => F2 = [(7, .ptr (some (H.length, 0))), (8, .ptr (some (H.length + 1, 0))), (9, .int .i64 0), (10, .ptr (some (H.length + 3, 0))), (12, .ptr (some (H.length + 4, 0))), (13, .int .i64 (f + le))] ∧ H2 = H ++ [.cells true 0 [.int .i64 tu, .int .i64 le, .int .i64 sl, .int .i64 ra], .cells true 0 [.int .i64 0, .int .i64 0, .sl none 0 (some 0)], .cells (ownG (canonL (recL x0 y0 x1 y1)).length) 2 (prs (canonL (recL x0 y0 x1 y1))), .cells true 0 [.int .i64 (x0 + x1), .int .i64 (y0 + y1), .sl (some (H.length + 2, 0)) ((canonL (recL x0 y0 x1 y1)).length) (capG (canonL (recL x0 y0 x1 y1)).length)], .cells true 0 [.int .i64 ((dirV h).1), .int .i64 ((dirV h).2.1), .int .i64 ((dirV h).2.2)]]) ?_ ?_
  · refine reps_cons ?_ (reps_cons ?_ (reps_cons ?_ (reps_cons ?_ (reps_cons ?_ (reps_cons ?_ (reps_cons ?_ (reps_cons ?_ (reps_nil)))))))) <;> intro J hJ
    · skip
      have g'26 := (jn @f1 (jn @f2 (jn @f3 (jn @f4 (jn @f5 (jn @f6 (jn @f23 (jn @f24 (jn @f25 (jn @f26 (jn @f27 (jn @f28 (jn @h15d (jn @h16d (jn @h17d (jn @h18d (jn @h19d (jn @h20d (jn @h21d (jn @h22d (jn @f31 (jn @f32 (jn @f33 (jn @f34 (jn @f35 (jn @f36 (jn @h30d (jn @f37 (jn @f38 (jn @f39 (jn @f40 (jn @f41 (jn @f42 (jn @f45 (jn @f46 (jn @f47 (jn @f48 (jn @f49 (jn @f50 (jn @h44d (jn @hwx @hwy)))))))))))))))))))))))))))))))))))))))))
      refine runDf g'26 ?_
      refine call_d (by kernel_rfl) (dir_c _ h) ?_
      refine runDf g'26 ?_
      refine inv_of (hJ _ _ ⟨_, _, _, ⟨rfl, rfl⟩, Abs.byG hbel [] rfl [2, 3, 4, 5, 6] (by decide) ?_⟩)
      exact absRf (jn @f1 (jn @f2 (jn @f3 (jn @f4 (jn @f5 (jn @f6 (jn @f23 (jn @f24 (jn @f25 (jn @f26 (jn @f27 (jn @f28 (jn @f31 (jn @f32 (jn @f33 (jn @f34 (jn @f35 (jn @f36 (jn @f37 (jn @f38 (jn @f39 (jn @f40 (jn @f41 (jn @f42 (jn @f45 (jn @f46 (jn @f47 (jn @f48 (jn @f49 @f50)))))))))))))))))))))))))))))
    · skip
      have g'27 := (jn @f1 (jn @f2 (jn @f3 (jn @f4 (jn @f5 (jn @f6 (jn @f23 (jn @f24 (jn @f25 (jn @f26 (jn @f27 (jn @f28 (jn @h15d (jn @h16d (jn @h17d (jn @h18d (jn @h19d (jn @h20d (jn @h21d (jn @h22d (jn @f31 (jn @f32 (jn @f33 (jn @f34 (jn @f35 (jn @f36 (jn @h30d (jn @f37 (jn @f38 (jn @f39 (jn @f40 (jn @f41 (jn @f42 (jn @f45 (jn @f46 (jn @f47 (jn @f48 (jn @f49 (jn @f50 (jn @h44d (jn @hwx @hwy)))))))))))))))))))))))))))))))))))))))))
      refine runDf g'27 ?_
      refine call_d (by kernel_rfl) (dir_c _ h) ?_
      refine runDf g'27 ?_
      refine inv_of (hJ _ _ ⟨_, _, _, ⟨rfl, rfl⟩, Abs.byG hbel [] rfl [2, 3, 4, 5, 6] (by decide) ?_⟩)
      exact absRf (jn @f1 (jn @f2 (jn @f3 (jn @f4 (jn @f5 (jn @f6 (jn @f23 (jn @f24 (jn @f25 (jn @f26 (jn @f27 (jn @f28 (jn @f31 (jn @f32 (jn @f33 (jn @f34 (jn @f35 (jn @f36 (jn @f37 (jn @f38 (jn @f39 (jn @f40 (jn @f41 (jn @f42 (jn @f45 (jn @f46 (jn @f47 (jn @f48 (jn @f49 @f50)))))))))))))))))))))))))))))
    · skip
      have g'28 := (jn @f1 (jn @f2 (jn @f3 (jn @f4 (jn @f5 (jn @f6 (jn @f23 (jn @f24 (jn @f25 (jn @f26 (jn @f27 (jn @f28 (jn @h15d (jn @h16d (jn @h17d (jn @h18d (jn @h19d (jn @h20d (jn @h21d (jn @h22d (jn @f31 (jn @f32 (jn @f33 (jn @f34 (jn @f35 (jn @f36 (jn @h30d (jn @f37 (jn @f38 (jn @f39 (jn @f40 (jn @f41 (jn @f42 (jn @f45 (jn @f46 (jn @f47 (jn @f48 (jn @f49 (jn @f50 (jn @h44d (jn @hwx @hwy)))))))))))))))))))))))))))))))))))))))))
      refine runDf g'28 ?_
      refine call_d (by kernel_rfl) (dir_c _ h) ?_
      refine runDf g'28 ?_
      refine inv_of (hJ _ _ ⟨_, _, _, ⟨rfl, rfl⟩, Abs.byG hbel [] rfl [2, 3, 4, 5, 6] (by decide) ?_⟩)
      exact absRf (jn @f1 (jn @f2 (jn @f3 (jn @f4 (jn @f5 (jn @f6 (jn @f23 (jn @f24 (jn @f25 (jn @f26 (jn @f27 (jn @f28 (jn @f31 (jn @f32 (jn @f33 (jn @f34 (jn @f35 (jn @f36 (jn @f37 (jn @f38 (jn @f39 (jn @f40 (jn @f41 (jn @f42 (jn @f45 (jn @f46 (jn @f47 (jn @f48 (jn @f49 @f50)))))))))))))))))))))))))))))
    · skip
      have g'29 := (jn @f1 (jn @f2 (jn @f3 (jn @f4 (jn @f5 (jn @f6 (jn @f23 (jn @f24 (jn @f25 (jn @f26 (jn @f27 (jn @f28 (jn @h15d (jn @h16d (jn @h17d (jn @h18d (jn @h19d (jn @h20d (jn @h21d (jn @h22d (jn @f31 (jn @f32 (jn @f33 (jn @f34 (jn @f35 (jn @f36 (jn @h30d (jn @f37 (jn @f38 (jn @f39 (jn @f40 (jn @f41 (jn @f42 (jn @f45 (jn @f46 (jn @f47 (jn @f48 (jn @f49 (jn @f50 (jn @h44d (jn @hwx @hwy)))))))))))))))))))))))))))))))))))))))))
      refine runDf g'29 ?_
      refine call_d (by kernel_rfl) (dir_c _ h) ?_
      refine runDf g'29 ?_
      refine inv_of (hJ _ _ ⟨_, _, _, ⟨rfl, rfl⟩, Abs.byG hbel [] rfl [2, 3, 4, 5, 6] (by decide) ?_⟩)
      exact absRf (jn @f1 (jn @f2 (jn @f3 (jn @f4 (jn @f5 (jn @f6 (jn @f23 (jn @f24 (jn @f25 (jn @f26 (jn @f27 (jn @f28 (jn @f31 (jn @f32 (jn @f33 (jn @f34 (jn @f35 (jn @f36 (jn @f37 (jn @f38 (jn @f39 (jn @f40 (jn @f41 (jn @f42 (jn @f45 (jn @f46 (jn @f47 (jn @f48 (jn @f49 @f50)))))))))))))))))))))))))))))
    · skip
      have g'30 := (jn @f1 (jn @f2 (jn @f3 (jn @f4 (jn @f5 (jn @f6 (jn @f23 (jn @f24 (jn @f25 (jn @f26 (jn @f27 (jn @f28 (jn @h15d (jn @h16d (jn @h17d (jn @h18d (jn @h19d (jn @h20d (jn @h21d (jn @h22d (jn @f31 (jn @f32 (jn @f33 (jn @f34 (jn @f35 (jn @f36 (jn @h30d (jn @f37 (jn @f38 (jn @f39 (jn @f40 (jn @f41 (jn @f42 (jn @f45 (jn @f46 (jn @f47 (jn @f48 (jn @f49 (jn @f50 (jn @h44d (jn @hwx @hwy)))))))))))))))))))))))))))))))))))))))))
      refine runDf g'30 ?_
      refine call_d (by kernel_rfl) (dir_c _ h) ?_
      refine runDf g'30 ?_
      refine inv_of (hJ _ _ ⟨_, _, _, ⟨rfl, rfl⟩, Abs.byG hbel [] rfl [2, 3, 4, 5, 6] (by decide) ?_⟩)
      exact absRf (jn @f1 (jn @f2 (jn @f3 (jn @f4 (jn @f5 (jn @f6 (jn @f23 (jn @f24 (jn @f25 (jn @f26 (jn @f27 (jn @f28 (jn @f31 (jn @f32 (jn @f33 (jn @f34 (jn @f35 (jn @f36 (jn @f37 (jn @f38 (jn @f39 (jn @f40 (jn @f41 (jn @f42 (jn @f45 (jn @f46 (jn @f47 (jn @f48 (jn @f49 @f50)))))))))))))))))))))))))))))
    · skip
      have g'31 := (jn @f1 (jn @f2 (jn @f3 (jn @f4 (jn @f5 (jn @f6 (jn @f23 (jn @f24 (jn @f25 (jn @f26 (jn @f27 (jn @f28 (jn @h15d (jn @h16d (jn @h17d (jn @h18d (jn @h19d (jn @h20d (jn @h21d (jn @h22d (jn @f31 (jn @f32 (jn @f33 (jn @f34 (jn @f35 (jn @f36 (jn @h30d (jn @f37 (jn @f38 (jn @f39 (jn @f40 (jn @f41 (jn @f42 (jn @f45 (jn @f46 (jn @f47 (jn @f48 (jn @f49 (jn @f50 (jn @h44d (jn @hwx @hwy)))))))))))))))))))))))))))))))))))))))))
      refine runDf g'31 ?_
      refine call_d (by kernel_rfl) (dir_c _ h) ?_
      refine runDf g'31 ?_
      refine inv_of (hJ _ _ ⟨_, _, _, ⟨rfl, rfl⟩, Abs.byG hbel [] rfl [2, 3, 4, 5, 6] (by decide) ?_⟩)
      exact absRf (jn @f1 (jn @f2 (jn @f3 (jn @f4 (jn @f5 (jn @f6 (jn @f23 (jn @f24 (jn @f25 (jn @f26 (jn @f27 (jn @f28 (jn @f31 (jn @f32 (jn @f33 (jn @f34 (jn @f35 (jn @f36 (jn @f37 (jn @f38 (jn @f39 (jn @f40 (jn @f41 (jn @f42 (jn @f45 (jn @f46 (jn @f47 (jn @f48 (jn @f49 @f50)))))))))))))))))))))))))))))
    · skip
      have g'32 := (jn @f1 (jn @f2 (jn @f3 (jn @f4 (jn @f5 (jn @f6 (jn @f23 (jn @f24 (jn @f25 (jn @f26 (jn @f27 (jn @f28 (jn @h15d (jn @h16d (jn @h17d (jn @h18d (jn @h19d (jn @h20d (jn @h21d (jn @h22d (jn @f31 (jn @f32 (jn @f33 (jn @f34 (jn @f35 (jn @f36 (jn @h30d (jn @f37 (jn @f38 (jn @f39 (jn @f40 (jn @f41 (jn @f42 (jn @f45 (jn @f46 (jn @f47 (jn @f48 (jn @f49 (jn @f50 (jn @h44d (jn @hwx @hwy)))))))))))))))))))))))))))))))))))))))))
      refine runDf g'32 ?_
      refine call_d (by kernel_rfl) (dir_c _ h) ?_
      refine runDf g'32 ?_
      refine inv_of (hJ _ _ ⟨_, _, _, ⟨rfl, rfl⟩, Abs.byG hbel [] rfl [2, 3, 4, 5, 6] (by decide) ?_⟩)
      exact absRf (jn @f1 (jn @f2 (jn @f3 (jn @f4 (jn @f5 (jn @f6 (jn @f23 (jn @f24 (jn @f25 (jn @f26 (jn @f27 (jn @f28 (jn @f31 (jn @f32 (jn @f33 (jn @f34 (jn @f35 (jn @f36 (jn @f37 (jn @f38 (jn @f39 (jn @f40 (jn @f41 (jn @f42 (jn @f45 (jn @f46 (jn @f47 (jn @f48 (jn @f49 @f50)))))))))))))))))))))))))))))
    · skip
      have g'33 := (jn @f1 (jn @f2 (jn @f3 (jn @f4 (jn @f5 (jn @f6 (jn @f23 (jn @f24 (jn @f25 (jn @f26 (jn @f27 (jn @f28 (jn @h15d (jn @h16d (jn @h17d (jn @h18d (jn @h19d (jn @h20d (jn @h21d (jn @h22d (jn @f31 (jn @f32 (jn @f33 (jn @f34 (jn @f35 (jn @f36 (jn @h30d (jn @f37 (jn @f38 (jn @f39 (jn @f40 (jn @f41 (jn @f42 (jn @f45 (jn @f46 (jn @f47 (jn @f48 (jn @f49 (jn @f50 (jn @h44d (jn @hwx @hwy)))))))))))))))))))))))))))))))))))))))))
      refine runDf g'33 ?_
      refine call_d (by kernel_rfl) (dir_c _ h) ?_
      refine runDf g'33 ?_
      refine inv_of (hJ _ _ ⟨_, _, _, ⟨rfl, rfl⟩, Abs.byG hbel [] rfl [2, 3, 4, 5, 6] (by decide) ?_⟩)
      exact absRf (jn @f1 (jn @f2 (jn @f3 (jn @f4 (jn @f5 (jn @f6 (jn @f23 (jn @f24 (jn @f25 (jn @f26 (jn @f27 (jn @f28 (jn @f31 (jn @f32 (jn @f33 (jn @f34 (jn @f35 (jn @f36 (jn @f37 (jn @f38 (jn @f39 (jn @f40 (jn @f41 (jn @f42 (jn @f45 (jn @f46 (jn @f47 (jn @f48 (jn @f49 @f50)))))))))))))))))))))))))))))
  rintro F2 H2 ⟨rfl, rfl⟩
  refine AW_special false try_mixed [[0, 1, 2, 3, 4, 5, 6, 7, 8, 9, 10, 11, 12, 13, 14, 15, 16, 17, 18, 19, 20, 21, 22], [0, 1, 2, 3, 4, 5, 6, 7, 8, 9, 10, 11, 12, 13, 14, 15, 20, 16, 17, 18, 19, 21, 22], [0, 1, 2, 3, 4, 5, 6, 7, 8, 9, 10, 11, 12, 13, 20, 14, 15, 16, 17, 18, 19, 21, 22], [0, 1, 2, 3, 4, 5, 6, 8, 9, 10, 11, 12, 13, 20, 7, 14, 15, 16, 17, 18, 19, 21, 22]] (by kernel_rfl) (fun F2 H2 => F2 = [(7, .ptr (some (H.length, 0))), (8, .ptr (some (H.length + 1, 0))), (9, .int .i64 0), (10, .ptr (some (H.length + 3, 0))), (14, .ptr (some (H.length + 5, 0)))] ∧ H2 = H ++ [.cells true 0 [.int .i64 tu, .int .i64 le, .int .i64 sl, .int .i64 ra], .cells true 0 [.int .i64 0, .int .i64 0, .sl none 0 (some 0)], .cells (ownG (canonL (recL x0 y0 x1 y1)).length) 2 (prs (canonL (recL x0 y0 x1 y1))), .cells true 0 [.int .i64 (x0 + x1), .int .i64 (y0 + y1), .sl (some (H.length + 2, 0)) ((canonL (recL x0 y0 x1 y1)).length) (capG (canonL (recL x0 y0 x1 y1)).length)], .cells (ownG (canonL [((wayX h (f + le)), (wayY h (f + le)))]).length) 2 (prs (canonL [((wayX h (f + le)), (wayY h (f + le)))])), .cells true 0 [.int .i64 (wayX h (f + le)), .int .i64 (wayY h (f + le)), .sl (some (H.length + 4, 0)) ((canonL [((wayX h (f + le)), (wayY h (f + le)))]).length) (capG (canonL [((wayX h (f + le)), (wayY h (f + le)))]).length)]]) ?_ ?_
  · refine reps_cons ?_ (reps_cons ?_ (reps_cons ?_ (reps_cons ?_ (reps_nil)))) <;> intro J hJ
    · skip
      have g'34 := (jn @h15d (jn @h16d (jn @h17d (jn @h18d (jn @h19d (jn @h20d (jn @h21d (jn @h22d (jn @h30d (jn @h44d (jn @prs_len (jn @prs_one (jn @hwx @hwy)))))))))))))
      refine runDf g'34 ?_
      refine call_d (by kernel_rfl) (mfloor_c _ ((f + le) * ((dirV h).1)) ((dirV h).2.2) (by omega) (by omega)) ?_
      refine runDf g'34 ?_
      refine call_d (by kernel_rfl) (mfloor_c _ ((f + le) * ((dirV h).2.1)) ((dirV h).2.2) (by omega) (by omega)) ?_
      refine runDf g'34 ?_
      refine call_x (by kernel_rfl) (by simp) (ofway_0 _ (wayX h (f + le)) (wayY h (f + le)) (by assumption)) ?_
      refine runDf g'34 ?_
      refine inv_of (hJ _ _ ⟨_, _, _, ⟨rfl, rfl⟩, Abs.byG hbel [] rfl [0, 1, 2, 3, 5, 6] (by decide) ?_⟩)
      exact absR
    · skip
      have g'35 := (jn @h15d (jn @h16d (jn @h17d (jn @h18d (jn @h19d (jn @h20d (jn @h21d (jn @h22d (jn @h30d (jn @h44d (jn @prs_len (jn @prs_one (jn @hwx @hwy)))))))))))))
      refine runDf g'35 ?_
      refine call_d (by kernel_rfl) (mfloor_c _ ((f + le) * ((dirV h).1)) ((dirV h).2.2) (by omega) (by omega)) ?_
      refine runDf g'35 ?_
      refine call_d (by kernel_rfl) (mfloor_c _ ((f + le) * ((dirV h).2.1)) ((dirV h).2.2) (by omega) (by omega)) ?_
      refine runDf g'35 ?_
      refine call_x (by kernel_rfl) (by simp) (ofway_0 _ (wayX h (f + le)) (wayY h (f + le)) (by assumption)) ?_
      refine runDf g'35 ?_
      refine inv_of (hJ _ _ ⟨_, _, _, ⟨rfl, rfl⟩, Abs.byG hbel [] rfl [0, 1, 2, 3, 6, 5] (by decide) ?_⟩)
      exact absR
    · skip
      have g'36 := (jn @h15d (jn @h16d (jn @h17d (jn @h18d (jn @h19d (jn @h20d (jn @h21d (jn @h22d (jn @h30d (jn @h44d (jn @prs_len (jn @prs_one (jn @hwx @hwy)))))))))))))
      refine runDf g'36 ?_
      refine call_d (by kernel_rfl) (mfloor_c _ ((f + le) * ((dirV h).1)) ((dirV h).2.2) (by omega) (by omega)) ?_
      refine runDf g'36 ?_
      refine call_d (by kernel_rfl) (mfloor_c _ ((f + le) * ((dirV h).2.1)) ((dirV h).2.2) (by omega) (by omega)) ?_
      refine runDf g'36 ?_
      refine call_x (by kernel_rfl) (by simp) (ofway_0 _ (wayX h (f + le)) (wayY h (f + le)) (by assumption)) ?_
      refine runDf g'36 ?_
      refine inv_of (hJ _ _ ⟨_, _, _, ⟨rfl, rfl⟩, Abs.byG hbel [] rfl [0, 1, 2, 3, 6, 5] (by decide) ?_⟩)
      exact absR
    · skip
      have g'37 := (jn @h15d (jn @h16d (jn @h17d (jn @h18d (jn @h19d (jn @h20d (jn @h21d (jn @h22d (jn @h30d (jn @h44d (jn @prs_len (jn @prs_one (jn @hwx @hwy)))))))))))))
      refine runDf g'37 ?_
      refine call_d (by kernel_rfl) (mfloor_c _ ((f + le) * ((dirV h).1)) ((dirV h).2.2) (by omega) (by omega)) ?_
      refine runDf g'37 ?_
      refine call_d (by kernel_rfl) (mfloor_c _ ((f + le) * ((dirV h).2.1)) ((dirV h).2.2) (by omega) (by omega)) ?_
      refine runDf g'37 ?_
      refine call_x (by kernel_rfl) (by simp) (ofway_0 _ (wayX h (f + le)) (wayY h (f + le)) (by assumption)) ?_
      refine runDf g'37 ?_
      refine inv_of (hJ _ _ ⟨_, _, _, ⟨rfl, rfl⟩, Abs.byG hbel [] rfl [0, 1, 2, 3, 6, 5] (by decide) ?_⟩)
      exact absR
  rintro F2 H2 ⟨rfl, rfl⟩
  refine AW_fin false try_mixed (by kernel_rfl) ?_
  have g'38 := (jn @h15d (jn @h16d (jn @h17d (jn @h18d (jn @h19d (jn @h20d (jn @h21d (jn @h22d (jn @h30d (jn @h44d (jn @prs_len (jn @prs_one (jn @hwx @hwy)))))))))))))
  refine runTf g'38 ?_
  refine call_v (by kernel_rfl) (Sum_0 _ (x0 + x1) (y0 + y1) _ (canonL (recL x0 y0 x1 y1)) (wayX h (f + le)) (wayY h (f + le)) _ (canonL [((wayX h (f + le)), (wayY h (f + le)))]) ⟨_, _, _, by first | rfl | (rw [List.length_append]; done) | (rw [List.length_append]; rfl), by first | rfl | (rw [get_newk]; rfl) | (rw [get_new0]; rfl) | (rw [get_newk, prs_append]; rfl) | (rw [get_new0, prs_append]; rfl)⟩ ⟨_, _, _, by first | rfl | (rw [List.length_append]; done) | (rw [List.length_append]; rfl), by first | rfl | (rw [get_newk]; rfl) | (rw [get_new0]; rfl) | (rw [get_newk, prs_append]; rfl) | (rw [get_new0, prs_append]; rfl)⟩ (by assumption)) ?_
  refine runTf g'38 ?_
  refine call_x (by kernel_rfl) (by simp) (square_c _ (sl + 21) (by omega)) ?_
  refine runTf g'38 ?_
  refine call_x (by kernel_rfl) (by simp) (Sum_0 _ ((x0 + x1) + (wayX h (f + le))) ((y0 + y1) + (wayY h (f + le))) _ (canonL ((canonL (recL x0 y0 x1 y1)) ++ (canonL [((wayX h (f + le)), (wayY h (f + le)))]))) 0 0 _ (canonL (sqrL (sl + 21))) ⟨_, _, _, by first | rfl | (rw [List.length_append]; done) | (rw [List.length_append]; rfl), by first | rfl | (rw [get_newk]; rfl) | (rw [get_new0]; rfl) | (rw [get_newk, prs_append]; rfl) | (rw [get_new0, prs_append]; rfl)⟩ ⟨_, _, _, by first | rfl | (rw [List.length_append]; done) | (rw [List.length_append]; rfl), by first | rfl | (rw [get_newk]; rfl) | (rw [get_new0]; rfl) | (rw [get_newk, prs_append]; rfl) | (rw [get_new0, prs_append]; rfl)⟩ (by assumption)) ?_
  refine runTf g'38 ?_
  refine hQ _ _ (end_byG (.inl rfl) hbel (x1 := .tup [.agg [.int .i64 (((x0 + x1) + (wayX h (f + le))) + 0), .int .i64 (((y0 + y1) + (wayY h (f + le))) + 0), .sl (some (H.length + 8, 0)) ((canonL ((canonL ((canonL (recL x0 y0 x1 y1)) ++ (canonL [((wayX h (f + le)), (wayY h (f + le)))]))) ++ (canonL (sqrL (sl + 21))))).length) (capG (canonL ((canonL ((canonL (recL x0 y0 x1 y1)) ++ (canonL [((wayX h (f + le)), (wayY h (f + le)))]))) ++ (canonL (sqrL (sl + 21))))).length)], .int .i64 0]) (l2 := [.cells (ownG (canonL ((canonL ((canonL (recL x0 y0 x1 y1)) ++ (canonL [((wayX h (f + le)), (wayY h (f + le)))]))) ++ (canonL (sqrL (sl + 21))))).length) 2 (prs (canonL ((canonL ((canonL (recL x0 y0 x1 y1)) ++ (canonL [((wayX h (f + le)), (wayY h (f + le)))]))) ++ (canonL (sqrL (sl + 21))))))]) (.tup [.agg [.int .i64 (((x0 + x1) + (wayX h (f + le))) + 0), .int .i64 (((y0 + y1) + (wayY h (f + le))) + 0), .sl (some (H.length, 0)) ((canonL ((canonL ((canonL (recL x0 y0 x1 y1)) ++ (canonL [((wayX h (f + le)), (wayY h (f + le)))]))) ++ (canonL (sqrL (sl + 21))))).length) (capG (canonL ((canonL ((canonL (recL x0 y0 x1 y1)) ++ (canonL [((wayX h (f + le)), (wayY h (f + le)))]))) ++ (canonL (sqrL (sl + 21))))).length)], .int .i64 0]) (resT Tryz.results13) [] rfl [8] (by decide) ⟨by first | (simp [mkX, mkL, sweE, sweB, capG_0, ownG_0, prs_nil, h15d, h16d, h17d, h18d, h19d, h20d, h21d, h22d, h30d, h44d, hfinE, hfinF]; done) | (simp [mkX, mkL, sweE, hok, capG_0, ownG_0, prs_nil, h15d, h16d, h17d, h18d, h19d, h20d, h21d, h22d, h30d, h44d, hfinE, hfinF]; done) | (rw [hfinE]; simp only [mkX_0, mkL_0, sweX, sweY, sweL, wayL, hlf, hfinF, if_true, if_false, sw_eq, ← sw_eq0, Int.add_zero]), by first | (simp [mkX, mkL, sweE, sweB, capG_0, ownG_0, prs_nil, h15d, h16d, h17d, h18d, h19d, h20d, h21d, h22d, h30d, h44d, hfinE, hfinF]; done) | (simp [mkX, mkL, sweE, hok, capG_0, ownG_0, prs_nil, h15d, h16d, h17d, h18d, h19d, h20d, h21d, h22d, h30d, h44d, hfinE, hfinF]; done) | (rw [hfinE]; simp only [mkX_0, mkL_0, sweX, sweY, sweL, wayL, hlf, hfinF, if_true, if_false, sw_eq, ← sw_eq0, Int.add_zero])⟩ ?_)
  exact absW
open Go.RowKit
theorem sweepq_c (H : AHeap) (x0 y0 x1 y1 h t f tu le sl ra : Int) : ACalls Tryz.prog 13 [.agg [.int .i64 x0, .int .i64 y0, .int .i64 x1, .int .i64 y1], .int .i64 h, .agg [.int .i64 t, .int .i64 f], .agg [.int .i64 tu, .int .i64 le, .int .i64 sl, .int .i64 ra]] H (fun v H' => v = .tup [.agg [.int .i64 (swX x0 y0 x1 y1 h t f tu le sl ra), .int .i64 (swY x0 y0 x1 y1 h t f tu le sl ra), .sl (some (H.length, 0)) (swL x0 y0 x1 y1 h t f tu le sl ra).length (capG (swL x0 y0 x1 y1 h t f tu le sl ra).length)], .int .i64 (sweE x0 y0 x1 y1 h t f tu le sl ra)] ∧ H' = H ++ [.cells (ownG (swL x0 y0 x1 y1 h t f tu le sl ra).length) 2 (prs (swL x0 y0 x1 y1 h t f tu le sl ra))]) := sweep_c H x0 y0 x1 y1 h t f tu le sl ra
theorem touchq_c (H : AHeap) (x0 y0 x1 y1 h t f tu le sl ra : Int) (s : AV) (hs : Sl H 2 s (swL x0 y0 x1 y1 h t f tu le sl ra).length (prs (swL x0 y0 x1 y1 h t f tu le sl ra))) : ACalls Tryz.prog 17 [.agg [.int .i64 (swX x0 y0 x1 y1 h t f tu le sl ra), .int .i64 (swY x0 y0 x1 y1 h t f tu le sl ra), s]] H (fun v H' => v = .tup [.sl (some (H.length, 0)) (stL x0 y0 x1 y1 h t f tu le sl ra).length none, .int .i64 (stE x0 y0 x1 y1 h t f tu le sl ra)] ∧ H' = H ++ [.cells (ownG (touC (swX x0 y0 x1 y1 h t f tu le sl ra) (swY x0 y0 x1 y1 h t f tu le sl ra) (swL x0 y0 x1 y1 h t f tu le sl ra)).length) 2 (prs (stL x0 y0 x1 y1 h t f tu le sl ra))]) := touched_c H _ _ _ _ hs
theorem unh_c (H : AHeap) (W : Int) (Hh : Int) (pp : AV) (xs : List Int) (x0 : Int) (y0 : Int) (x1 : Int) (y1 : Int) (h : Int) (t : Int) (f : Int) (tu : Int) (le : Int) (sl : Int) (ra : Int) (hpp : Sl H 1 pp xs.length (ints .u8 xs)) (hV : vldB W Hh xs = true) : ACalls Tryz.prog 78 [.agg [.int .i64 W, .int .i64 Hh, pp], .agg [.int .i64 x0, .int .i64 y0, .int .i64 x1, .int .i64 y1], .int .i64 h, .agg [.int .i64 t, .int .i64 f], .agg [.int .i64 tu, .int .i64 le, .int .i64 sl, .int .i64 ra]] H (fun v H' => v = .bool (unhB W Hh xs x0 y0 x1 y1 h t f tu le sl ra) ∧ H' = H) := by
  obtain ⟨bpp, opp, cpp, rfl, hbpp⟩ := hpp
  have hblpp := getElem?_lt hbpp
  have hb0pp := fun l => get_app (l := l) hbpp
  refine AcT true Tryz.func78 ?_; intro hbel Q hQ
  have g'1 := (jn @hbpp @hb0pp)
  refine runTf g'1 ?_
  refine call_v (by kernel_rfl) (sweepq_c _ x0 y0 x1 y1 h t f tu le sl ra) ?_
  refine runTf g'1 ?_
  refine cond_split (fun h1 => ?_) (fun h1 => ?_)
  · have h1d := bsT h1
    have h1n := bnT h1
    have hfinU : unhB W Hh xs x0 y0 x1 y1 h t f tu le sl ra = false := by unfold unhB; rw [decide_eq_false (by simpa using h1d)]; rfl
    have g'2 := (jn @h1 (jn @h1n (jn @int_bne (jn @int_beq g'1))))
    refine runTf g'2 ?_
    exact hQ _ _ (end_plain (.inl rfl) hbel (x := .bool false) (resT Tryz.results78) rfl ⟨by first | (rw [hfinU]; done) | (unfold unhB; rw [decide_eq_true hsw, decide_eq_true hst0]; rfl), rfl⟩)
  · have h1d := bsT h1
    have h1n := bnT h1
    have hsw : sweE x0 y0 x1 y1 h t f tu le sl ra = 0 := by simpa using h1d
    have g'3 := (jn @h1 (jn @h1n (jn @int_bne (jn @int_beq g'1))))
    refine runTf g'3 ?_
    refine call_v (by kernel_rfl) (touchq_c _ x0 y0 x1 y1 h t f tu le sl ra _ ⟨_, _, _, by first | rfl | (rw [List.length_append]; done) | (rw [List.length_append]; rfl), by first | rfl | (rw [get_newk]; rfl) | (rw [get_new0]; rfl) | (rw [get_newk, prs_append]; rfl) | (rw [get_new0, prs_append]; rfl)⟩) ?_
    refine runTf g'3 ?_
    refine gd_split (fun h2 => ?_) (fun h2 => ?_)
    · have h2d := bsT h2
      have h2n := bnT h2
      have hst0 : stE x0 y0 x1 y1 h t f tu le sl ra = 0 := by simpa using h2d
      have g'4 := (jn @h2 (jn @h2n g'3))
      refine runTf g'4 ?_
      refine call_v (by kernel_rfl) (has_cell _ _ (stL x0 y0 x1 y1 h t f tu le sl ra) ⟨_, _, _, by first | rfl | (rw [List.length_append]; done) | (rw [List.length_append]; rfl), by first | rfl | (rw [get_newk]; rfl) | (rw [get_new0]; rfl) | (rw [get_newk, prs_append]; rfl) | (rw [get_new0, prs_append]; rfl)⟩ (Nat.le_trans stL_len (by decide)) _ [.ptr (some (H.length, 0))] (by kernel_rfl) (by simp [AV.bels, AV.bel]) (fun c => atI W Hh xs c.1 c.2 != 1) (fun j hj => unh1_c _ _ _ W Hh _ xs _ ⟨_, _, _, rfl, hb0pp _⟩ ⟨_, by rw [get_new0]; rfl⟩ hV)) ?_
      refine runTf g'4 ?_
      exact hQ _ _ (end_plain (.inl rfl) hbel (x := .bool (!((stL x0 y0 x1 y1 h t f tu le sl ra).any (fun c => atI W Hh xs c.1 c.2 != 1)))) (resTf (jn @int_beq @int_bne) Tryz.results78) rfl ⟨by first | (rw [hfinU]; done) | (unfold unhB; rw [decide_eq_true hsw, decide_eq_true hst0]; rfl), rfl⟩)
    · have h2d := bsT h2
      have h2n := bnT h2
      have hfinU : unhB W Hh xs x0 y0 x1 y1 h t f tu le sl ra = false := by unfold unhB; rw [decide_eq_false (show ¬ stE x0 y0 x1 y1 h t f tu le sl ra = 0 by simpa using h2d)]; simp
      have g'5 := (jn @h2 (jn @h2n g'3))
      refine runTf g'5 ?_
      exact hQ _ _ (end_plain (.inl rfl) hbel (x := .bool false) (resT Tryz.results78) rfl ⟨by first | (rw [hfinU]; done) | (unfold unhB; rw [decide_eq_true hsw, decide_eq_true hst0]; rfl), rfl⟩)
open Go.RowKit
open Go.RowKit
theorem arep_z {k : IntKind} {n : Nat} : (List.range n).map (fun j => ([.int k 0] : List AV).getD (j % 1) .any) = ints k (List.replicate n 0) := by
  rw [← ints_rep]
  refine List.ext_getElem (by simp) fun i h1 h2 => ?_
  simp [Nat.mod_one]
def lisS (f : Int) (n i : Nat) : List Int := mrkL f i ++ List.replicate (n - i) 0
theorem lisS_len {f : Int} {n i : Nat} (h : i ≤ n) : (lisS f n i).length = n := by unfold lisS; rw [List.length_append, mrkL_len, List.length_replicate]; omega
theorem lisS_set {f : Int} {n i : Nat} (h : i < n) : (lisS f n i).set i ((f + (i : Int)) % 256) = lisS f n (i + 1) := by
  unfold lisS
  obtain ⟨k, hk⟩ : ∃ k, n - i = k + 1 := ⟨n - i - 1, by omega⟩
  rw [hk, List.replicate_succ, List.set_append_right _ _ (by rw [mrkL_len]; exact Nat.le_refl _), mrkL_len, Nat.sub_self, List.set_cons_zero, mrkL_succ, List.append_assoc, show n - (i + 1) = k by omega]
  rfl
theorem lisS_0 (f : Int) (n : Nat) : lisS f n 0 = List.replicate n 0 := rfl
theorem lisS_n (f : Int) (n : Nat) : lisS f n n = mrkL f n := by unfold lisS; rw [Nat.sub_self]; simp
theorem harc_c (H : AHeap) (f : Int) (n : Int) (hn : 1 ≤ n ∧ n ≤ 100000) : ACalls Tryz.prog 139 [.int .i64 f, .int .i64 n] H (fun v H' => v = .agg [.int .i64 (arcF f n), .int .i64 (arcC n)] ∧ H' = H) := by
  refine AcT true Tryz.func139 ?_; intro hbel Q hQ
  refine runT ?_
  refine cond_split (fun h1 => ?_) (fun h1 => ?_)
  · have h1d := bsT h1
    have g'1 := (jn @h1 @h1d)
    refine runTf g'1 ?_
    exact hQ _ _ (end_plain (.inl rfl) hbel (x := .agg [.int .i64 0, .int .i64 256]) (resT Tryz.results139) rfl ⟨by unfold arcF arcC; first | (rw [if_pos (by omega), if_pos (by omega)]; done) | (rw [if_neg (by omega), if_neg (by omega), show (((f % 256).toNat : Nat) : Int) = f % 256 by omega]), rfl⟩)
  · have h1d := bsT h1
    have g'2 := (jn @h1 @h1d)
    refine runTf g'2 ?_
    refine call_v (by kernel_rfl) (mark_c _ f) ?_
    refine runTf g'2 ?_
    exact hQ _ _ (end_plain (.inl rfl) hbel (x := .agg [.int .i64 (((f % 256).toNat : Nat) : Int), .int .i64 n]) (resT Tryz.results139) rfl ⟨by unfold arcF arcC; first | (rw [if_pos (by omega), if_pos (by omega)]; done) | (rw [if_neg (by omega), if_neg (by omega), show (((f % 256).toNat : Nat) : Int) = f % 256 by omega]), rfl⟩)
theorem hshift_c (H : AHeap) (f : Int) (c : Int) (n : Int) (ha : arcB f c = true) : ACalls Tryz.prog 75 [.agg [.int .i64 f, .int .i64 c], .int .i64 n] H (fun v H' => v = .tup [.agg [.int .i64 (shF f c n), .int .i64 (arcC c)], .int .i64 0] ∧ H' = H) := by
  have ka := arcB_iff.1 ha
  refine AcT true Tryz.func75 ?_; intro hbel Q hQ
  have g'5 := @ha
  refine runTf g'5 ?_
  refine call_v (by kernel_rfl) (varc_c _ f c) ?_
  refine runTf g'5 ?_
  refine call_d (by kernel_rfl) (mark_c _ n) ?_
  refine runTf g'5 ?_
  refine call_d (by kernel_rfl) (harc_c _ (f + (((n % 256).toNat : Nat) : Int)) c (by omega)) ?_
  refine runTf g'5 ?_
  exact hQ _ _ (end_plain (.inl rfl) hbel (x := .tup [.agg [.int .i64 (arcF (f + (((n % 256).toNat : Nat) : Int)) c), .int .i64 (arcC c)], .int .i64 0]) (resT Tryz.results75) rfl ⟨rfl, rfl⟩)
theorem hgrow_c (H : AHeap) (f : Int) (c : Int) (n : Int) (ha : arcB f c = true) (hn : 0 ≤ n ∧ n ≤ 256) : ACalls Tryz.prog 76 [.agg [.int .i64 f, .int .i64 c], .int .i64 n] H (fun v H' => v = .tup [.agg [.int .i64 (grF f c n), .int .i64 (grC c n)], .int .i64 0] ∧ H' = H) := by
  have ka := arcB_iff.1 ha
  refine AcT true Tryz.func76 ?_; intro hbel Q hQ
  have g'7 := @ha
  refine runTf g'7 ?_
  refine call_v (by kernel_rfl) (varc_c _ f c) ?_
  refine runTf g'7 ?_
  refine gd_split (fun h1 => ?_) (fun h1 => ?_)
  · have h1d := bsT h1
    have g'8 := (jn @h1 (jn @h1d g'7))
    refine runTf g'8 ?_
    refine cond_split (fun h2 => ?_) (fun h2 => ?_)
    · have h2d := bsT h2
      omega
    · have h2d := bsT h2
      have g'9 := (jn @h2 (jn @h2d g'8))
      refine runTf g'9 ?_
      refine call_v (by kernel_rfl) (harc_c _ (f - n) (c + (2 * n)) (by omega)) ?_
      refine runTf g'9 ?_
      exact hQ _ _ (end_plain (.inl rfl) hbel (x := .tup [.agg [.int .i64 (arcF (f - n) (c + (2 * n))), .int .i64 (arcC (c + (2 * n)))], .int .i64 0]) (resT Tryz.results76) rfl ⟨rfl, rfl⟩)
  · have h1d := bsT h1
    omega
theorem hlist_c (H : AHeap) (f : Int) (c : Int) (ha : arcB f c = true) : ACalls Tryz.prog 77 [.agg [.int .i64 f, .int .i64 c]] H (fun v H' => v = .sl (some (H.length, 0)) ((mrkL f c.toNat).length) none ∧ H' = H ++ [.cells true 1 (ints .i64 (mrkL f c.toNat))]) := by
  have ka := arcB_iff.1 ha
  have harep := arep_z (k := .i64) (n := c.toNat)
  have hrt : ((c.toNat : Nat) : Int) = c := by omega
  refine AcT true Tryz.func77 ?_; intro hbel Q hQ
  have g'13 := (jn @ha (jn @harep @hrt))
  refine runTf g'13 ?_
  refine call_v (by kernel_rfl) (varc_c _ f c) ?_
  have g'14 := (jn @ints_rep (jn @List.length_replicate.{0} g'13))
  refine runTf g'14 ?_
  refine go_loop try_mixed (by kernel_rfl) (fun k F Hx => ∃ i : Nat, i + k = c.toNat ∧ F = [(1, .ptr (some (H.length, 0))), (3, .sl (some (H.length + 1, 0)) ((lisS f c.toNat i).length) none), (12, .int .i64 ((c.toNat : Nat) : Int)), (13, .int .i64 ((i : Nat) : Int))] ∧ Hx = H ++ [.cells true 0 [.int .i64 f, .int .i64 c], .cells true 1 (ints .i64 (lisS f c.toNat i))]) (c.toNat) ?_ ?_
  · refine ⟨_, _, _, ⟨0, by omega, rfl, rfl⟩, Abs.byG hbel [] rfl [0, 1] (by decide) ?_⟩
    exact absRf (jn @lisS_0 (jn @List.length_replicate.{0} @hrt))
  · rintro k0 F Hx ⟨i, hm0, rfl, rfl⟩ J0 hJ0
    have hln := lisS_len (f := f) (n := c.toNat) (i := i) (by omega)
    have g'15 := (jn @ints_len (jn @ints_ones g'14))
    refine runTf g'15 ?_
    refine cond_split (fun h1 => ?_) (fun h1 => ?_)
    · have h1d := bsT h1
      have hln2 := lisS_len (f := f) (n := c.toNat) (i := i + 1) (by omega)
      have hst : (lisS f c.toNat i).set i ((((f + ((i : Nat) : Int)) % 256).toNat : Nat) : Int) = lisS f c.toNat (i + 1) := by rw [show ((((f + ((i : Nat) : Int)) % 256).toNat : Nat) : Int) = (f + ((i : Nat) : Int)) % 256 by omega]; exact lisS_set (by omega)
      have g'16 := (jn @h1 (jn @h1d g'15))
      refine runTf g'16 ?_
      refine call_v (by kernel_rfl) (mark_c _ (f + ((i : Nat) : Int))) ?_
      have g'17 := (jn @ints_set1 (jn @List.length_set.{0} g'16))
      refine runTf g'17 ?_
      refine hJ0 _ _ ⟨k0 - 1, by omega, _, _, _, ⟨i + 1, by omega, rfl, rfl⟩, Abs.byG hbel [] rfl [0, 1] (by decide) ?_⟩
      exact absRf (jn @hst (jn @List.length_set.{0} (jn @hln (jn @hln2 @hrt))))
    · have h1d := bsT h1
      obtain rfl : i = c.toNat := by omega
      have g'18 := (jn @h1 (jn @h1d g'15))
      refine runTf g'18 ?_
      refine hQ _ _ (end_byG (.inl rfl) hbel (x1 := .sl (some (H.length + 1, 0)) ((lisS f c.toNat c.toNat).length) none) (l2 := [.cells true 1 (ints .i64 (lisS f c.toNat c.toNat))]) (.sl (some (H.length, 0)) ((lisS f c.toNat c.toNat).length) none) (resT Tryz.results77) [] rfl [1] (by decide) ⟨by rw [lisS_n], by rw [lisS_n]⟩ ?_)
      exact absW
theorem hlistq_c (H : AHeap) (bf bc t tu : Int) (ha : arcB bf bc = true) (ht : 0 ≤ tu ∧ tu ≤ 8) : ACalls Tryz.prog 77 [.agg [.int .i64 (grF (shF bf bc t) (arcC bc) tu), .int .i64 (grC (arcC bc) tu)]] H (fun v H' => v = .sl (some (H.length, 0)) (mrkA bf bc t tu).length none ∧ H' = H ++ [.cells (true) 1 (ints .i64 (mrkA bf bc t tu))]) :=
  hlist_c H _ _ (by have k := arcB_iff.1 ha; refine arcF_ok ?_; unfold arcC; split <;> omega)
theorem rect_c (H : AHeap) (x0 : Int) (y0 : Int) (x1 : Int) (y1 : Int) (f : Int) (c : Int) (ha : bxB x0 y0 x1 y1 f c = true) : ACalls Tryz.prog 79 [.agg [.int .i64 x0, .int .i64 y0, .int .i64 x1, .int .i64 y1, .int .i64 f, .int .i64 c]] H (fun v H' => v = .agg [.int .i64 x0, .int .i64 y0, .int .i64 x1, .int .i64 y1] ∧ H' = H) := by
  refine AcT true Tryz.func79 ?_; intro hbel Q hQ
  have g'19 := @ha
  refine runTf g'19 ?_
  refine call_v (by kernel_rfl) (bxv_c _ x0 y0 x1 y1 f c) ?_
  refine runTf g'19 ?_
  exact hQ _ _ (end_plain (.inl rfl) hbel (x := .agg [.int .i64 x0, .int .i64 y0, .int .i64 x1, .int .i64 y1]) (resT Tryz.results79) rfl ⟨rfl, rfl⟩)
open Go.RowKit
theorem safe_c (H : AHeap) (W : Int) (Hh : Int) (pp : AV) (xs : List Int) (s : AV) (l : List T6) (t : Int) (f : Int) (tu : Int) (le : Int) (sl : Int) (ra : Int) (hpp : Sl H 1 pp xs.length (ints .u8 xs)) (hs : Sl H 6 s l.length (r6 l)) (hl : l.length ≤ 1000000000) : ACalls Tryz.prog 21 [.agg [.int .i64 W, .int .i64 Hh, pp], s, .agg [.int .i64 t, .int .i64 f], .agg [.int .i64 tu, .int .i64 le, .int .i64 sl, .int .i64 ra]] H (fun v H' => v = .tup [.bool (saB W Hh xs l t f tu le sl ra), .int .i64 (saE W Hh xs l t f tu le sl ra)] ∧ H' = H) := by
  obtain ⟨bpp, opp, cpp, rfl, hbpp⟩ := hpp
  have hblpp := getElem?_lt hbpp
  have hb0pp := fun l => get_app (l := l) hbpp
  obtain ⟨bs, os, cs, rfl, hbs⟩ := hs
  have hbls := getElem?_lt hbs
  have hb0s := fun l => get_app (l := l) hbs
  refine AcT true Tryz.func21 ?_; intro hbel Q hQ
  have g'1 := (jn @hbpp (jn @hb0pp (jn @hbs @hb0s)))
  refine runTf g'1 ?_
  refine call_v (by kernel_rfl) (valid_a _ W Hh _ xs (.inr ⟨_, _, _, rfl, by first | exact hb0pp _ | exact hbpp⟩)) ?_
  refine runTf g'1 ?_
  refine gd_split (fun h1 => ?_) (fun h1 => ?_)
  · have h1d := bsT h1
    have hV := h1d
    have g'2 := (jn @h1 (jn @h1d g'1))
    refine runTf g'2 ?_
    refine call_v (by kernel_rfl) (vset_c _ _ l ⟨_, _, _, rfl, by first | exact hb0s _ | exact hbs⟩ (by omega)) ?_
    refine runTf g'2 ?_
    refine gd_split (fun h2 => ?_) (fun h2 => ?_)
    · have h2d := bsT h2
      have hS := h2d
      have hall := (setB_iff.1 hS).2
      have g'3 := (jn @h2 (jn @h2d g'2))
      refine runTf g'3 ?_
      refine call_v (by kernel_rfl) (vcmd_c _ t f) ?_
      refine runTf g'3 ?_
      refine gd_split (fun h3 => ?_) (fun h3 => ?_)
      · have h3d := bsT h3
        have hC := h3d
        have g'4 := (jn @h3 (jn @h3d g'3))
        refine runTf g'4 ?_
        refine call_v (by kernel_rfl) (vbnd_c _ tu le sl ra) ?_
        refine runTf g'4 ?_
        refine cond_split (fun h4 => ?_) (fun h4 => ?_)
        · have h4d := bsT h4
          have hz := saE_1 (W := W) (Hh := Hh) (xs := xs) (l := l) (t := t) (f := f) (tu := tu) (le := le) (sl := sl) (ra := ra) (fun hh => by simp [hh.1, hh.2.1, hh.2.2.1, hh.2.2.2] at h4d)
          have hfinE := hz.1
          have hfinB := hz.2
          have g'5 := (jn @h4 (jn @h4d g'4))
          refine runTf g'5 ?_
          exact hQ _ _ (end_plain (.inl rfl) hbel (x := .tup [.bool false, .int .i64 1]) (resT Tryz.results21) rfl ⟨by first | (rw [hfinE, hfinB]; done) | (rw [hfinB, hfinE]; done), rfl⟩)
        · have h4d := bsT h4
          have hBd := h4d
          have hfinE : saE W Hh xs l t f tu le sl ra = 0 := saE_0 hV hS hC hBd
          have htu : 0 ≤ tu ∧ tu ≤ 8 := by have hh := hBd; simp only [bndB, Bool.and_eq_true, btw_iff] at hh; omega
          have hff : 0 ≤ f ∧ f ≤ 32 := by have hh := hC; simp only [cmdB, Bool.and_eq_true, btw_iff] at hh; omega
          have g'6 := (jn @h4 (jn @h4d g'4))
          refine runTf g'6 ?_
          refine cond_split (fun h5 => ?_) (fun h5 => ?_)
          · have h5d := bsT h5
            have hfinB : saB W Hh xs l t f tu le sl ra = true := saB_z hfinE h5d
            have g'7 := (jn @h5 (jn @h5d (jn @int_bne (jn @int_beq g'6))))
            refine runTf g'7 ?_
            exact hQ _ _ (end_plain (.inl rfl) hbel (x := .tup [.bool true, .int .i64 0]) (resT Tryz.results21) rfl ⟨by first | (rw [hfinE, hfinB]; done) | (rw [hfinB, hfinE]; done), rfl⟩)
          · have h5d := bsT h5
            have hf0 : ¬ f = 0 := h5d
            have g'8 := (jn @h5 (jn @h5d (jn @int_bne (jn @int_beq g'6))))
            refine runTf g'8 ?_
            refine go_loop try_mixed (by kernel_rfl) (fun k F Hx => ∃ i : Nat, i + k = l.length ∧ (∀ j : Nat, j < i → boxOK W Hh xs t f tu le sl ra (g6 l j) = true) ∧ F = [(4, .ptr (some (H.length, 0))), (6, .ptr (some (H.length + 1, 0))), (7, .ptr (some (H.length + 2, 0))), (37, .sl (some (bs, 0)) l.length cs), (38, .int .i64 ((l.length : Nat) : Int)), (39, .int .i64 ((i : Nat) : Int))] ∧ Hx = H ++ [.cells true 0 [.int .i64 W, .int .i64 Hh, .sl (some (bpp, 0)) xs.length cpp], .cells true 0 [.int .i64 t, .int .i64 f], .cells true 0 [.int .i64 tu, .int .i64 le, .int .i64 sl, .int .i64 ra]]) (l.length) ?_ ?_
            · refine ⟨_, _, _, ⟨0, by omega, fun j h => by omega, rfl, rfl⟩, Abs.byG hbel [] rfl [0, 1, 2] (by decide) ?_⟩
              exact absW
            · rintro k0 F Hx ⟨i, hm0, hout, rfl, rfl⟩ J0 hJ0
              refine runTf g'8 ?_
              refine cond_split (fun h6 => ?_) (fun h6 => ?_)
              · have h6d := bsT h6
                have hbi : bxB (g61 l i) (g62 l i) (g63 l i) (g64 l i) (g65 l i) (g66 l i) = true := hall (g6 l i) (g6_mem (by omega))
                have hai := (bxB_iff.1 hbi).2.2
                have hkai := arcB_iff.1 hai
                have hsai : arcB (shF (g65 l i) (g66 l i) t) (arcC (g66 l i)) = true := arcF_ok (by omega)
                have hmal := mrkA_len (t := t) hai htu
                have q7 := r6_load (l := l) (j := i) (by omega)
                have g'9 := (jn @h6 (jn @h6d (jn @r6_len (jn @q7 g'8))))
                refine runTf g'9 ?_
                refine call_v (by kernel_rfl) (hshift_c _ (g65 l i) (g66 l i) t (by assumption)) ?_
                refine runTf g'9 ?_
                refine call_v (by kernel_rfl) (hgrow_c _ (shF (g65 l i) (g66 l i) t) (arcC (g66 l i)) tu (by assumption) (by omega)) ?_
                refine runTf g'9 ?_
                refine call_v (by kernel_rfl) (hlistq_c _ (g65 l i) (g66 l i) t tu (by assumption) (by assumption)) ?_
                refine runTf g'9 ?_
                refine go_loop try_mixed (by kernel_rfl) (fun k F Hx => ∃ m : Nat, m + k = (mrkA (g65 l i) (g66 l i) t tu).length ∧ (∀ j : Nat, j < m → unhB W Hh xs (g61 l i) (g62 l i) (g63 l i) (g64 l i) (gi (mrkA (g65 l i) (g66 l i) t tu) j) t f tu le sl ra = true) ∧ F = [(4, .ptr (some (H.length, 0))), (6, .ptr (some (H.length + 1, 0))), (7, .ptr (some (H.length + 2, 0))), (11, .ptr (some (H.length + 3, 0))), (37, .sl (some (bs, 0)) l.length cs), (38, .int .i64 ((l.length : Nat) : Int)), (39, .int .i64 ((i : Nat) : Int)), (62, .sl (some (H.length + 4, 0)) ((mrkA (g65 l i) (g66 l i) t tu).length) none), (63, .int .i64 (((mrkA (g65 l i) (g66 l i) t tu).length : Nat) : Int)), (64, .int .i64 ((m : Nat) : Int))] ∧ Hx = H ++ [.cells true 0 [.int .i64 W, .int .i64 Hh, .sl (some (bpp, 0)) xs.length cpp], .cells true 0 [.int .i64 t, .int .i64 f], .cells true 0 [.int .i64 tu, .int .i64 le, .int .i64 sl, .int .i64 ra], .cells true 0 [.int .i64 (g61 l i), .int .i64 (g62 l i), .int .i64 (g63 l i), .int .i64 (g64 l i), .int .i64 (g65 l i), .int .i64 (g66 l i)], .cells true 1 (ints .i64 (mrkA (g65 l i) (g66 l i) t tu))]) ((mrkA (g65 l i) (g66 l i) t tu).length) ?_ ?_
                · refine ⟨_, _, _, ⟨0, by omega, fun j h => by omega, rfl, rfl⟩, Abs.byG hbel [] rfl [0, 1, 2, 3, 5] (by decide) ?_⟩
                  exact absR
                · rintro k1 F Hx ⟨m, hm1, him, rfl, rfl⟩ J1 hJ1
                  have g'10 := (jn @ints_len (jn @ints_ones g'9))
                  refine runTf g'10 ?_
                  refine cond_split (fun h8 => ?_) (fun h8 => ?_)
                  · have h8d := bsT h8
                    have hmL : m < (mrkA (g65 l i) (g66 l i) t tu).length := by omega
                    have q9 := ints_get (k := .i64) (xs := mrkA (g65 l i) (g66 l i) t tu) (j := m) (by omega)
                    have g'11 := (jn @h8 (jn @h8d (jn @q9 g'10)))
                    refine runTf g'11 ?_
                    refine call_d (by kernel_rfl) (rect_c _ (g61 l i) (g62 l i) (g63 l i) (g64 l i) (g65 l i) (g66 l i) (by assumption)) ?_
                    refine runTf g'11 ?_
                    refine call_d (by kernel_rfl) (unh_c _ W Hh _ xs (g61 l i) (g62 l i) (g63 l i) (g64 l i) (gi (mrkA (g65 l i) (g66 l i) t tu) m) t f tu le sl ra ⟨_, _, _, rfl, by first | exact hb0pp _ | exact hbpp⟩ hV) ?_
                    refine runTf g'11 ?_
                    refine cond_split (fun h10 => ?_) (fun h10 => ?_)
                    · have h10d := bsT h10
                      have hfinB : saB W Hh xs l t f tu le sl ra = false := saB_f hf0 (j := i) (by omega) (boxOK_f (m := m) (by exact hmL) h10d)
                      have g'12 := (jn @h10 (jn @h10d g'11))
                      refine runTf g'12 ?_
                      exact hQ _ _ (end_plain (.inl rfl) hbel (x := .tup [.bool false, .int .i64 0]) (resT Tryz.results21) rfl ⟨by first | (rw [hfinE, hfinB]; done) | (rw [hfinB, hfinE]; done), rfl⟩)
                    · have h10d := bsT h10
                      have hua := h10d
                      have g'13 := (jn @h10 (jn @h10d g'11))
                      refine runTf g'13 ?_
                      refine hJ1 _ _ ⟨k1 - 1, by omega, _, _, _, ⟨m + 1, by omega, fun j hj => by
                                  rcases Nat.lt_or_ge j m with hji | hji
                                  · exact him j hji
                                  · rw [show j = m by omega]; exact hua, rfl, rfl⟩, Abs.byG hbel [] rfl [0, 1, 2, 3, 4] (by decide) ?_⟩
                      exact absRf @h5d
                  · have h8d := bsT h8
                    obtain rfl : m = (mrkA (g65 l i) (g66 l i) t tu).length := by omega
                    have hbok : boxOK W Hh xs t f tu le sl ra (g6 l i) = true := boxOK_t him
                    have g'14 := (jn @h8 (jn @h8d g'10))
                    refine runTf g'14 ?_
                    refine hJ0 _ _ ⟨k0 - 1, by omega, _, _, _, ⟨i + 1, by omega, fun j hj => by
                                rcases Nat.lt_or_ge j i with hji | hji
                                · exact hout j hji
                                · rw [show j = i by omega]; exact hbok, rfl, rfl⟩, Abs.byG hbel [] rfl [0, 1, 2] (by decide) ?_⟩
                    exact absWf @h5d
              · have h6d := bsT h6
                obtain rfl : i = l.length := by omega
                have hfinB : saB W Hh xs l t f tu le sl ra = true := saB_t hfinE hout
                have g'15 := (jn @h6 (jn @h6d g'8))
                refine runTf g'15 ?_
                exact hQ _ _ (end_plain (.inl rfl) hbel (x := .tup [.bool true, .int .i64 0]) (resT Tryz.results21) rfl ⟨by first | (rw [hfinE, hfinB]; done) | (rw [hfinB, hfinE]; done), rfl⟩)
      · have h3d := bsT h3
        have hz := saE_1 (W := W) (Hh := Hh) (xs := xs) (l := l) (t := t) (f := f) (tu := tu) (le := le) (sl := sl) (ra := ra) (fun hh => by simp [hh.1, hh.2.1, hh.2.2.1, hh.2.2.2] at h3d)
        have hfinE := hz.1
        have hfinB := hz.2
        have g'16 := (jn @h3 (jn @h3d g'3))
        refine runTf g'16 ?_
        exact hQ _ _ (end_plain (.inl rfl) hbel (x := .tup [.bool false, .int .i64 1]) (resT Tryz.results21) rfl ⟨by first | (rw [hfinE, hfinB]; done) | (rw [hfinB, hfinE]; done), rfl⟩)
    · have h2d := bsT h2
      have hz := saE_1 (W := W) (Hh := Hh) (xs := xs) (l := l) (t := t) (f := f) (tu := tu) (le := le) (sl := sl) (ra := ra) (fun hh => by simp [hh.1, hh.2.1, hh.2.2.1, hh.2.2.2] at h2d)
      have hfinE := hz.1
      have hfinB := hz.2
      have g'17 := (jn @h2 (jn @h2d g'2))
      refine runTf g'17 ?_
      exact hQ _ _ (end_plain (.inl rfl) hbel (x := .tup [.bool false, .int .i64 1]) (resT Tryz.results21) rfl ⟨by first | (rw [hfinE, hfinB]; done) | (rw [hfinB, hfinE]; done), rfl⟩)
  · have h1d := bsT h1
    have hz := saE_1 (W := W) (Hh := Hh) (xs := xs) (l := l) (t := t) (f := f) (tu := tu) (le := le) (sl := sl) (ra := ra) (fun hh => by simp [hh.1, hh.2.1, hh.2.2.1, hh.2.2.2] at h1d)
    have hfinE := hz.1
    have hfinB := hz.2
    have g'18 := (jn @h1 (jn @h1d g'1))
    refine runTf g'18 ?_
    exact hQ _ _ (end_plain (.inl rfl) hbel (x := .tup [.bool false, .int .i64 1]) (resT Tryz.results21) rfl ⟨by first | (rw [hfinE, hfinB]; done) | (rw [hfinB, hfinE]; done), rfl⟩)
open Go.RowKit
def bdT (n : Int) : Int := (((n % 12).toNat % 3 : Nat) : Int)
def bdL (n : Int) : Int := (((n % 12).toNat % 4 : Nat) : Int)
def bdS (n : Int) : Int := (((n % 12).toNat % 2 : Nat) : Int) * 3
def bdR (n : Int) : Int := 1 + (((n % 12).toNat : Nat) : Int)
theorem bd_ok (n : Int) : bndB (bdT n) (bdL n) (bdS n) (bdR n) = true := by
  unfold bndB bdT bdL bdS bdR
  simp only [Bool.and_eq_true, btw_iff]; omega
theorem lbounds_c (H : AHeap) (n : Int) : ACalls Tryz.prog 22 [.int .i64 n] H (fun v H' => v = .agg [.int .i64 (bdT n), .int .i64 (bdL n), .int .i64 (bdS n), .int .i64 (bdR n)] ∧ H' = H) := by
  have hr3 : ∀ a : Nat, Int.tmod (a : Int) 3 = ((a % 3 : Nat) : Int) := fun a => rfl
  have hr4 : ∀ a : Nat, Int.tmod (a : Int) 4 = ((a % 4 : Nat) : Int) := fun a => rfl
  have hr2 : ∀ a : Nat, Int.tmod (a : Int) 2 = ((a % 2 : Nat) : Int) := fun a => rfl
  refine AcT true Tryz.func22 ?_; intro hbel Q hQ
  have g'21 := (jn @hr3 (jn @hr4 @hr2))
  refine runTf g'21 ?_
  refine call_v (by kernel_rfl) (bmod_c _ n 12 (by omega) (by omega)) ?_
  refine runTf g'21 ?_
  exact hQ _ _ (end_plain (.inl rfl) hbel (x := .agg [.int .i64 ((((n % 12).toNat) % 3 : Nat) : Int), .int .i64 ((((n % 12).toNat) % 4 : Nat) : Int), .int .i64 (((((n % 12).toNat) % 2 : Nat) : Int) * 3), .int .i64 (1 + (((n % 12).toNat : Nat) : Int))]) (resT Tryz.results22) rfl ⟨rfl, rfl⟩)
open Go.RowKit
def prsOf : List AV → Option (List Pt)
  | [] => some []
  | .int .i64 x :: .int .i64 y :: r => (prsOf r).map ((x, y) :: ·)
  | _ => none
theorem prsOf_eq : ∀ (xs : List AV) (l : List Pt), prsOf xs = some l → xs = prs l
  | [], l, h => by simp [prsOf] at h; subst h; rfl
  | .int .i64 x :: .int .i64 y :: r, l, h => by
    simp only [prsOf, Option.map_eq_some_iff] at h
    obtain ⟨m, hm, rfl⟩ := h
    rw [prsOf_eq r m hm]; rfl
  | [x], l, h => by unfold prsOf at h; split at h <;> simp_all
  | x :: y :: r, l, h => by
    unfold prsOf at h
    split at h
    · simp_all
    · rename_i e
      injection e with e1 e2
      injection e2 with e2 e3
      subst e1 e2 e3
      simp only [Option.map_eq_some_iff] at h
      obtain ⟨m, hm, rfl⟩ := h
      rw [prsOf_eq _ m hm]; rfl
    · cases h
/-- The generators of a zonogon's slice. -/
def gensOf (H : AHeap) (s : AV) : Option (List Pt) :=
  match s with
  | .sl (some (b, 0)) n _ => match H[b]? with
    | some (.cells _ 2 xs) => (prsOf xs).bind fun l => bif Nat.beq l.length n then some l else none
    | _ => none
  | _ => none
theorem gensOf_isP {H : AHeap} {s : AV} {l : List Pt} (h : gensOf H s = some l) : SlP H s l := by
  unfold gensOf at h
  split at h
  · rename_i b n c
    split at h
    · rename_i own xs hb
      cases hp : prsOf xs with
      | none => rw [hp] at h; cases h
      | some m =>
        rw [hp, Option.bind_some] at h
        cases hn : Nat.beq m.length n
        · rw [hn] at h; cases h
        · rw [hn, cond_true] at h
          injection h with h
          subst h
          have := Nat.eq_of_beq_eq_true hn
          subst this
          exact ⟨b, own, c, rfl, by rw [hb, prsOf_eq _ _ hp]⟩
    · cases h
  · cases h
theorem TbOk.filter {P : Program} (p : Nat × Bool × Func → Bool) : ∀ {tb : List (Nat × Bool × Func)}, TbOk P tb → TbOk P (tb.filter p)
  | _, .nil => .nil
  | _, .cons (f := f) (q := q) (fn := fn) h1 h2 h3 hr => by
    rw [List.filter_cons]
    split
    · exact .cons h1 h2 h3 (TbOk.filter p hr)
    · exact TbOk.filter p hr
open Go.RowKit
def ext40 : Caller := fun f args H =>
  match args with
  | [.int .i64 h] => bif Nat.beq f 53 then some (.agg [.int .i64 (dirV h).1, .int .i64 (dirV h).2.1, .int .i64 (dirV h).2.2], none) else none
  | [.agg [.int .i64 x0, .int .i64 y0, .int .i64 x1, .int .i64 y1], .int .i64 h, .agg [.int .i64 t, .int .i64 g], .agg [.int .i64 tu, .int .i64 le, .int .i64 sl, .int .i64 ra]] =>
    bif Nat.beq f 13 then some (.tup [.agg [.int .i64 (mkX (sweE x0 y0 x1 y1 h t g tu le sl ra) (sweX x0 x1 h g le)), .int .i64 (mkX (sweE x0 y0 x1 y1 h t g tu le sl ra) (sweY y0 y1 h g le)), .sl (some (H.length, 0)) (mkL (sweE x0 y0 x1 y1 h t g tu le sl ra) (sweL x0 y0 x1 y1 h g le sl)).length (capG (mkL (sweE x0 y0 x1 y1 h t g tu le sl ra) (sweL x0 y0 x1 y1 h g le sl)).length)], .int .i64 (sweE x0 y0 x1 y1 h t g tu le sl ra)],
      some (H ++ [.cells (ownG (mkL (sweE x0 y0 x1 y1 h t g tu le sl ra) (sweL x0 y0 x1 y1 h g le sl)).length) 2 (prs (mkL (sweE x0 y0 x1 y1 h t g tu le sl ra) (sweL x0 y0 x1 y1 h g le sl)))])) else none
  | [.agg [.int .i64 fx, .int .i64 fy], .agg [.int .i64 tx, .int .i64 ty]] => bif Nat.beq f 36 then some (.tup [.int .i64 (towI fx fy tx ty), .int .i64 (towE fx fy tx ty)], none) else none
  | [.agg [.int .i64 x, .int .i64 y, s], .agg [.int .i64 x0, .int .i64 y0, .int .i64 x1, .int .i64 y1]] =>
    bif Nat.beq f 68 then (gensOf H s).map fun l => (.bool (apartB x y l x0 y0 x1 y1), none) else none
  | [.sl none 0 (some 0), .int .i64 n] =>
    bif Nat.beq f 163 && (decide (0 < n) && decide (n ≤ 1000)) then some (.sl (some (H.length, 0)) 0 none, some (H ++ [.cells true 2 []])) else none
  | _ => ext f args H
theorem ext40_ok : CallOk Tryz.prog ext40 := fun f args H x o h => by
  unfold ext40 at h
  split at h
  · rename_i z
    cases hf : Nat.beq f 53
    · rw [hf] at h; cases h
    · rw [hf, cond_true] at h
      have e := Nat.eq_of_beq_eq_true hf
      subst e
      simp only [Option.some.injEq, Prod.mk.injEq] at h
      obtain ⟨rfl, rfl⟩ := h
      exact ⟨by kernel_rfl, Nat.le_refl _, dir_c H z⟩
  · rename_i x0 y0 x1 y1 z t g tu le sl ra
    cases hf : Nat.beq f 13
    · rw [hf] at h; cases h
    · rw [hf, cond_true] at h
      have e := Nat.eq_of_beq_eq_true hf
      subst e
      simp only [Option.some.injEq, Prod.mk.injEq] at h
      obtain ⟨rfl, rfl⟩ := h
      exact ⟨by kernel_rfl, by simp, sweep_c H x0 y0 x1 y1 z t g tu le sl ra⟩
  · rename_i fx fy tx ty
    cases hf : Nat.beq f 36
    · rw [hf] at h; cases h
    · rw [hf, cond_true] at h
      have e := Nat.eq_of_beq_eq_true hf
      subst e
      simp only [Option.some.injEq, Prod.mk.injEq] at h
      obtain ⟨rfl, rfl⟩ := h
      exact ⟨by kernel_rfl, Nat.le_refl _, toward_c H fx fy tx ty⟩
  · rename_i x y s x0 y0 x1 y1
    cases hf : Nat.beq f 68
    · rw [hf] at h; cases h
    · rw [hf, cond_true] at h
      have e := Nat.eq_of_beq_eq_true hf
      subst e
      simp only [Option.map_eq_some_iff, Prod.mk.injEq] at h
      obtain ⟨l1, h1, rfl, rfl⟩ := h
      exact ⟨by kernel_rfl, Nat.le_refl _, apart_c H _ _ _ _ _ _ _ _ (gensOf_isP h1)⟩
  · rename_i n
    cases hf : Nat.beq f 163 && (decide (0 < n) && decide (n ≤ 1000))
    · rw [hf] at h; cases h
    · rw [hf, cond_true] at h
      simp only [Bool.and_eq_true, decide_eq_true_eq] at hf
      obtain ⟨h1, h2, h3⟩ := hf
      have e := Nat.eq_of_beq_eq_true h1
      subst e
      simp only [Option.some.injEq, Prod.mk.injEq] at h
      obtain ⟨rfl, rfl⟩ := h
      obtain ⟨m, rfl⟩ : ∃ m : Nat, n = m := ⟨n.toNat, by omega⟩
      exact ⟨by kernel_rfl, by simp, grow_a (by omega) (by omega)⟩
  · exact ext_ok f args H x o h
/-- The functions that the run enters: all but those. -/
noncomputable def tb40 : List (Nat × Bool × Func) := tb.filter fun p => !Nat.beq p.1 163 && !Nat.beq p.1 53 && !Nat.beq p.1 36
theorem tb40_ok : TbOk Tryz.prog tb40 := tb_ok.filter _
open Go.RowKit
theorem awake_a (H : AHeap) : ACalls Tryz.prog 12 [] H (fun v H' => v = .bool true ∧ H' = H) :=
  ACalls.closed (ran try_mixed ext40_ok tb40 tb40_ok 20000 60 (x := .bool true) (o := none) (by kernel_rfl)) rfl rfl H
open Go.RowKit
theorem lclr_c (H : AHeap) (W : Int) (Hh : Int) (pp : AV) (xs : List Int) (ax : Int) (ay : Int) (ah : Int) (t : Int) (f : Int) (eT : Int) (eL : Int) (eX : Int) (eY : Int) (mk : AV) (mks : List Int) (er : AV) (ers : List Int) (hpp : Sl H 1 pp xs.length (ints .u8 xs)) (hmk : Sl H 1 mk mks.length (ints .i64 mks)) (her : Sl H 1 er ers.length (ints .i64 ers)) : ACalls Tryz.prog 7 [.agg [.int .i64 W, .int .i64 Hh, pp], .agg [.int .i64 ax, .int .i64 ay, .int .i64 ah], .agg [.int .i64 t, .int .i64 f, .int .i64 eT, .int .i64 eL, .int .i64 eX, .int .i64 eY, mk, er]] H (fun v H' => v = .bool true ∧ H' = H) := by
  obtain ⟨bpp, opp, cpp, rfl, hbpp⟩ := hpp
  have hblpp := getElem?_lt hbpp
  have hb0pp := fun l => get_app (l := l) hbpp
  obtain ⟨bmk, omk, cmk, rfl, hbmk⟩ := hmk
  have hblmk := getElem?_lt hbmk
  have hb0mk := fun l => get_app (l := l) hbmk
  obtain ⟨ber, oer, cer, rfl, hber⟩ := her
  have hbler := getElem?_lt hber
  have hb0er := fun l => get_app (l := l) hber
  obtain ⟨tu, le, sl, ra, hcB, hb⟩ : ∃ tu le sl ra : Int, (∀ H : AHeap, ACalls Tryz.prog 22 [.int .i64 ax] H (fun v H' => v = .agg [.int .i64 tu, .int .i64 le, .int .i64 sl, .int .i64 ra] ∧ H' = H)) ∧ bndB tu le sl ra = true := ⟨_, _, _, _, fun H => lbounds_c H (ax), bd_ok _⟩
  have hbi := hb
  simp only [bndB, Bool.and_eq_true, btw_iff] at hbi
  obtain ⟨cT, cL, cX, cY, hcC, hcb1, hcb2, hcb3, hcb4⟩ : ∃ cT cL cX cY : Int, (∀ H : AHeap, ACalls Tryz.prog 28 [.agg [.int .i64 tu, .int .i64 le, .int .i64 sl, .int .i64 ra], .agg [.int .i64 eT, .int .i64 eL, .int .i64 eX, .int .i64 eY]] H (fun v H' => v = .agg [.int .i64 cT, .int .i64 cL, .int .i64 cX, .int .i64 cY] ∧ H' = H)) ∧ (-tu ≤ cT ∧ cT ≤ tu) ∧ (-le ≤ cL ∧ cL ≤ le) ∧ (-sl ≤ cX ∧ cX ≤ sl) ∧ (-sl ≤ cY ∧ cY ≤ sl) := ⟨_, _, _, _, fun H => lwithin_c H tu le sl ra eT eL eX eY hb, clg_bd (by omega), clg_bd (by omega), clg_bd (by omega), clg_bd (by omega)⟩
  (refine ACalls_pieces Tryz.func7 _ rfl (Nat.le_of_ble_eq_true (by kernel_rfl)) rfl ?_; intro hbel Q hQ hQ' c hc; unfold Tryz.f7 at hc; simp only [Option.some.injEq] at hc; subst hc; clear hQ')
  refine AW_seqQ fun Q1 hn1 hr1 he1 => ?_
  have hQ1 := fun F H' h => hr1 F H' (hQ F H' h)
  refine AW_fin true try_mixed (by kernel_rfl) ?_
  have g'1 := (jn @hbpp (jn @hb0pp (jn @hbmk (jn @hb0mk (jn @hber @hb0er)))))
  refine runTf g'1 ?_
  refine hn1 _ _ ?_
  refine AW_seqQ fun Q2 hn2 hr2 he2 => ?_
  have hQ2 := fun F H' h => hr2 F H' (hQ F H' h)
  refine AW_fin true try_mixed (by kernel_rfl) ?_
  refine runTf g'1 ?_
  refine call_v (by kernel_rfl) (awake_a _) ?_
  refine runTf g'1 ?_
  refine gd_split (fun h1 => ?_) (fun h1 => ?_)
  · have h1d := bsT h1
    have g'2 := (jn @h1 (jn @h1d g'1))
    refine runTf g'2 ?_
    refine call_v (by kernel_rfl) (bld_c _ W Hh _ xs ⟨_, _, _, rfl, by first | exact hb0pp _ | exact hbpp⟩) ?_
    refine runTf g'2 ?_
    refine gd_split (fun h2 => ?_) (fun h2 => ?_)
    · have h2d := bsT h2
      have hBl := h2d
      have hV : vldB W Hh xs = true := by have hh := hBl; unfold bldB at hh; rw [Bool.and_eq_true] at hh; exact hh.1
      have g'3 := (jn @h2 (jn @h2d g'2))
      refine runTf g'3 ?_
      refine call_v (by kernel_rfl) (bpose_c _ ax ay ah) ?_
      refine runTf g'3 ?_
      refine gd_split (fun h3 => ?_) (fun h3 => ?_)
      · have h3d := bsT h3
        have hP := h3d
        have hPi := poseB_iff.1 hP
        have hbt := btw_iff.1 hPi.2
        have g'4 := (jn @h3 (jn @h3d g'3))
        refine runTf g'4 ?_
        refine call_v (by kernel_rfl) (bsize2_c _ ax 524288 (by decide)) ?_
        refine runTf g'4 ?_
        refine gd_split (fun h4 => ?_) (fun h4 => ?_)
        · have h4d := bsT h4
          have hx5 := within_iff.1 h4d
          have g'5 := (jn @h4 (jn @h4d g'4))
          refine runTf g'5 ?_
          refine call_v (by kernel_rfl) (bsize2_c _ ay 524288 (by decide)) ?_
          refine runTf g'5 ?_
          refine gd_split (fun h5 => ?_) (fun h5 => ?_)
          · have h5d := bsT h5
            have hy5 := within_iff.1 h5d
            have g'6 := (jn @h5 (jn @h5d g'5))
            refine runTf g'6 ?_
            refine call_v (by kernel_rfl) (bcmd_c _ t f) ?_
            refine runTf g'6 ?_
            refine cond_split (fun h6 => ?_) (fun h6 => ?_)
            · have h6d := bsT h6
              have g'7 := (jn @h6 (jn @h6d g'6))
              refine runTf g'7 ?_
              refine call_v (by kernel_rfl) (awake_a _) ?_
              refine runTf g'7 ?_
              exact hQ2 _ _ (end_plain (.inl rfl) hbel (x := .bool true) (resT Tryz.results7) rfl ⟨by first | rfl | (rw [hclr]; rfl), rfl⟩)
            · have h6d := bsT h6
              have hC := h6d
              have hCi := hC
              simp only [cmdB, Bool.and_eq_true, btw_iff, within_iff] at hCi
              have hsE : saE W Hh xs [(ax - (((ay % 6).toNat : Nat) : Int), ay, ax, ay + (((ay % 6).toNat : Nat) : Int), ah, 1)] t f tu le sl ra = 0 := saE_0 hV (setB_iff.2 ⟨by simp, fun b hbm => by
                rw [List.mem_singleton] at hbm; subst hbm
                unfold boxB; rw [bxB_iff]
                simp only
                exact ⟨by omega, by omega, arcB_iff.2 (by omega)⟩⟩) hC hb
              have g'8 := (jn @h6 (jn @h6d g'6))
              refine runTf g'8 ?_
              refine hn2 _ _ ?_
              refine AW_seqQ fun Q3 hn3 hr3 he3 => ?_
              have hQ3 := fun F H' h => hr3 F H' (hQ F H' h)
              refine AW_fin true try_mixed (by kernel_rfl) ?_
              refine runTf g'8 ?_
              refine call_v (by kernel_rfl) (hcB _) ?_
              refine runTf g'8 ?_
              refine hn3 _ _ ?_
              refine AW_seqQ fun Q4 hn4 hr4 he4 => ?_
              have hQ4 := fun F H' h => hr4 F H' (hQ F H' h)
              refine AW_fin true try_mixed (by kernel_rfl) ?_
              refine runTf g'8 ?_
              refine call_v (by kernel_rfl) (bmod_c _ ay 6 (by omega) (by omega)) ?_
              refine runTf g'8 ?_
              refine hn4 _ _ ?_
              refine AW_seqQ fun Q5 hn5 hr5 he5 => ?_
              have hQ5 := fun F H' h => hr5 F H' (hQ F H' h)
              refine AW_fin true try_mixed (by kernel_rfl) ?_
              refine runTf g'8 ?_
              refine hn5 _ _ ?_
              refine AW_seqQ fun Q6 hn6 hr6 he6 => ?_
              have hQ6 := fun F H' h => hr6 F H' (hQ F H' h)
              refine AW_fin true try_mixed (by kernel_rfl) ?_
              refine runTf g'8 ?_
              refine call_v (by kernel_rfl) (safe_c _ W Hh _ xs _ [(ax - (((ay % 6).toNat : Nat) : Int), ay, ax, ay + (((ay % 6).toNat : Nat) : Int), ah, 1)] t f tu le sl ra ⟨_, _, _, rfl, by first | exact hb0pp _ | exact hbpp⟩ ⟨_, _, _, by first | rfl | (rw [List.length_append]; done) | (rw [List.length_append]; rfl), by first | rfl | (rw [get_newk]; rfl) | (rw [get_new0]; rfl) | (rw [get_newk, prs_append]; rfl) | (rw [get_new0, prs_append]; rfl)⟩ (by simp)) ?_
              refine runTf g'8 ?_
              refine hn6 _ _ ?_
              refine AW_seqQ fun Q7 hn7 hr7 he7 => ?_
              have hQ7 := fun F H' h => hr7 F H' (hQ F H' h)
              refine AW_fin true try_mixed (by kernel_rfl) ?_
              refine runTf g'8 ?_
              refine gd_split (fun h7 => ?_) (fun h7 => ?_)
              · have h7d := bsT h7
                have h7n := bnT h7
                have g'9 := (jn @h7 (jn @h7n (jn @int_bne (jn @int_beq g'8))))
                refine runTf g'9 ?_
                refine cond_split (fun h8 => ?_) (fun h8 => ?_)
                · have h8d := bsT h8
                  have g'10 := (jn @h8 (jn @h8d g'9))
                  refine runTf g'10 ?_
                  exact hQ7 _ _ (end_plain (.inl rfl) hbel (x := .bool true) (resT Tryz.results7) rfl ⟨by first | rfl | (rw [hclr]; rfl), rfl⟩)
                · have h8d := bsT h8
                  have hsafe := h8d
                  have g'11 := (jn @h8 (jn @h8d g'9))
                  refine runTf g'11 ?_
                  refine hn7 _ _ ?_
                  refine AW_special true try_mixed [[0, 1, 2, 3, 4, 5, 6, 7, 8, 9, 10, 11, 12, 13, 14, 15, 16], [0, 1, 2, 3, 4, 5, 6, 7, 13, 8, 9, 10, 11, 12, 14, 15, 16], [0, 1, 2, 3, 4, 5, 6, 13, 7, 8, 9, 10, 11, 12, 14, 15, 16]] (by kernel_rfl) (fun F2 H2 => F2 = [(6, .bool false), (13, .bool (stB W Hh xs ax ay ah t f cT cL cX cY)), (14, .int .i64 (nxE ax ay ah t f cT cL cX cY))] ∧ H2 = H) ?_ ?_
                  · refine reps_cons ?_ (reps_cons ?_ (reps_cons ?_ (reps_nil))) <;> intro J hJ
                    · skip
                      refine runDf g'11 ?_
                      refine call_d (by kernel_rfl) (hcC _) ?_
                      refine runDf g'11 ?_
                      refine call_d (by kernel_rfl) (step_c _ W Hh _ xs ax ay ah t f cT cL cX cY ⟨_, _, _, rfl, by first | exact hb0pp _ | exact hbpp⟩ hV hBl hP) ?_
                      refine runDf g'11 ?_
                      refine inv_of (hJ _ _ ⟨_, _, _, ⟨rfl, rfl⟩, Abs.byN hbel ?_⟩)
                      exact absW
                    · skip
                      refine runDf g'11 ?_
                      refine call_d (by kernel_rfl) (hcC _) ?_
                      refine runDf g'11 ?_
                      refine call_d (by kernel_rfl) (step_c _ W Hh _ xs ax ay ah t f cT cL cX cY ⟨_, _, _, rfl, by first | exact hb0pp _ | exact hbpp⟩ hV hBl hP) ?_
                      refine runDf g'11 ?_
                      refine inv_of (hJ _ _ ⟨_, _, _, ⟨rfl, rfl⟩, Abs.byN hbel ?_⟩)
                      exact absW
                    · skip
                      refine runDf g'11 ?_
                      refine call_d (by kernel_rfl) (hcC _) ?_
                      refine runDf g'11 ?_
                      refine call_d (by kernel_rfl) (step_c _ W Hh _ xs ax ay ah t f cT cL cX cY ⟨_, _, _, rfl, by first | exact hb0pp _ | exact hbpp⟩ hV hBl hP) ?_
                      refine runDf g'11 ?_
                      refine inv_of (hJ _ _ ⟨_, _, _, ⟨rfl, rfl⟩, Abs.byN hbel ?_⟩)
                      exact absW
                  rintro F2 H2 ⟨rfl, rfl⟩
                  refine AW_fin true try_mixed (by kernel_rfl) ?_
                  refine runTf g'11 ?_
                  refine gd_split (fun h9 => ?_) (fun h9 => ?_)
                  · have h9d := bsT h9
                    have h9n := bnT h9
                    have hne : nxE ax ay ah t f cT cL cX cY = 0 := by simpa using h9d
                    have hclr := clear_ok hsafe hsE hx5 hy5 (by omega) hP (by omega) (by omega) hcb1 hcb2 hcb3 hcb4 hne
                    have g'12 := (jn @h9 (jn @h9n g'11))
                    refine runTf g'12 ?_
                    exact hQ _ _ (end_plain0 (.inl rfl) hbel (x := .bool (!(stB W Hh xs ax ay ah t f cT cL cX cY))) (resT Tryz.results7) rfl ⟨by first | rfl | (rw [hclr]; rfl), rfl⟩)
                  · have h9d := bsT h9
                    have h9n := bnT h9
                    have g'13 := (jn @h9 (jn @h9n g'11))
                    refine runTf g'13 ?_
                    exact hQ _ _ (end_plain0 (.inl rfl) hbel (x := .bool true) (resT Tryz.results7) rfl ⟨by first | rfl | (rw [hclr]; rfl), rfl⟩)
              · have h7d := bsT h7
                have h7n := bnT h7
                exact absurd hsE (by simpa using h7d)
          · have h5d := bsT h5
            have g'14 := (jn @h5 (jn @h5d g'5))
            refine runTf g'14 ?_
            refine call_v (by kernel_rfl) (awake_a _) ?_
            refine runTf g'14 ?_
            exact hQ2 _ _ (end_plain (.inl rfl) hbel (x := .bool true) (resT Tryz.results7) rfl ⟨by first | rfl | (rw [hclr]; rfl), rfl⟩)
        · have h4d := bsT h4
          have g'15 := (jn @h4 (jn @h4d g'4))
          refine runTf g'15 ?_
          refine call_v (by kernel_rfl) (awake_a _) ?_
          refine runTf g'15 ?_
          exact hQ2 _ _ (end_plain (.inl rfl) hbel (x := .bool true) (resT Tryz.results7) rfl ⟨by first | rfl | (rw [hclr]; rfl), rfl⟩)
      · have h3d := bsT h3
        have g'16 := (jn @h3 (jn @h3d g'3))
        refine runTf g'16 ?_
        refine call_v (by kernel_rfl) (awake_a _) ?_
        refine runTf g'16 ?_
        exact hQ2 _ _ (end_plain (.inl rfl) hbel (x := .bool true) (resT Tryz.results7) rfl ⟨by first | rfl | (rw [hclr]; rfl), rfl⟩)
    · have h2d := bsT h2
      have g'17 := (jn @h2 (jn @h2d g'2))
      refine runTf g'17 ?_
      refine call_v (by kernel_rfl) (awake_a _) ?_
      refine runTf g'17 ?_
      exact hQ2 _ _ (end_plain (.inl rfl) hbel (x := .bool true) (resT Tryz.results7) rfl ⟨by first | rfl | (rw [hclr]; rfl), rfl⟩)
  · have h1d := bsT h1
    have g'18 := (jn @h1 (jn @h1d g'1))
    refine runTf g'18 ?_
    refine call_v (by kernel_rfl) (awake_a _) ?_
    refine runTf g'18 ?_
    exact hQ2 _ _ (end_plain (.inl rfl) hbel (x := .bool true) (resT Tryz.results7) rfl ⟨by first | rfl | (rw [hclr]; rfl), rfl⟩)
open Go.RowKit
set_option maxRecDepth 100000 in
theorem motionClear_top (H : AHeap) (xs : List AV) (hn : xs.length = 3) (hy : ∀ (j : Nat) (t : TypeId) (x : AV), [49, 57, 76][j]? = some t → xs[j]? = some x → ATy Tryz.prog H 9 t x) : ACalls Tryz.prog 7 xs H (fun v H' => v = .bool true ∧ H' = H) := by
  match xs, hn, hy with
  | [a0, a1, a2], _, hy =>
    obtain ⟨ys0, e0, r0_0⟩ := (hy 0 _ a0 rfl rfl).agg (ls := [3, 3, 47]) (by kernel_rfl) (by kernel_rfl)
    obtain ⟨y0_0, q0_0, rfl, t0_0, r0_1⟩ := r0_0.cons
    obtain ⟨z1, rfl, w1⟩ := t0_0.int (k := .i64) (by kernel_rfl)
    obtain ⟨y0_1, q0_1, rfl, t0_1, r0_2⟩ := r0_1.cons
    obtain ⟨z2, rfl, w2⟩ := t0_1.int (k := .i64) (by kernel_rfl)
    obtain ⟨y0_2, q0_2, rfl, t0_2, r0_3⟩ := r0_2.cons
    obtain ⟨l3, s3, m3, w3⟩ := t0_2.intsU (n := 7) (t := 47) (e := 5) (by kernel_rfl) (by kernel_rfl) (by kernel_rfl)
    obtain rfl := r0_3.nil
    subst e0
    obtain ⟨ys1, e1, r1_0⟩ := (hy 1 _ a1 rfl rfl).agg (ls := [3, 3, 3]) (by kernel_rfl) (by kernel_rfl)
    obtain ⟨y1_0, q1_0, rfl, t1_0, r1_1⟩ := r1_0.cons
    obtain ⟨z4, rfl, w4⟩ := t1_0.int (k := .i64) (by kernel_rfl)
    obtain ⟨y1_1, q1_1, rfl, t1_1, r1_2⟩ := r1_1.cons
    obtain ⟨z5, rfl, w5⟩ := t1_1.int (k := .i64) (by kernel_rfl)
    obtain ⟨y1_2, q1_2, rfl, t1_2, r1_3⟩ := r1_2.cons
    obtain ⟨z6, rfl, w6⟩ := t1_2.int (k := .i64) (by kernel_rfl)
    obtain rfl := r1_3.nil
    subst e1
    obtain ⟨ys2, e2, r2_0⟩ := (hy 2 _ a2 rfl rfl).agg (ls := [3, 3, 3, 3, 3, 3, 74, 74]) (by kernel_rfl) (by kernel_rfl)
    obtain ⟨y2_0, q2_0, rfl, t2_0, r2_1⟩ := r2_0.cons
    obtain ⟨z7, rfl, w7⟩ := t2_0.int (k := .i64) (by kernel_rfl)
    obtain ⟨y2_1, q2_1, rfl, t2_1, r2_2⟩ := r2_1.cons
    obtain ⟨z8, rfl, w8⟩ := t2_1.int (k := .i64) (by kernel_rfl)
    obtain ⟨y2_2, q2_2, rfl, t2_2, r2_3⟩ := r2_2.cons
    obtain ⟨z9, rfl, w9⟩ := t2_2.int (k := .i64) (by kernel_rfl)
    obtain ⟨y2_3, q2_3, rfl, t2_3, r2_4⟩ := r2_3.cons
    obtain ⟨z10, rfl, w10⟩ := t2_3.int (k := .i64) (by kernel_rfl)
    obtain ⟨y2_4, q2_4, rfl, t2_4, r2_5⟩ := r2_4.cons
    obtain ⟨z11, rfl, w11⟩ := t2_4.int (k := .i64) (by kernel_rfl)
    obtain ⟨y2_5, q2_5, rfl, t2_5, r2_6⟩ := r2_5.cons
    obtain ⟨z12, rfl, w12⟩ := t2_5.int (k := .i64) (by kernel_rfl)
    obtain ⟨y2_6, q2_6, rfl, t2_6, r2_7⟩ := r2_6.cons
    obtain ⟨l13, s13, m13, w13⟩ := t2_6.intsU (n := 7) (t := 74) (e := 3) (by kernel_rfl) (by kernel_rfl) (by kernel_rfl)
    obtain ⟨y2_7, q2_7, rfl, t2_7, r2_8⟩ := r2_7.cons
    obtain ⟨l14, s14, m14, w14⟩ := t2_7.intsU (n := 7) (t := 74) (e := 3) (by kernel_rfl) (by kernel_rfl) (by kernel_rfl)
    obtain rfl := r2_8.nil
    subst e2
    exact lclr_c H z1 z2 _ l3 z4 z5 z6 z7 z8 z9 z10 z11 z12 _ l13 _ l14 s3 s13 s14
section
open Go.ChangeShapes Go.WideShapes Go.ChangeAt Go.RowKit Go.Joins
open Go.ChangeMaps (open_string shut_string)
set_option maxRecDepth 100000 in
theorem motionClear_lifted (os : Os) (started : os.Started) (H : Type) (enc : TypeId × Value → H) :
    ReturnsInHanded {} Tryz.checked os 7 .any (Rows.motionClearSpec.pre6 enc Tryz.prog Tryz.f7 Rows.motionClearRow.domain false) (Rows.motionClearSpec.post enc Tryz.prog Tryz.f7 false true false false) := by
  refine returnsInHanded_of_change (C := Tryz.checked) own started (by kernel_rfl) Tryz.func7
    (ChangeSpec.witness6 (enc := enc) (C := Tryz.checked) false ⟨#[], #[.agg #[.int .i64 0, .int .i64 0, .slice none 0 0], .agg #[.int .i64 0, .int .i64 0, .int .i64 0], .agg #[.int .i64 0, .int .i64 0, .int .i64 0, .int .i64 0, .int .i64 0, .int .i64 0, .slice none 0 0, .slice none 0 0]], []⟩ 8 (by kernel_rfl) (by kernel_rfl) (by kernel_rfl) (by kernel_rfl)) ?_
  intro W base args ds gs before hval0 hW hcnd _
  have hval : ∀ (j : Nat) t v, Tryz.f7.params[j]? = some t → args[j]? = some v → Value.okWide Tryz.prog W .any base t v := hval0
  have hW' := hW
  obtain ⟨p, q, hA0, hV, rfl, hfz, hnd⟩ := hW
  have hA : DataW.TrodAll enc Tryz.prog W 0 (fun _ => true) true Tryz.f7.params.toList args.toList ds p := hA0
  rw [Tryz.params7] at hA hval
  have hwalk := calls_top (n := 9) (f := 7) hA (fun j t v a b => hval j t v (by simpa using a) (by simpa using b)) (by kernel_rfl) (fun H xs hn hy => motionClear_top H xs hn hy)
  rw [Array.toArray_toList] at hwalk
  obtain ⟨v0, vs0, d0, ds0, p0, q0, hargs, rfl, rfl, h0, r0⟩ := trodAll_cons hA
  obtain ⟨v1, vs1, d1, ds1, p1, q1, rfl, rfl, rfl, h1, r1⟩ := trodAll_cons r0
  obtain ⟨v2, vs2, d2, ds2, p2, q2, rfl, rfl, rfl, h2, r2⟩ := trodAll_cons r1
  obtain ⟨rfl, rfl, rfl⟩ := trodAll_nil r2
  obtain rfl : args = #[v0, v1, v2] := by cases args; simp_all
  obtain ⟨rfl, rfl⟩ := trodVars_none hV
  have k0 := h0
  have lt0 : ∀ x ∈ p0, x.block < W.heap.size := by obtain ⟨m, hm⟩ := k0; exact DataW.trod_lt m _ _ _ hm
  have k1 := h1
  have lt1 : ∀ x ∈ p1, x.block < W.heap.size := by obtain ⟨m, hm⟩ := k1; exact DataW.trod_lt m _ _ _ hm
  have k2 := h2
  have lt2 : ∀ x ∈ p2, x.block < W.heap.size := by obtain ⟨m, hm⟩ := k2; exact DataW.trod_lt m _ _ _ hm
  clear hA0 hval0
  refine hwalk.mono fun e W' ⟨he, bel⟩ => ?_
  subst he
  exact ⟨_, rfl, _, _, _, [], _, [], hW', trodAll_mk1 (shut_bool Tryz.underlying4 _), (trodAll_cons_mk (Below.trod laidOut (by kernel_rfl) (of_decide_eq_true (by kernel_rfl)) k0 bel lt0) (trodAll_cons_mk (Below.trod laidOut (by kernel_rfl) (of_decide_eq_true (by kernel_rfl)) k1 bel lt1) (trodAll_cons_mk (Below.trod laidOut (by kernel_rfl) (of_decide_eq_true (by kernel_rfl)) k2 bel lt2) trodAll_mk0))), rfl, bel.frame _, fun h => by cases h⟩
theorem motionClear_over : Rows.motionClearRow.holds Tryz.pinned (OpenSpec.ofChange Rows.motionClearSpec) :=
  OpenClaim.holds_of_wide 7 Tryz.f7 rfl rfl rfl rfl rfl rfl rfl ⟨rfl, rfl, rfl, rfl, rfl⟩ rfl rfl rfl rfl rfl (by kernel_rfl) Tryz.func7 (by kernel_rfl)
    (of_decide_eq_true (by kernel_rfl)) (by unfold Func.isWrapper; rw [if_neg (by decide +kernel)]; exact ⟨rfl, rfl⟩)
    (fun os started H enc _ => motionClear_lifted os started H enc)
/-- The given statement. -/
theorem motionClear_proved : Rows.MotionClearSaid := motionClear_over
end
end Go.Proofs.YtoimakfecmhjkaaGreat
