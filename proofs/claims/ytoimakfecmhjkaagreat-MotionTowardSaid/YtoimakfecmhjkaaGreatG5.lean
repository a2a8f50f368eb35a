/- Proved: the law MotionToward returns true on every input, and its arguments read afterwards as before. Conditions: none beyond the given row's. -/
import Derived.Test.YtoimakfecmhjkaaGreatG4
import Derived.Test.YtoimakfecmhjkaaGreatG3
import Derived.Test.YtoimakfecmhjkaaGreatG2

/- Walks by the abstract machine: Toward, both. Conditions: as each theorem states. -/
namespace Go.Proofs.YtoimakfecmhjkaaGreat
set_option linter.unusedSimpArgs false
set_option linter.unusedVariables false
open Go.RowKit
theorem dirV_nat {n : Nat} (h : n < 256) : dirV ((n : Nat) : Int) = dirN n := by
  unfold dirV
  rw [show (((n : Nat) : Int) % 256).toNat = n by omega]
theorem bey_lt {v : Vec} {x y : Int} (h : halfI v.1 v.2.1 < halfI x y) : beyB v x y = false := by
  unfold beyB
  have := halfI_or v.1 v.2.1
  have := halfI_or x y
  rw [if_neg (by omega)]
  exact decide_eq_false (by omega)
theorem bey_gt {v : Vec} {x y : Int} (h : ¬ halfI v.1 v.2.1 < halfI x y) (h2 : ¬ halfI v.1 v.2.1 = halfI x y) : beyB v x y = true := by
  unfold beyB
  have := halfI_or v.1 v.2.1
  have := halfI_or x y
  rw [if_neg h2]
  exact decide_eq_true (by omega)
theorem bey_eq {v : Vec} {x y : Int} (h : halfI v.1 v.2.1 = halfI x y) : beyB v x y = decide (v.1 * y - v.2.1 * x < 0) := by
  unfold beyB; rw [if_pos h]; rfl
/-- As the reference asks it. -/
def lowB (x y : Int) : Bool := decide (y < 0) || (y == 0 && decide (x < 0))
def beyR (v1 v2 dx dy : Int) : Bool := bif (lowB v1 v2 != lowB dx dy) then lowB v1 v2 else decide (0 < dx * v2 - dy * v1)
theorem lowB_half {x y : Int} (h : ¬ (x = 0 ∧ y = 0)) : lowB x y = decide (halfI x y = 1) := by
  rw [Bool.eq_iff_iff]
  unfold lowB halfI
  simp only [Bool.or_eq_true, Bool.and_eq_true, decide_eq_true_eq, beq_iff_eq]
  split <;> omega
theorem vec_ne {v : Vec} (h : vecOK v = true) : ¬ (v.1 = 0 ∧ v.2.1 = 0) := by
  rintro ⟨a, b⟩
  have := vecOK_iff.1 h
  rw [a, b] at this
  have h1 := this.1.1
  have h2 : 0 < v.2.2 * v.2.2 := Int.mul_pos (by omega) (by omega)
  omega
theorem beyR_eq {v : Vec} (hv : vecOK v = true) {x y : Int} (hd : ¬ (x = 0 ∧ y = 0)) : beyR v.1 v.2.1 x y = beyB v x y := by
  unfold beyR beyB
  rw [lowB_half (vec_ne hv), lowB_half hd]
  have h1 := halfI_or v.1 v.2.1
  have h2 := halfI_or x y
  have hc : crs (v.1, v.2.1) (x, y) = -(x * v.2.1 - y * v.1) := by unfold crs; simp only; rw [Int.mul_comm v.1, Int.mul_comm v.2.1]; omega
  rw [hc]
  by_cases he : halfI v.1 v.2.1 = halfI x y
  · rw [if_pos he, he]
    simp only [bne_self_eq_false, cond_false]
    rw [Bool.eq_iff_iff]; simp only [decide_eq_true_eq]; omega
  · rw [if_neg he]
    rcases h1 with h1 | h1 <;> rcases h2 with h2 | h2 <;> rw [h1, h2] at he ⊢ <;> first | omega | rfl
def ptB (x y : Int) : Bool := within x 1048576 && within y 1048576
def towE (fx fy tx ty : Int) : Int := if (ptB fx fy && ptB tx ty) = true then (if fx = tx ∧ fy = ty then 9 else 0) else 1
def towI (fx fy tx ty : Int) : Int := if towE fx fy tx ty = 0 then ((towN (tx - fx) (ty - fy) 256 : Nat) : Int) else 0
set_option maxHeartbeats 4000000 in
set_option maxRecDepth 100000 in
theorem mvpt_c (H : AHeap) (x : Int) (y : Int) : ACalls Tryz.prog 95 [.agg [.int .i64 x, .int .i64 y]] H (fun v H' => v = .bool (ptB x y) ∧ H' = H) := by
  (refine ACalls_run try_mixed Tryz.func95 true _ rfl (Nat.le_of_ble_eq_true (by kernel_rfl)) (by kernel_rfl) ?_; intro hbel Q hQ hQ' c hc; unfold Tryz.f95 at hc; simp only [Option.some.injEq] at hc; subst hc; clear hQ')
  simp -implicitDefEqProofs (disch := omega) only [aApp_nil, aApp_none, aApp_some, aApp_grw, simprocAttr, amset, tyset, Function.comp_apply, one1, lenV, calleeOf, lateOk, belowV, aop, AV.ofValue, AV.ofCell, AV.cells, AV.flat, AV.one, arep, aBin, aConv]
  repeat refine And.intro (by omega) ?_
  refine call_v (by kernel_rfl) (mnear_c _ x) ?_
  simp -implicitDefEqProofs (disch := omega) only [aApp_nil, aApp_none, aApp_some, aApp_grw, simprocAttr, amset, tyset, Function.comp_apply, one1, lenV, calleeOf, lateOk, belowV, aop, AV.ofValue, AV.ofCell, AV.cells, AV.flat, AV.one, arep, aBin, aConv]
  repeat refine And.intro (by omega) ?_
  refine gd_split (fun h1 => ?_) (fun h1 => ?_)
  · have h1d := h1
    try simp only [boolset, beq_iff_eq, ne_eq] at h1d
    simp -implicitDefEqProofs (disch := omega) only [h1, h1d, aApp_nil, aApp_none, aApp_some, aApp_grw, simprocAttr, amset, tyset, Function.comp_apply, one1, lenV, calleeOf, lateOk, belowV, aop, AV.ofValue, AV.ofCell, AV.cells, AV.flat, AV.one, arep, aBin, aConv]
    repeat refine And.intro (by omega) ?_
    refine call_v (by kernel_rfl) (mnear_c _ y) ?_
    simp -implicitDefEqProofs (disch := omega) only [h1, h1d, aApp_nil, aApp_none, aApp_some, aApp_grw, simprocAttr, amset, tyset, Function.comp_apply, one1, lenV, calleeOf, lateOk, belowV, aop, AV.ofValue, AV.ofCell, AV.cells, AV.flat, AV.one, arep, aBin, aConv]
    repeat refine And.intro (by omega) ?_
    exact hQ _ _ (end_plain (.inl rfl) hbel (x := .bool (within y 1048576)) (ret_of Tryz.results95 (by simp -implicitDefEqProofs (disch := omega) only [simprocAttr, amset, tyset, Function.comp_apply, one1, lenV, calleeOf, lateOk, belowV, aop, AV.ofValue, AV.ofCell, AV.cells, AV.flat, AV.one, arep, aBin, aAppend, aConv])) rfl ⟨by simp [ptB, h1d], rfl⟩)
  · have h1d := h1
    try simp only [boolset, beq_iff_eq, ne_eq] at h1d
    simp -implicitDefEqProofs (disch := omega) only [h1, h1d, aApp_nil, aApp_none, aApp_some, aApp_grw, simprocAttr, amset, tyset, Function.comp_apply, one1, lenV, calleeOf, lateOk, belowV, aop, AV.ofValue, AV.ofCell, AV.cells, AV.flat, AV.one, arep, aBin, aConv]
    repeat refine And.intro (by omega) ?_
    exact hQ _ _ (end_plain (.inl rfl) hbel (x := .bool false) (ret_of Tryz.results95 (by simp -implicitDefEqProofs (disch := omega) only [simprocAttr, amset, tyset, Function.comp_apply, one1, lenV, calleeOf, lateOk, belowV, aop, AV.ofValue, AV.ofCell, AV.cells, AV.flat, AV.one, arep, aBin, aAppend, aConv])) rfl ⟨by simp [ptB, h1d], rfl⟩)
set_option maxHeartbeats 4000000 in
set_option maxRecDepth 100000 in
theorem bpt_c (H : AHeap) (x : Int) (y : Int) : ACalls Tryz.prog 97 [.agg [.int .i64 x, .int .i64 y]] H (fun v H' => v = .bool (ptB x y) ∧ H' = H) := by
  (refine ACalls_run try_mixed Tryz.func97 true _ rfl (Nat.le_of_ble_eq_true (by kernel_rfl)) (by kernel_rfl) ?_; intro hbel Q hQ hQ' c hc; unfold Tryz.f97 at hc; simp only [Option.some.injEq] at hc; subst hc; clear hQ')
  simp -implicitDefEqProofs (disch := omega) only [aApp_nil, aApp_none, aApp_some, aApp_grw, simprocAttr, amset, tyset, Function.comp_apply, one1, lenV, calleeOf, lateOk, belowV, aop, AV.ofValue, AV.ofCell, AV.cells, AV.flat, AV.one, arep, aBin, aConv]
  repeat refine And.intro (by omega) ?_
  refine call_v (by kernel_rfl) (bsize_c _ _ _ (by decide)) ?_
  simp -implicitDefEqProofs (disch := omega) only [aApp_nil, aApp_none, aApp_some, aApp_grw, simprocAttr, amset, tyset, Function.comp_apply, one1, lenV, calleeOf, lateOk, belowV, aop, AV.ofValue, AV.ofCell, AV.cells, AV.flat, AV.one, arep, aBin, aConv]
  repeat refine And.intro (by omega) ?_
  refine gd_split (fun h1 => ?_) (fun h1 => ?_)
  · have h1d := h1
    try simp only [boolset, beq_iff_eq, ne_eq] at h1d
    simp -implicitDefEqProofs (disch := omega) only [h1, h1d, aApp_nil, aApp_none, aApp_some, aApp_grw, simprocAttr, amset, tyset, Function.comp_apply, one1, lenV, calleeOf, lateOk, belowV, aop, AV.ofValue, AV.ofCell, AV.cells, AV.flat, AV.one, arep, aBin, aConv]
    repeat refine And.intro (by omega) ?_
    refine call_v (by kernel_rfl) (bsize_c _ _ _ (by decide)) ?_
    simp -implicitDefEqProofs (disch := omega) only [h1, h1d, aApp_nil, aApp_none, aApp_some, aApp_grw, simprocAttr, amset, tyset, Function.comp_apply, one1, lenV, calleeOf, lateOk, belowV, aop, AV.ofValue, AV.ofCell, AV.cells, AV.flat, AV.one, arep, aBin, aConv]
    repeat refine And.intro (by omega) ?_
    exact hQ _ _ (end_plain (.inl rfl) hbel (x := .bool (within y 1048576)) (ret_of Tryz.results97 (by simp -implicitDefEqProofs (disch := omega) only [simprocAttr, amset, tyset, Function.comp_apply, one1, lenV, calleeOf, lateOk, belowV, aop, AV.ofValue, AV.ofCell, AV.cells, AV.flat, AV.one, arep, aBin, aAppend, aConv])) rfl ⟨by simp [ptB, h1d], rfl⟩)
  · have h1d := h1
    try simp only [boolset, beq_iff_eq, ne_eq] at h1d
    simp -implicitDefEqProofs (disch := omega) only [h1, h1d, aApp_nil, aApp_none, aApp_some, aApp_grw, simprocAttr, amset, tyset, Function.comp_apply, one1, lenV, calleeOf, lateOk, belowV, aop, AV.ofValue, AV.ofCell, AV.cells, AV.flat, AV.one, arep, aBin, aConv]
    repeat refine And.intro (by omega) ?_
    exact hQ _ _ (end_plain (.inl rfl) hbel (x := .bool false) (ret_of Tryz.results97 (by simp -implicitDefEqProofs (disch := omega) only [simprocAttr, amset, tyset, Function.comp_apply, one1, lenV, calleeOf, lateOk, belowV, aop, AV.ofValue, AV.ofCell, AV.cells, AV.flat, AV.one, arep, aBin, aAppend, aConv])) rfl ⟨by simp [ptB, h1d], rfl⟩)
set_option maxHeartbeats 4000000 in
set_option maxRecDepth 100000 in
theorem mhalf_c (H : AHeap) (x : Int) (y : Int) : ACalls Tryz.prog 96 [.int .i64 x, .int .i64 y] H (fun v H' => v = .int .i64 (halfI x y) ∧ H' = H) := by
  (refine ACalls_run try_mixed Tryz.func96 true _ rfl (Nat.le_of_ble_eq_true (by kernel_rfl)) (by kernel_rfl) ?_; intro hbel Q hQ hQ' c hc; unfold Tryz.f96 at hc; simp only [Option.some.injEq] at hc; subst hc; clear hQ')
  simp -implicitDefEqProofs (disch := omega) only [aApp_nil, aApp_none, aApp_some, aApp_grw, simprocAttr, amset, tyset, Function.comp_apply, one1, lenV, calleeOf, lateOk, belowV, aop, AV.ofValue, AV.ofCell, AV.cells, AV.flat, AV.one, arep, aBin, aConv]
  repeat refine And.intro (by omega) ?_
  refine gd_split (fun h1 => ?_) (fun h1 => ?_)
  · have h1d := h1
    try simp only [boolset, beq_iff_eq, ne_eq] at h1d
    simp -implicitDefEqProofs (disch := omega) only [h1, h1d, aApp_nil, aApp_none, aApp_some, aApp_grw, simprocAttr, amset, tyset, Function.comp_apply, one1, lenV, calleeOf, lateOk, belowV, aop, AV.ofValue, AV.ofCell, AV.cells, AV.flat, AV.one, arep, aBin, aConv]
    repeat refine And.intro (by omega) ?_
    refine gd_split (fun h2 => ?_) (fun h2 => ?_)
    · have h2d := h2
      try simp only [boolset, beq_iff_eq, ne_eq] at h2d
      simp -implicitDefEqProofs (disch := omega) only [h1, h1d, h2, h2d, int_bne, int_beq, aApp_nil, aApp_none, aApp_some, aApp_grw, simprocAttr, amset, tyset, Function.comp_apply, one1, lenV, calleeOf, lateOk, belowV, aop, AV.ofValue, AV.ofCell, AV.cells, AV.flat, AV.one, arep, aBin, aConv]
      repeat refine And.intro (by omega) ?_
      refine cond_split (fun h3 => ?_) (fun h3 => ?_)
      · have h3d := h3
        try simp only [boolset, beq_iff_eq, ne_eq] at h3d
        simp -implicitDefEqProofs (disch := omega) only [h1, h1d, h2, h2d, int_bne, int_beq, h3, h3d, aApp_nil, aApp_none, aApp_some, aApp_grw, simprocAttr, amset, tyset, Function.comp_apply, one1, lenV, calleeOf, lateOk, belowV, aop, AV.ofValue, AV.ofCell, AV.cells, AV.flat, AV.one, arep, aBin, aConv]
        repeat refine And.intro (by omega) ?_
        exact hQ _ _ (end_plain0 (.inl rfl) hbel (x := .int .i64 0) (ret_of Tryz.results96 (by simp -implicitDefEqProofs (disch := omega) only [simprocAttr, amset, tyset, Function.comp_apply, one1, lenV, calleeOf, lateOk, belowV, aop, AV.ofValue, AV.ofCell, AV.cells, AV.flat, AV.one, arep, aBin, aAppend, aConv])) rfl ⟨congrArg (AV.int .i64) (by unfold halfI; first | rw [if_pos (by omega)] | rw [if_neg (by omega)]), rfl⟩)
      · have h3d := h3
        try simp only [boolset, beq_iff_eq, ne_eq] at h3d
        simp -implicitDefEqProofs (disch := omega) only [h1, h1d, h2, h2d, int_bne, int_beq, h3, h3d, aApp_nil, aApp_none, aApp_some, aApp_grw, simprocAttr, amset, tyset, Function.comp_apply, one1, lenV, calleeOf, lateOk, belowV, aop, AV.ofValue, AV.ofCell, AV.cells, AV.flat, AV.one, arep, aBin, aConv]
        repeat refine And.intro (by omega) ?_
        exact hQ _ _ (end_plain0 (.inl rfl) hbel (x := .int .i64 1) (ret_of Tryz.results96 (by simp -implicitDefEqProofs (disch := omega) only [simprocAttr, amset, tyset, Function.comp_apply, one1, lenV, calleeOf, lateOk, belowV, aop, AV.ofValue, AV.ofCell, AV.cells, AV.flat, AV.one, arep, aBin, aAppend, aConv])) rfl ⟨congrArg (AV.int .i64) (by unfold halfI; first | rw [if_pos (by omega)] | rw [if_neg (by omega)]), rfl⟩)
    · have h2d := h2
      try simp only [boolset, beq_iff_eq, ne_eq] at h2d
      simp -implicitDefEqProofs (disch := omega) only [h1, h1d, h2, h2d, int_bne, int_beq, aApp_nil, aApp_none, aApp_some, aApp_grw, simprocAttr, amset, tyset, Function.comp_apply, one1, lenV, calleeOf, lateOk, belowV, aop, AV.ofValue, AV.ofCell, AV.cells, AV.flat, AV.one, arep, aBin, aConv]
      repeat refine And.intro (by omega) ?_
      exact hQ _ _ (end_plain0 (.inl rfl) hbel (x := .int .i64 1) (ret_of Tryz.results96 (by simp -implicitDefEqProofs (disch := omega) only [simprocAttr, amset, tyset, Function.comp_apply, one1, lenV, calleeOf, lateOk, belowV, aop, AV.ofValue, AV.ofCell, AV.cells, AV.flat, AV.one, arep, aBin, aAppend, aConv])) rfl ⟨congrArg (AV.int .i64) (by unfold halfI; first | rw [if_pos (by omega)] | rw [if_neg (by omega)]), rfl⟩)
  · have h1d := h1
    try simp only [boolset, beq_iff_eq, ne_eq] at h1d
    simp -implicitDefEqProofs (disch := omega) only [h1, h1d, aApp_nil, aApp_none, aApp_some, aApp_grw, simprocAttr, amset, tyset, Function.comp_apply, one1, lenV, calleeOf, lateOk, belowV, aop, AV.ofValue, AV.ofCell, AV.cells, AV.flat, AV.one, arep, aBin, aConv]
    repeat refine And.intro (by omega) ?_
    exact hQ _ _ (end_plain0 (.inl rfl) hbel (x := .int .i64 0) (ret_of Tryz.results96 (by simp -implicitDefEqProofs (disch := omega) only [simprocAttr, amset, tyset, Function.comp_apply, one1, lenV, calleeOf, lateOk, belowV, aop, AV.ofValue, AV.ofCell, AV.cells, AV.flat, AV.one, arep, aBin, aAppend, aConv])) rfl ⟨congrArg (AV.int .i64) (by unfold halfI; first | rw [if_pos (by omega)] | rw [if_neg (by omega)]), rfl⟩)
set_option maxHeartbeats 4000000 in
set_option maxRecDepth 100000 in
theorem beyond_c (H : AHeap) (v1 : Int) (v2 : Int) (v3 : Int) (dx : Int) (dy : Int) (k1 : -8065 ≤ v1 ∧ v1 ≤ 8065) (k2 : -8065 ≤ v2 ∧ v2 ≤ 8065) (k3 : -4194304 ≤ dx ∧ dx ≤ 4194304) (k4 : -4194304 ≤ dy ∧ dy ≤ 4194304) : ACalls Tryz.prog 38 [.agg [.int .i64 v1, .int .i64 v2, .int .i64 v3], .agg [.int .i64 dx, .int .i64 dy]] H (fun v H' => v = .bool (beyR v1 v2 dx dy) ∧ H' = H) := by
  have hm1 := mul_bd (a := dx) (b := v2) (A := 4194304) (B := 8065) (by omega) (by omega)
  have hm2 := mul_bd (a := dy) (b := v1) (A := 4194304) (B := 8065) (by omega) (by omega)
  (refine ACalls_run try_mixed Tryz.func38 true _ rfl (Nat.le_of_ble_eq_true (by kernel_rfl)) (by kernel_rfl) ?_; intro hbel Q hQ hQ' c hc; unfold Tryz.f38 at hc; simp only [Option.some.injEq] at hc; subst hc; clear hQ')
  simp -implicitDefEqProofs (disch := omega) only [aApp_nil, aApp_none, aApp_some, aApp_grw, simprocAttr, amset, tyset, Function.comp_apply, one1, lenV, calleeOf, lateOk, belowV, aop, AV.ofValue, AV.ofCell, AV.cells, AV.flat, AV.one, arep, aBin, aConv]
  repeat refine And.intro (by omega) ?_
  refine gd_split (fun h1 => ?_) (fun h1 => ?_)
  · have h1d := h1
    try simp only [boolset, beq_iff_eq, ne_eq] at h1d
    simp -implicitDefEqProofs (disch := omega) only [h1, h1d, aApp_nil, aApp_none, aApp_some, aApp_grw, simprocAttr, amset, tyset, Function.comp_apply, one1, lenV, calleeOf, lateOk, belowV, aop, AV.ofValue, AV.ofCell, AV.cells, AV.flat, AV.one, arep, aBin, aConv]
    repeat refine And.intro (by omega) ?_
    refine gd_split (fun h2 => ?_) (fun h2 => ?_)
    · have h2d := h2
      try simp only [boolset, beq_iff_eq, ne_eq] at h2d
      have h2n := h2
      try simp only [int_bne, int_beq] at h2n
      simp -implicitDefEqProofs (disch := omega) only [h1, h1d, h2, h2n, int_bne, int_beq, aApp_nil, aApp_none, aApp_some, aApp_grw, simprocAttr, amset, tyset, Function.comp_apply, one1, lenV, calleeOf, lateOk, belowV, aop, AV.ofValue, AV.ofCell, AV.cells, AV.flat, AV.one, arep, aBin, aConv]
      repeat refine And.intro (by omega) ?_
      refine gd_split (fun h3 => ?_) (fun h3 => ?_)
      · have h3d := h3
        try simp only [boolset, beq_iff_eq, ne_eq] at h3d
        simp -implicitDefEqProofs (disch := omega) only [h1, h1d, h2, h2n, int_bne, int_beq, h3, h3d, aApp_nil, aApp_none, aApp_some, aApp_grw, simprocAttr, amset, tyset, Function.comp_apply, one1, lenV, calleeOf, lateOk, belowV, aop, AV.ofValue, AV.ofCell, AV.cells, AV.flat, AV.one, arep, aBin, aConv]
        repeat refine And.intro (by omega) ?_
        refine gd_split (fun h4 => ?_) (fun h4 => ?_)
        · have h4d := h4
          try simp only [boolset, beq_iff_eq, ne_eq] at h4d
          have h4n := h4
          try simp only [int_bne, int_beq] at h4n
          simp -implicitDefEqProofs (disch := omega) only [h1, h1d, h2, h2n, int_bne, int_beq, h3, h3d, h4, h4n, aApp_nil, aApp_none, aApp_some, aApp_grw, simprocAttr, amset, tyset, Function.comp_apply, one1, lenV, calleeOf, lateOk, belowV, aop, AV.ofValue, AV.ofCell, AV.cells, AV.flat, AV.one, arep, aBin, aConv]
          repeat refine And.intro (by omega) ?_
          refine cond_split (fun h5 => ?_) (fun h5 => ?_)
          · have h5d := h5
            try simp only [boolset, beq_iff_eq, ne_eq] at h5d
            try simp at h5d
            have h5n := h5
            try simp only [int_bne, int_beq] at h5n
            simp -implicitDefEqProofs (disch := omega) only [h1, h1d, h2, h2n, int_bne, int_beq, h3, h3d, h4, h4n, h5, h5n, aApp_nil, aApp_none, aApp_some, aApp_grw, simprocAttr, amset, tyset, Function.comp_apply, one1, lenV, calleeOf, lateOk, belowV, aop, AV.ofValue, AV.ofCell, AV.cells, AV.flat, AV.one, arep, aBin, aConv]
            repeat refine And.intro (by omega) ?_
            exact hQ _ _ (end_plain (.inl rfl) hbel (x := .bool (decide (v1 < 0))) (ret_of Tryz.results38 (by simp -implicitDefEqProofs (disch := omega) only [simprocAttr, amset, tyset, Function.comp_apply, one1, lenV, calleeOf, lateOk, belowV, aop, AV.ofValue, AV.ofCell, AV.cells, AV.flat, AV.one, arep, aBin, aAppend, aConv])) rfl ⟨by first | (simp [beyR, lowB, h1d, h3d, h2d, h4d, h5d, h1, h2, h3, h4, h5, h2d, h4d, h5d]; done) | (simp_all [beyR, lowB]; done) | (simp_all [beyR, lowB]; omega) | (have e1 : lowB v1 v2 = decide (v2 < 0 ∨ (v2 = 0 ∧ v1 < 0)) := (by rw [Bool.eq_iff_iff]; simp [lowB]); have e2 : lowB dx dy = decide (dy < 0 ∨ (dy = 0 ∧ dx < 0)) := (by rw [Bool.eq_iff_iff]; simp [lowB]); unfold beyR; rw [e1, e2]; first | (rw [decide_eq_true (by omega), decide_eq_true (by omega)]; simp) | (rw [decide_eq_true (by omega), decide_eq_false (by omega)]; simp) | (rw [decide_eq_false (by omega), decide_eq_true (by omega)]; simp) | (rw [decide_eq_false (by omega), decide_eq_false (by omega)]; simp)), rfl⟩)
          · have h5d := h5
            try simp only [boolset, beq_iff_eq, ne_eq] at h5d
            try simp at h5d
            have h5n := h5
            try simp only [int_bne, int_beq] at h5n
            simp -implicitDefEqProofs (disch := omega) only [h1, h1d, h2, h2n, int_bne, int_beq, h3, h3d, h4, h4n, h5, h5n, aApp_nil, aApp_none, aApp_some, aApp_grw, simprocAttr, amset, tyset, Function.comp_apply, one1, lenV, calleeOf, lateOk, belowV, aop, AV.ofValue, AV.ofCell, AV.cells, AV.flat, AV.one, arep, aBin, aConv]
            repeat refine And.intro (by omega) ?_
            exact hQ _ _ (end_plain (.inl rfl) hbel (x := .bool (decide (0 < ((dx * v2) - (dy * v1))))) (ret_of Tryz.results38 (by simp -implicitDefEqProofs (disch := omega) only [simprocAttr, amset, tyset, Function.comp_apply, one1, lenV, calleeOf, lateOk, belowV, aop, AV.ofValue, AV.ofCell, AV.cells, AV.flat, AV.one, arep, aBin, aAppend, aConv])) rfl ⟨by first | (simp [beyR, lowB, h1d, h3d, h2d, h4d, h5d, h1, h2, h3, h4, h5, h2d, h4d, h5d]; done) | (simp_all [beyR, lowB]; done) | (simp_all [beyR, lowB]; omega) | (have e1 : lowB v1 v2 = decide (v2 < 0 ∨ (v2 = 0 ∧ v1 < 0)) := (by rw [Bool.eq_iff_iff]; simp [lowB]); have e2 : lowB dx dy = decide (dy < 0 ∨ (dy = 0 ∧ dx < 0)) := (by rw [Bool.eq_iff_iff]; simp [lowB]); unfold beyR; rw [e1, e2]; first | (rw [decide_eq_true (by omega), decide_eq_true (by omega)]; simp) | (rw [decide_eq_true (by omega), decide_eq_false (by omega)]; simp) | (rw [decide_eq_false (by omega), decide_eq_true (by omega)]; simp) | (rw [decide_eq_false (by omega), decide_eq_false (by omega)]; simp)), rfl⟩)
        · have h4d := h4
          try simp only [boolset, beq_iff_eq, ne_eq] at h4d
          have h4n := h4
          try simp only [int_bne, int_beq] at h4n
          simp -implicitDefEqProofs (disch := omega) only [h1, h1d, h2, h2n, int_bne, int_beq, h3, h3d, h4, h4n, aApp_nil, aApp_none, aApp_some, aApp_grw, simprocAttr, amset, tyset, Function.comp_apply, one1, lenV, calleeOf, lateOk, belowV, aop, AV.ofValue, AV.ofCell, AV.cells, AV.flat, AV.one, arep, aBin, aConv]
          repeat refine And.intro (by omega) ?_
          refine cond_split (fun h6 => ?_) (fun h6 => ?_)
          · have h6d := h6
            try simp only [boolset, beq_iff_eq, ne_eq] at h6d
            simp -implicitDefEqProofs (disch := omega) only [h1, h1d, h2, h2n, int_bne, int_beq, h3, h3d, h4, h4n, h6, h6d, aApp_nil, aApp_none, aApp_some, aApp_grw, simprocAttr, amset, tyset, Function.comp_apply, one1, lenV, calleeOf, lateOk, belowV, aop, AV.ofValue, AV.ofCell, AV.cells, AV.flat, AV.one, arep, aBin, aConv]
            repeat refine And.intro (by omega) ?_
            exact hQ _ _ (end_plain (.inl rfl) hbel (x := .bool true) (ret_of Tryz.results38 (by simp -implicitDefEqProofs (disch := omega) only [simprocAttr, amset, tyset, Function.comp_apply, one1, lenV, calleeOf, lateOk, belowV, aop, AV.ofValue, AV.ofCell, AV.cells, AV.flat, AV.one, arep, aBin, aAppend, aConv])) rfl ⟨by first | (simp [beyR, lowB, h1d, h3d, h6d, h2d, h4d, h1, h2, h3, h4, h6, h2d, h4d]; done) | (simp_all [beyR, lowB]; done) | (simp_all [beyR, lowB]; omega) | (have e1 : lowB v1 v2 = decide (v2 < 0 ∨ (v2 = 0 ∧ v1 < 0)) := (by rw [Bool.eq_iff_iff]; simp [lowB]); have e2 : lowB dx dy = decide (dy < 0 ∨ (dy = 0 ∧ dx < 0)) := (by rw [Bool.eq_iff_iff]; simp [lowB]); unfold beyR; rw [e1, e2]; first | (rw [decide_eq_true (by omega), decide_eq_true (by omega)]; simp) | (rw [decide_eq_true (by omega), decide_eq_false (by omega)]; simp) | (rw [decide_eq_false (by omega), decide_eq_true (by omega)]; simp) | (rw [decide_eq_false (by omega), decide_eq_false (by omega)]; simp)), rfl⟩)
          · have h6d := h6
            try simp only [boolset, beq_iff_eq, ne_eq] at h6d
            simp -implicitDefEqProofs (disch := omega) only [h1, h1d, h2, h2n, int_bne, int_beq, h3, h3d, h4, h4n, h6, h6d, aApp_nil, aApp_none, aApp_some, aApp_grw, simprocAttr, amset, tyset, Function.comp_apply, one1, lenV, calleeOf, lateOk, belowV, aop, AV.ofValue, AV.ofCell, AV.cells, AV.flat, AV.one, arep, aBin, aConv]
            repeat refine And.intro (by omega) ?_
            exact hQ _ _ (end_plain (.inl rfl) hbel (x := .bool (decide (0 < ((dx * v2) - (dy * v1))))) (ret_of Tryz.results38 (by simp -implicitDefEqProofs (disch := omega) only [simprocAttr, amset, tyset, Function.comp_apply, one1, lenV, calleeOf, lateOk, belowV, aop, AV.ofValue, AV.ofCell, AV.cells, AV.flat, AV.one, arep, aBin, aAppend, aConv])) rfl ⟨by first | (simp [beyR, lowB, h1d, h3d, h6d, h2d, h4d, h1, h2, h3, h4, h6, h2d, h4d]; done) | (simp_all [beyR, lowB]; done) | (simp_all [beyR, lowB]; omega) | (have e1 : lowB v1 v2 = decide (v2 < 0 ∨ (v2 = 0 ∧ v1 < 0)) := (by rw [Bool.eq_iff_iff]; simp [lowB]); have e2 : lowB dx dy = decide (dy < 0 ∨ (dy = 0 ∧ dx < 0)) := (by rw [Bool.eq_iff_iff]; simp [lowB]); unfold beyR; rw [e1, e2]; first | (rw [decide_eq_true (by omega), decide_eq_true (by omega)]; simp) | (rw [decide_eq_true (by omega), decide_eq_false (by omega)]; simp) | (rw [decide_eq_false (by omega), decide_eq_true (by omega)]; simp) | (rw [decide_eq_false (by omega), decide_eq_false (by omega)]; simp)), rfl⟩)
      · have h3d := h3
        try simp only [boolset, beq_iff_eq, ne_eq] at h3d
        simp -implicitDefEqProofs (disch := omega) only [h1, h1d, h2, h2n, int_bne, int_beq, h3, h3d, aApp_nil, aApp_none, aApp_some, aApp_grw, simprocAttr, amset, tyset, Function.comp_apply, one1, lenV, calleeOf, lateOk, belowV, aop, AV.ofValue, AV.ofCell, AV.cells, AV.flat, AV.one, arep, aBin, aConv]
        repeat refine And.intro (by omega) ?_
        refine cond_split (fun h7 => ?_) (fun h7 => ?_)
        · have h7d := h7
          try simp only [boolset, beq_iff_eq, ne_eq] at h7d
          simp -implicitDefEqProofs (disch := omega) only [h1, h1d, h2, h2n, int_bne, int_beq, h3, h3d, h7, h7d, aApp_nil, aApp_none, aApp_some, aApp_grw, simprocAttr, amset, tyset, Function.comp_apply, one1, lenV, calleeOf, lateOk, belowV, aop, AV.ofValue, AV.ofCell, AV.cells, AV.flat, AV.one, arep, aBin, aConv]
          repeat refine And.intro (by omega) ?_
          exact hQ _ _ (end_plain (.inl rfl) hbel (x := .bool false) (ret_of Tryz.results38 (by simp -implicitDefEqProofs (disch := omega) only [simprocAttr, amset, tyset, Function.comp_apply, one1, lenV, calleeOf, lateOk, belowV, aop, AV.ofValue, AV.ofCell, AV.cells, AV.flat, AV.one, arep, aBin, aAppend, aConv])) rfl ⟨by first | (simp [beyR, lowB, h1d, h3d, h7d, h2d, h1, h2, h3, h7, h2d]; done) | (simp_all [beyR, lowB]; done) | (simp_all [beyR, lowB]; omega) | (have e1 : lowB v1 v2 = decide (v2 < 0 ∨ (v2 = 0 ∧ v1 < 0)) := (by rw [Bool.eq_iff_iff]; simp [lowB]); have e2 : lowB dx dy = decide (dy < 0 ∨ (dy = 0 ∧ dx < 0)) := (by rw [Bool.eq_iff_iff]; simp [lowB]); unfold beyR; rw [e1, e2]; first | (rw [decide_eq_true (by omega), decide_eq_true (by omega)]; simp) | (rw [decide_eq_true (by omega), decide_eq_false (by omega)]; simp) | (rw [decide_eq_false (by omega), decide_eq_true (by omega)]; simp) | (rw [decide_eq_false (by omega), decide_eq_false (by omega)]; simp)), rfl⟩)
        · have h7d := h7
          try simp only [boolset, beq_iff_eq, ne_eq] at h7d
          simp -implicitDefEqProofs (disch := omega) only [h1, h1d, h2, h2n, int_bne, int_beq, h3, h3d, h7, h7d, aApp_nil, aApp_none, aApp_some, aApp_grw, simprocAttr, amset, tyset, Function.comp_apply, one1, lenV, calleeOf, lateOk, belowV, aop, AV.ofValue, AV.ofCell, AV.cells, AV.flat, AV.one, arep, aBin, aConv]
          repeat refine And.intro (by omega) ?_
          exact hQ _ _ (end_plain (.inl rfl) hbel (x := .bool (decide (0 < ((dx * v2) - (dy * v1))))) (ret_of Tryz.results38 (by simp -implicitDefEqProofs (disch := omega) only [simprocAttr, amset, tyset, Function.comp_apply, one1, lenV, calleeOf, lateOk, belowV, aop, AV.ofValue, AV.ofCell, AV.cells, AV.flat, AV.one, arep, aBin, aAppend, aConv])) rfl ⟨by first | (simp [beyR, lowB, h1d, h3d, h7d, h2d, h1, h2, h3, h7, h2d]; done) | (simp_all [beyR, lowB]; done) | (simp_all [beyR, lowB]; omega) | (have e1 : lowB v1 v2 = decide (v2 < 0 ∨ (v2 = 0 ∧ v1 < 0)) := (by rw [Bool.eq_iff_iff]; simp [lowB]); have e2 : lowB dx dy = decide (dy < 0 ∨ (dy = 0 ∧ dx < 0)) := (by rw [Bool.eq_iff_iff]; simp [lowB]); unfold beyR; rw [e1, e2]; first | (rw [decide_eq_true (by omega), decide_eq_true (by omega)]; simp) | (rw [decide_eq_true (by omega), decide_eq_false (by omega)]; simp) | (rw [decide_eq_false (by omega), decide_eq_true (by omega)]; simp) | (rw [decide_eq_false (by omega), decide_eq_false (by omega)]; simp)), rfl⟩)
    · have h2d := h2
      try simp only [boolset, beq_iff_eq, ne_eq] at h2d
      have h2n := h2
      try simp only [int_bne, int_beq] at h2n
      simp -implicitDefEqProofs (disch := omega) only [h1, h1d, h2, h2n, int_bne, int_beq, aApp_nil, aApp_none, aApp_some, aApp_grw, simprocAttr, amset, tyset, Function.comp_apply, one1, lenV, calleeOf, lateOk, belowV, aop, AV.ofValue, AV.ofCell, AV.cells, AV.flat, AV.one, arep, aBin, aConv]
      repeat refine And.intro (by omega) ?_
      refine gd_split (fun h8 => ?_) (fun h8 => ?_)
      · have h8d := h8
        try simp only [boolset, beq_iff_eq, ne_eq] at h8d
        simp -implicitDefEqProofs (disch := omega) only [h1, h1d, h2, h2n, int_bne, int_beq, h8, h8d, aApp_nil, aApp_none, aApp_some, aApp_grw, simprocAttr, amset, tyset, Function.comp_apply, one1, lenV, calleeOf, lateOk, belowV, aop, AV.ofValue, AV.ofCell, AV.cells, AV.flat, AV.one, arep, aBin, aConv]
        repeat refine And.intro (by omega) ?_
        refine gd_split (fun h9 => ?_) (fun h9 => ?_)
        · have h9d := h9
          try simp only [boolset, beq_iff_eq, ne_eq] at h9d
          have h9n := h9
          try simp only [int_bne, int_beq] at h9n
          simp -implicitDefEqProofs (disch := omega) only [h1, h1d, h2, h2n, int_bne, int_beq, h8, h8d, h9, h9n, aApp_nil, aApp_none, aApp_some, aApp_grw, simprocAttr, amset, tyset, Function.comp_apply, one1, lenV, calleeOf, lateOk, belowV, aop, AV.ofValue, AV.ofCell, AV.cells, AV.flat, AV.one, arep, aBin, aConv]
          repeat refine And.intro (by omega) ?_
          refine cond_split (fun h10 => ?_) (fun h10 => ?_)
          · have h10d := h10
            try simp only [boolset, beq_iff_eq, ne_eq] at h10d
            try simp at h10d
            have h10n := h10
            try simp only [int_bne, int_beq] at h10n
            simp -implicitDefEqProofs (disch := omega) only [h1, h1d, h2, h2n, int_bne, int_beq, h8, h8d, h9, h9n, h10, h10n, aApp_nil, aApp_none, aApp_some, aApp_grw, simprocAttr, amset, tyset, Function.comp_apply, one1, lenV, calleeOf, lateOk, belowV, aop, AV.ofValue, AV.ofCell, AV.cells, AV.flat, AV.one, arep, aBin, aConv]
            repeat refine And.intro (by omega) ?_
            exact hQ _ _ (end_plain (.inl rfl) hbel (x := .bool false) (ret_of Tryz.results38 (by simp -implicitDefEqProofs (disch := omega) only [simprocAttr, amset, tyset, Function.comp_apply, one1, lenV, calleeOf, lateOk, belowV, aop, AV.ofValue, AV.ofCell, AV.cells, AV.flat, AV.one, arep, aBin, aAppend, aConv])) rfl ⟨by first | (simp [beyR, lowB, h1d, h8d, h2d, h9d, h10d, h1, h2, h8, h9, h10, h2d, h9d, h10d]; done) | (simp_all [beyR, lowB]; done) | (simp_all [beyR, lowB]; omega) | (have e1 : lowB v1 v2 = decide (v2 < 0 ∨ (v2 = 0 ∧ v1 < 0)) := (by rw [Bool.eq_iff_iff]; simp [lowB]); have e2 : lowB dx dy = decide (dy < 0 ∨ (dy = 0 ∧ dx < 0)) := (by rw [Bool.eq_iff_iff]; simp [lowB]); unfold beyR; rw [e1, e2]; first | (rw [decide_eq_true (by omega), decide_eq_true (by omega)]; simp) | (rw [decide_eq_true (by omega), decide_eq_false (by omega)]; simp) | (rw [decide_eq_false (by omega), decide_eq_true (by omega)]; simp) | (rw [decide_eq_false (by omega), decide_eq_false (by omega)]; simp)), rfl⟩)
          · have h10d := h10
            try simp only [boolset, beq_iff_eq, ne_eq] at h10d
            try simp at h10d
            have h10n := h10
            try simp only [int_bne, int_beq] at h10n
            simp -implicitDefEqProofs (disch := omega) only [h1, h1d, h2, h2n, int_bne, int_beq, h8, h8d, h9, h9n, h10, h10n, aApp_nil, aApp_none, aApp_some, aApp_grw, simprocAttr, amset, tyset, Function.comp_apply, one1, lenV, calleeOf, lateOk, belowV, aop, AV.ofValue, AV.ofCell, AV.cells, AV.flat, AV.one, arep, aBin, aConv]
            repeat refine And.intro (by omega) ?_
            exact hQ _ _ (end_plain (.inl rfl) hbel (x := .bool (decide (0 < ((dx * v2) - (dy * v1))))) (ret_of Tryz.results38 (by simp -implicitDefEqProofs (disch := omega) only [simprocAttr, amset, tyset, Function.comp_apply, one1, lenV, calleeOf, lateOk, belowV, aop, AV.ofValue, AV.ofCell, AV.cells, AV.flat, AV.one, arep, aBin, aAppend, aConv])) rfl ⟨by first | (simp [beyR, lowB, h1d, h8d, h2d, h9d, h10d, h1, h2, h8, h9, h10, h2d, h9d, h10d]; done) | (simp_all [beyR, lowB]; done) | (simp_all [beyR, lowB]; omega) | (have e1 : lowB v1 v2 = decide (v2 < 0 ∨ (v2 = 0 ∧ v1 < 0)) := (by rw [Bool.eq_iff_iff]; simp [lowB]); have e2 : lowB dx dy = decide (dy < 0 ∨ (dy = 0 ∧ dx < 0)) := (by rw [Bool.eq_iff_iff]; simp [lowB]); unfold beyR; rw [e1, e2]; first | (rw [decide_eq_true (by omega), decide_eq_true (by omega)]; simp) | (rw [decide_eq_true (by omega), decide_eq_false (by omega)]; simp) | (rw [decide_eq_false (by omega), decide_eq_true (by omega)]; simp) | (rw [decide_eq_false (by omega), decide_eq_false (by omega)]; simp)), rfl⟩)
        · have h9d := h9
          try simp only [boolset, beq_iff_eq, ne_eq] at h9d
          have h9n := h9
          try simp only [int_bne, int_beq] at h9n
          simp -implicitDefEqProofs (disch := omega) only [h1, h1d, h2, h2n, int_bne, int_beq, h8, h8d, h9, h9n, aApp_nil, aApp_none, aApp_some, aApp_grw, simprocAttr, amset, tyset, Function.comp_apply, one1, lenV, calleeOf, lateOk, belowV, aop, AV.ofValue, AV.ofCell, AV.cells, AV.flat, AV.one, arep, aBin, aConv]
          repeat refine And.intro (by omega) ?_
          exact hQ _ _ (end_plain (.inl rfl) hbel (x := .bool (decide (0 < ((dx * v2) - (dy * v1))))) (ret_of Tryz.results38 (by simp -implicitDefEqProofs (disch := omega) only [simprocAttr, amset, tyset, Function.comp_apply, one1, lenV, calleeOf, lateOk, belowV, aop, AV.ofValue, AV.ofCell, AV.cells, AV.flat, AV.one, arep, aBin, aAppend, aConv])) rfl ⟨by first | (simp [beyR, lowB, h1d, h8d, h2d, h9d, h1, h2, h8, h9, h2d, h9d]; done) | (simp_all [beyR, lowB]; done) | (simp_all [beyR, lowB]; omega) | (have e1 : lowB v1 v2 = decide (v2 < 0 ∨ (v2 = 0 ∧ v1 < 0)) := (by rw [Bool.eq_iff_iff]; simp [lowB]); have e2 : lowB dx dy = decide (dy < 0 ∨ (dy = 0 ∧ dx < 0)) := (by rw [Bool.eq_iff_iff]; simp [lowB]); unfold beyR; rw [e1, e2]; first | (rw [decide_eq_true (by omega), decide_eq_true (by omega)]; simp) | (rw [decide_eq_true (by omega), decide_eq_false (by omega)]; simp) | (rw [decide_eq_false (by omega), decide_eq_true (by omega)]; simp) | (rw [decide_eq_false (by omega), decide_eq_false (by omega)]; simp)), rfl⟩)
      · have h8d := h8
        try simp only [boolset, beq_iff_eq, ne_eq] at h8d
        simp -implicitDefEqProofs (disch := omega) only [h1, h1d, h2, h2n, int_bne, int_beq, h8, h8d, aApp_nil, aApp_none, aApp_some, aApp_grw, simprocAttr, amset, tyset, Function.comp_apply, one1, lenV, calleeOf, lateOk, belowV, aop, AV.ofValue, AV.ofCell, AV.cells, AV.flat, AV.one, arep, aBin, aConv]
        repeat refine And.intro (by omega) ?_
        exact hQ _ _ (end_plain (.inl rfl) hbel (x := .bool false) (ret_of Tryz.results38 (by simp -implicitDefEqProofs (disch := omega) only [simprocAttr, amset, tyset, Function.comp_apply, one1, lenV, calleeOf, lateOk, belowV, aop, AV.ofValue, AV.ofCell, AV.cells, AV.flat, AV.one, arep, aBin, aAppend, aConv])) rfl ⟨by first | (simp [beyR, lowB, h1d, h8d, h2d, h1, h2, h8, h2d]; done) | (simp_all [beyR, lowB]; done) | (simp_all [beyR, lowB]; omega) | (have e1 : lowB v1 v2 = decide (v2 < 0 ∨ (v2 = 0 ∧ v1 < 0)) := (by rw [Bool.eq_iff_iff]; simp [lowB]); have e2 : lowB dx dy = decide (dy < 0 ∨ (dy = 0 ∧ dx < 0)) := (by rw [Bool.eq_iff_iff]; simp [lowB]); unfold beyR; rw [e1, e2]; first | (rw [decide_eq_true (by omega), decide_eq_true (by omega)]; simp) | (rw [decide_eq_true (by omega), decide_eq_false (by omega)]; simp) | (rw [decide_eq_false (by omega), decide_eq_true (by omega)]; simp) | (rw [decide_eq_false (by omega), decide_eq_false (by omega)]; simp)), rfl⟩)
  · have h1d := h1
    try simp only [boolset, beq_iff_eq, ne_eq] at h1d
    simp -implicitDefEqProofs (disch := omega) only [h1, h1d, aApp_nil, aApp_none, aApp_some, aApp_grw, simprocAttr, amset, tyset, Function.comp_apply, one1, lenV, calleeOf, lateOk, belowV, aop, AV.ofValue, AV.ofCell, AV.cells, AV.flat, AV.one, arep, aBin, aConv]
    repeat refine And.intro (by omega) ?_
    refine gd_split (fun h11 => ?_) (fun h11 => ?_)
    · have h11d := h11
      try simp only [boolset, beq_iff_eq, ne_eq] at h11d
      simp -implicitDefEqProofs (disch := omega) only [h1, h1d, h11, h11d, aApp_nil, aApp_none, aApp_some, aApp_grw, simprocAttr, amset, tyset, Function.comp_apply, one1, lenV, calleeOf, lateOk, belowV, aop, AV.ofValue, AV.ofCell, AV.cells, AV.flat, AV.one, arep, aBin, aConv]
      repeat refine And.intro (by omega) ?_
      refine gd_split (fun h12 => ?_) (fun h12 => ?_)
      · have h12d := h12
        try simp only [boolset, beq_iff_eq, ne_eq] at h12d
        have h12n := h12
        try simp only [int_bne, int_beq] at h12n
        simp -implicitDefEqProofs (disch := omega) only [h1, h1d, h11, h11d, h12, h12n, int_bne, int_beq, aApp_nil, aApp_none, aApp_some, aApp_grw, simprocAttr, amset, tyset, Function.comp_apply, one1, lenV, calleeOf, lateOk, belowV, aop, AV.ofValue, AV.ofCell, AV.cells, AV.flat, AV.one, arep, aBin, aConv]
        repeat refine And.intro (by omega) ?_
        refine cond_split (fun h13 => ?_) (fun h13 => ?_)
        · have h13d := h13
          try simp only [boolset, beq_iff_eq, ne_eq] at h13d
          try simp at h13d
          have h13n := h13
          try simp only [int_bne, int_beq] at h13n
          simp -implicitDefEqProofs (disch := omega) only [h1, h1d, h11, h11d, h12, h12n, int_bne, int_beq, h13, h13n, aApp_nil, aApp_none, aApp_some, aApp_grw, simprocAttr, amset, tyset, Function.comp_apply, one1, lenV, calleeOf, lateOk, belowV, aop, AV.ofValue, AV.ofCell, AV.cells, AV.flat, AV.one, arep, aBin, aConv]
          repeat refine And.intro (by omega) ?_
          exact hQ _ _ (end_plain (.inl rfl) hbel (x := .bool true) (ret_of Tryz.results38 (by simp -implicitDefEqProofs (disch := omega) only [simprocAttr, amset, tyset, Function.comp_apply, one1, lenV, calleeOf, lateOk, belowV, aop, AV.ofValue, AV.ofCell, AV.cells, AV.flat, AV.one, arep, aBin, aAppend, aConv])) rfl ⟨by first | (simp [beyR, lowB, h1d, h11d, h12d, h13d, h1, h11, h12, h13, h12d, h13d]; done) | (simp_all [beyR, lowB]; done) | (simp_all [beyR, lowB]; omega) | (have e1 : lowB v1 v2 = decide (v2 < 0 ∨ (v2 = 0 ∧ v1 < 0)) := (by rw [Bool.eq_iff_iff]; simp [lowB]); have e2 : lowB dx dy = decide (dy < 0 ∨ (dy = 0 ∧ dx < 0)) := (by rw [Bool.eq_iff_iff]; simp [lowB]); unfold beyR; rw [e1, e2]; first | (rw [decide_eq_true (by omega), decide_eq_true (by omega)]; simp) | (rw [decide_eq_true (by omega), decide_eq_false (by omega)]; simp) | (rw [decide_eq_false (by omega), decide_eq_true (by omega)]; simp) | (rw [decide_eq_false (by omega), decide_eq_false (by omega)]; simp)), rfl⟩)
        · have h13d := h13
          try simp only [boolset, beq_iff_eq, ne_eq] at h13d
          try simp at h13d
          have h13n := h13
          try simp only [int_bne, int_beq] at h13n
          simp -implicitDefEqProofs (disch := omega) only [h1, h1d, h11, h11d, h12, h12n, int_bne, int_beq, h13, h13n, aApp_nil, aApp_none, aApp_some, aApp_grw, simprocAttr, amset, tyset, Function.comp_apply, one1, lenV, calleeOf, lateOk, belowV, aop, AV.ofValue, AV.ofCell, AV.cells, AV.flat, AV.one, arep, aBin, aConv]
          repeat refine And.intro (by omega) ?_
          exact hQ _ _ (end_plain (.inl rfl) hbel (x := .bool (decide (0 < ((dx * v2) - (dy * v1))))) (ret_of Tryz.results38 (by simp -implicitDefEqProofs (disch := omega) only [simprocAttr, amset, tyset, Function.comp_apply, one1, lenV, calleeOf, lateOk, belowV, aop, AV.ofValue, AV.ofCell, AV.cells, AV.flat, AV.one, arep, aBin, aAppend, aConv])) rfl ⟨by first | (simp [beyR, lowB, h1d, h11d, h12d, h13d, h1, h11, h12, h13, h12d, h13d]; done) | (simp_all [beyR, lowB]; done) | (simp_all [beyR, lowB]; omega) | (have e1 : lowB v1 v2 = decide (v2 < 0 ∨ (v2 = 0 ∧ v1 < 0)) := (by rw [Bool.eq_iff_iff]; simp [lowB]); have e2 : lowB dx dy = decide (dy < 0 ∨ (dy = 0 ∧ dx < 0)) := (by rw [Bool.eq_iff_iff]; simp [lowB]); unfold beyR; rw [e1, e2]; first | (rw [decide_eq_true (by omega), decide_eq_true (by omega)]; simp) | (rw [decide_eq_true (by omega), decide_eq_false (by omega)]; simp) | (rw [decide_eq_false (by omega), decide_eq_true (by omega)]; simp) | (rw [decide_eq_false (by omega), decide_eq_false (by omega)]; simp)), rfl⟩)
      · have h12d := h12
        try simp only [boolset, beq_iff_eq, ne_eq] at h12d
        have h12n := h12
        try simp only [int_bne, int_beq] at h12n
        simp -implicitDefEqProofs (disch := omega) only [h1, h1d, h11, h11d, h12, h12n, int_bne, int_beq, aApp_nil, aApp_none, aApp_some, aApp_grw, simprocAttr, amset, tyset, Function.comp_apply, one1, lenV, calleeOf, lateOk, belowV, aop, AV.ofValue, AV.ofCell, AV.cells, AV.flat, AV.one, arep, aBin, aConv]
        repeat refine And.intro (by omega) ?_
        exact hQ _ _ (end_plain (.inl rfl) hbel (x := .bool true) (ret_of Tryz.results38 (by simp -implicitDefEqProofs (disch := omega) only [simprocAttr, amset, tyset, Function.comp_apply, one1, lenV, calleeOf, lateOk, belowV, aop, AV.ofValue, AV.ofCell, AV.cells, AV.flat, AV.one, arep, aBin, aAppend, aConv])) rfl ⟨by first | (simp [beyR, lowB, h1d, h11d, h12d, h1, h11, h12, h12d]; done) | (simp_all [beyR, lowB]; done) | (simp_all [beyR, lowB]; omega) | (have e1 : lowB v1 v2 = decide (v2 < 0 ∨ (v2 = 0 ∧ v1 < 0)) := (by rw [Bool.eq_iff_iff]; simp [lowB]); have e2 : lowB dx dy = decide (dy < 0 ∨ (dy = 0 ∧ dx < 0)) := (by rw [Bool.eq_iff_iff]; simp [lowB]); unfold beyR; rw [e1, e2]; first | (rw [decide_eq_true (by omega), decide_eq_true (by omega)]; simp) | (rw [decide_eq_true (by omega), decide_eq_false (by omega)]; simp) | (rw [decide_eq_false (by omega), decide_eq_true (by omega)]; simp) | (rw [decide_eq_false (by omega), decide_eq_false (by omega)]; simp)), rfl⟩)
    · have h11d := h11
      try simp only [boolset, beq_iff_eq, ne_eq] at h11d
      simp -implicitDefEqProofs (disch := omega) only [h1, h1d, h11, h11d, aApp_nil, aApp_none, aApp_some, aApp_grw, simprocAttr, amset, tyset, Function.comp_apply, one1, lenV, calleeOf, lateOk, belowV, aop, AV.ofValue, AV.ofCell, AV.cells, AV.flat, AV.one, arep, aBin, aConv]
      repeat refine And.intro (by omega) ?_
      exact hQ _ _ (end_plain (.inl rfl) hbel (x := .bool (decide (0 < ((dx * v2) - (dy * v1))))) (ret_of Tryz.results38 (by simp -implicitDefEqProofs (disch := omega) only [simprocAttr, amset, tyset, Function.comp_apply, one1, lenV, calleeOf, lateOk, belowV, aop, AV.ofValue, AV.ofCell, AV.cells, AV.flat, AV.one, arep, aBin, aAppend, aConv])) rfl ⟨by first | (simp [beyR, lowB, h1d, h11d, h1, h11]; done) | (simp_all [beyR, lowB]; done) | (simp_all [beyR, lowB]; omega) | (have e1 : lowB v1 v2 = decide (v2 < 0 ∨ (v2 = 0 ∧ v1 < 0)) := (by rw [Bool.eq_iff_iff]; simp [lowB]); have e2 : lowB dx dy = decide (dy < 0 ∨ (dy = 0 ∧ dx < 0)) := (by rw [Bool.eq_iff_iff]; simp [lowB]); unfold beyR; rw [e1, e2]; first | (rw [decide_eq_true (by omega), decide_eq_true (by omega)]; simp) | (rw [decide_eq_true (by omega), decide_eq_false (by omega)]; simp) | (rw [decide_eq_false (by omega), decide_eq_true (by omega)]; simp) | (rw [decide_eq_false (by omega), decide_eq_false (by omega)]; simp)), rfl⟩)
set_option maxHeartbeats 4000000 in
set_option maxRecDepth 100000 in
theorem toward_c (H : AHeap) (fx : Int) (fy : Int) (tx : Int) (ty : Int) : ACalls Tryz.prog 36 [.agg [.int .i64 fx, .int .i64 fy], .agg [.int .i64 tx, .int .i64 ty]] H (fun v H' => v = .tup [.int .i64 (towI fx fy tx ty), .int .i64 (towE fx fy tx ty)] ∧ H' = H) := by
  (refine ACalls_run try_mixed Tryz.func36 true _ rfl (Nat.le_of_ble_eq_true (by kernel_rfl)) (by kernel_rfl) ?_; intro hbel Q hQ hQ' c hc; unfold Tryz.f36 at hc; simp only [Option.some.injEq] at hc; subst hc; clear hQ')
  simp -implicitDefEqProofs (disch := omega) only [aApp_nil, aApp_none, aApp_some, aApp_grw, simprocAttr, amset, tyset, Function.comp_apply, one1, lenV, calleeOf, lateOk, belowV, aop, AV.ofValue, AV.ofCell, AV.cells, AV.flat, AV.one, arep, aBin, aConv]
  repeat refine And.intro (by omega) ?_
  refine call_v (by kernel_rfl) (mvpt_c _ fx fy) ?_
  simp -implicitDefEqProofs (disch := omega) only [aApp_nil, aApp_none, aApp_some, aApp_grw, simprocAttr, amset, tyset, Function.comp_apply, one1, lenV, calleeOf, lateOk, belowV, aop, AV.ofValue, AV.ofCell, AV.cells, AV.flat, AV.one, arep, aBin, aConv]
  repeat refine And.intro (by omega) ?_
  refine gd_split (fun h1 => ?_) (fun h1 => ?_)
  · have h1d := h1
    try simp only [boolset, beq_iff_eq, ne_eq] at h1d
    have hp1 := h1d
    simp only [ptB, Bool.and_eq_true, within_iff] at hp1
    simp -implicitDefEqProofs (disch := omega) only [h1, h1d, aApp_nil, aApp_none, aApp_some, aApp_grw, simprocAttr, amset, tyset, Function.comp_apply, one1, lenV, calleeOf, lateOk, belowV, aop, AV.ofValue, AV.ofCell, AV.cells, AV.flat, AV.one, arep, aBin, aConv]
    repeat refine And.intro (by omega) ?_
    refine call_v (by kernel_rfl) (mvpt_c _ tx ty) ?_
    simp -implicitDefEqProofs (disch := omega) only [h1, h1d, aApp_nil, aApp_none, aApp_some, aApp_grw, simprocAttr, amset, tyset, Function.comp_apply, one1, lenV, calleeOf, lateOk, belowV, aop, AV.ofValue, AV.ofCell, AV.cells, AV.flat, AV.one, arep, aBin, aConv]
    repeat refine And.intro (by omega) ?_
    refine cond_split (fun h2 => ?_) (fun h2 => ?_)
    · have h2d := h2
      try simp only [boolset, beq_iff_eq, ne_eq] at h2d
      simp -implicitDefEqProofs (disch := omega) only [h1, h1d, h2, h2d, aApp_nil, aApp_none, aApp_some, aApp_grw, simprocAttr, amset, tyset, Function.comp_apply, one1, lenV, calleeOf, lateOk, belowV, aop, AV.ofValue, AV.ofCell, AV.cells, AV.flat, AV.one, arep, aBin, aConv]
      repeat refine And.intro (by omega) ?_
      exact hQ _ _ (end_plain (.inl rfl) hbel (x := .tup [.int .i64 0, .int .i64 1]) (ret_of Tryz.results36 (by simp -implicitDefEqProofs (disch := omega) only [simprocAttr, amset, tyset, Function.comp_apply, one1, lenV, calleeOf, lateOk, belowV, aop, AV.ofValue, AV.ofCell, AV.cells, AV.flat, AV.one, arep, aBin, aAppend, aConv])) rfl ⟨by first | (simp [towI, towE, h1d, h2d]; done) | (simp [towI, hfinE]; done) | (rw [show towI fx fy tx ty = ((towN (tx - fx) (ty - fy) 256 : Nat) : Int) from if_pos hfinE, hfinE]), rfl⟩)
    · have h2d := h2
      try simp only [boolset, beq_iff_eq, ne_eq] at h2d
      have hp2 := h2d
      simp only [ptB, Bool.and_eq_true, within_iff] at hp2
      simp -implicitDefEqProofs (disch := omega) only [h1, h1d, h2, h2d, aApp_nil, aApp_none, aApp_some, aApp_grw, simprocAttr, amset, tyset, Function.comp_apply, one1, lenV, calleeOf, lateOk, belowV, aop, AV.ofValue, AV.ofCell, AV.cells, AV.flat, AV.one, arep, aBin, aConv]
      repeat refine And.intro (by omega) ?_
      refine cond_split (fun h3 => ?_) (fun h3 => ?_)
      · have h3d := h3
        try simp only [boolset, beq_iff_eq, ne_eq] at h3d
        have h3n := h3
        try simp only [int_bne, int_beq] at h3n
        simp -implicitDefEqProofs (disch := omega) only [h1, h1d, h2, h2d, h3, h3d, h3n, int_bne, int_beq, aApp_nil, aApp_none, aApp_some, aApp_grw, simprocAttr, amset, tyset, Function.comp_apply, one1, lenV, calleeOf, lateOk, belowV, aop, AV.ofValue, AV.ofCell, AV.cells, AV.flat, AV.one, arep, aBin, aConv]
        repeat refine And.intro (by omega) ?_
        exact hQ _ _ (end_plain (.inl rfl) hbel (x := .tup [.int .i64 0, .int .i64 9]) (ret_of Tryz.results36 (by simp -implicitDefEqProofs (disch := omega) only [simprocAttr, amset, tyset, Function.comp_apply, one1, lenV, calleeOf, lateOk, belowV, aop, AV.ofValue, AV.ofCell, AV.cells, AV.flat, AV.one, arep, aBin, aAppend, aConv])) rfl ⟨by first | (simp [towI, towE, h1d, h2d, h3d]; done) | (simp [towI, hfinE]; done) | (rw [show towI fx fy tx ty = ((towN (tx - fx) (ty - fy) 256 : Nat) : Int) from if_pos hfinE, hfinE]), rfl⟩)
      · have h3d := h3
        try simp only [boolset, beq_iff_eq, ne_eq] at h3d
        have h3n := h3
        try simp only [int_bne, int_beq] at h3n
        have hfinE : towE fx fy tx ty = 0 := by unfold towE; simp_all
        simp -implicitDefEqProofs (disch := omega) only [h1, h1d, h2, h2d, h3, h3d, h3n, int_bne, int_beq, aApp_nil, aApp_none, aApp_some, aApp_grw, simprocAttr, amset, tyset, Function.comp_apply, one1, lenV, calleeOf, lateOk, belowV, aop, AV.ofValue, AV.ofCell, AV.cells, AV.flat, AV.one, arep, aBin, aConv]
        repeat refine And.intro (by omega) ?_
        refine go_loop try_mixed (by kernel_rfl) (fun k F Hx => ∃ n : Nat, n + k = 256 ∧ F = [(6, .int .i64 (tx - fx)), (7, .int .i64 (ty - fy)), (8, .int .i64 ((towN (tx - fx) (ty - fy) n : Nat) : Int)), (36, .int .i64 ((n : Nat) : Int))] ∧ H = Hx) (256) ?_ ?_
        · refine ⟨_, _, _, ⟨0, by omega, rfl, rfl⟩, Abs.byN hbel ?_⟩
          simp -implicitDefEqProofs (disch := omega) only [towN.eq_1, Int.natCast_zero, W_nil0, W_nil1, W_cap', Wc_nil0, Wc_nil1, Wc_cap', absF, absH, W_refl', W_any', W_agg, W_tup, Ws_cons, Ws_refl', Wc_refl', Wcs_cons, Wcs_nil, look, List.cons_append, List.nil_append, List.append_nil, List.length_cons, List.length_nil, Nat.zero_add, Nat.reduceAdd, AV.mv, AV.mvs, ABlk.mv, sig_new0, sig_newk, sig_lt, List.getElem?_cons_zero, List.getElem?_cons_succ, mvs_ints, mvs_bools, mvs_prs, mvs_append, cond_true, cond_false, beq_self_eq_true, Nat.reduceBEq, true_and, and_true, or_true, true_or, and_self, decide_true, Nat.add_zero, reduceCtorEq, false_or, or_false]
          repeat' (first | exact True.intro | exact Nat.add_lt_add_left (by decide) _ | exact Nat.lt_add_of_pos_right (by decide) | refine W_nils ?_ (Or.inr rfl) | refine W_nils ?_ (Or.inl rfl) | refine Wc_nils ?_ (Or.inr rfl) | refine Wc_nils ?_ (Or.inl rfl) | exact W_cap | rfl | refine And.intro ?_ ?_ | exact Or.inl rfl | exact Or.inr rfl | exact Or.inr (Or.inl rfl) | exact Or.inr (Or.inr BW.emp) | exact Or.inr BW.emp | exact BW.emp | exact Or.inr (Or.inr BW.pre) | exact Or.inr BW.pre | exact BW.pre | refine Or.inr (BW.cells ?_) | refine BW.cells ?_ | refine Or.inr (Or.inr (BW.cells ?_)) | exact Wc_cap)
        · rintro k0 F Hx ⟨n, hm0, rfl, rfl⟩ J0 hJ0
          simp -implicitDefEqProofs (disch := omega) only [h1, h1d, h2, h2d, h3, h3d, h3n, int_bne, int_beq, aApp_nil, aApp_none, aApp_some, aApp_grw, simprocAttr, amset, tyset, Function.comp_apply, one1, lenV, calleeOf, lateOk, belowV, aop, AV.ofValue, AV.ofCell, AV.cells, AV.flat, AV.one, arep, aBin, aConv]
          repeat refine And.intro (by omega) ?_
          refine cond_split (fun h4 => ?_) (fun h4 => ?_)
          · have h4d := h4
            try simp only [boolset, beq_iff_eq, ne_eq] at h4d
            have hdv := vecOK_iff.1 (dirV_ok ((n : Nat) : Int))
            have hdn := dirV_nat (n := n) (by omega)
            have hm1 := mul_bd (a := (dirV ((n : Nat) : Int)).1) (b := (ty - fy)) (A := 8065) (B := 2097152) (by omega) (by omega)
            have hm2 := mul_bd (a := (dirV ((n : Nat) : Int)).2.1) (b := (tx - fx)) (A := 8065) (B := 2097152) (by omega) (by omega)
            simp -implicitDefEqProofs (disch := omega) only [h1, h1d, h2, h2d, h3, h3d, h3n, int_bne, int_beq, h4, h4d, aApp_nil, aApp_none, aApp_some, aApp_grw, simprocAttr, amset, tyset, Function.comp_apply, one1, lenV, calleeOf, lateOk, belowV, aop, AV.ofValue, AV.ofCell, AV.cells, AV.flat, AV.one, arep, aBin, aConv]
            repeat refine And.intro (by omega) ?_
            refine call_v (by kernel_rfl) (dir_c _ ((n : Nat) : Int)) ?_
            simp -implicitDefEqProofs (disch := omega) only [h1, h1d, h2, h2d, h3, h3d, h3n, int_bne, int_beq, h4, h4d, aApp_nil, aApp_none, aApp_some, aApp_grw, simprocAttr, amset, tyset, Function.comp_apply, one1, lenV, calleeOf, lateOk, belowV, aop, AV.ofValue, AV.ofCell, AV.cells, AV.flat, AV.one, arep, aBin, aConv]
            repeat refine And.intro (by omega) ?_
            refine call_v (by kernel_rfl) (mhalf_c _ ((dirV ((n : Nat) : Int)).1) ((dirV ((n : Nat) : Int)).2.1)) ?_
            simp -implicitDefEqProofs (disch := omega) only [h1, h1d, h2, h2d, h3, h3d, h3n, int_bne, int_beq, h4, h4d, aApp_nil, aApp_none, aApp_some, aApp_grw, simprocAttr, amset, tyset, Function.comp_apply, one1, lenV, calleeOf, lateOk, belowV, aop, AV.ofValue, AV.ofCell, AV.cells, AV.flat, AV.one, arep, aBin, aConv]
            repeat refine And.intro (by omega) ?_
            refine call_v (by kernel_rfl) (mhalf_c _ (tx - fx) (ty - fy)) ?_
            simp -implicitDefEqProofs (disch := omega) only [h1, h1d, h2, h2d, h3, h3d, h3n, int_bne, int_beq, h4, h4d, aApp_nil, aApp_none, aApp_some, aApp_grw, simprocAttr, amset, tyset, Function.comp_apply, one1, lenV, calleeOf, lateOk, belowV, aop, AV.ofValue, AV.ofCell, AV.cells, AV.flat, AV.one, arep, aBin, aConv]
            repeat refine And.intro (by omega) ?_
            refine gd_split (fun h5 => ?_) (fun h5 => ?_)
            · have h5d := h5
              try simp only [boolset, beq_iff_eq, ne_eq] at h5d
              have hnl := h5d
              simp -implicitDefEqProofs (disch := omega) only [h1, h1d, h2, h2d, h3, h3d, h3n, int_bne, int_beq, h4, h4d, h5, h5d, aApp_nil, aApp_none, aApp_some, aApp_grw, simprocAttr, amset, tyset, Function.comp_apply, one1, lenV, calleeOf, lateOk, belowV, aop, AV.ofValue, AV.ofCell, AV.cells, AV.flat, AV.one, arep, aBin, aConv]
              repeat refine And.intro (by omega) ?_
              refine gd_split (fun h6 => ?_) (fun h6 => ?_)
              · have h6d := h6
                try simp only [boolset, beq_iff_eq, ne_eq] at h6d
                have heq := h6d
                simp -implicitDefEqProofs (disch := omega) only [h1, h1d, h2, h2d, h3, h3d, h3n, int_bne, int_beq, h4, h4d, h5, h5d, h6, h6d, aApp_nil, aApp_none, aApp_some, aApp_grw, simprocAttr, amset, tyset, Function.comp_apply, one1, lenV, calleeOf, lateOk, belowV, aop, AV.ofValue, AV.ofCell, AV.cells, AV.flat, AV.one, arep, aBin, aConv]
                repeat refine And.intro (by omega) ?_
                refine cond_split (fun h7 => ?_) (fun h7 => ?_)
                · have h7d := h7
                  try simp only [boolset, beq_iff_eq, ne_eq] at h7d
                  have hbey : beyB (dirN n) (tx - fx) (ty - fy) = false := by rw [← hdn, bey_eq heq]; exact decide_eq_false (by omega)
                  simp -implicitDefEqProofs (disch := omega) only [h1, h1d, h2, h2d, h3, h3d, h3n, int_bne, int_beq, h4, h4d, h5, h5d, h6, h6d, h7, h7d, aApp_nil, aApp_none, aApp_some, aApp_grw, simprocAttr, amset, tyset, Function.comp_apply, one1, lenV, calleeOf, lateOk, belowV, aop, AV.ofValue, AV.ofCell, AV.cells, AV.flat, AV.one, arep, aBin, aConv]
                  repeat refine And.intro (by omega) ?_
                  refine hJ0 _ _ ⟨k0 - 1, by omega, _, _, _, ⟨n + 1, by omega, rfl, rfl⟩, Abs.byN hbel ?_⟩
                  simp -implicitDefEqProofs (disch := omega) only [towN.eq_2, hbey, if_true, if_false, Bool.false_eq_true, h3d, h6d, W_nil0, W_nil1, W_cap', Wc_nil0, Wc_nil1, Wc_cap', absF, absH, W_refl', W_any', W_agg, W_tup, Ws_cons, Ws_refl', Wc_refl', Wcs_cons, Wcs_nil, look, List.cons_append, List.nil_append, List.append_nil, List.length_cons, List.length_nil, Nat.zero_add, Nat.reduceAdd, AV.mv, AV.mvs, ABlk.mv, sig_new0, sig_newk, sig_lt, List.getElem?_cons_zero, List.getElem?_cons_succ, mvs_ints, mvs_bools, mvs_prs, mvs_append, cond_true, cond_false, beq_self_eq_true, Nat.reduceBEq, true_and, and_true, or_true, true_or, and_self, decide_true, Nat.add_zero, reduceCtorEq, false_or, or_false]
                  repeat' (first | exact True.intro | exact Nat.add_lt_add_left (by decide) _ | exact Nat.lt_add_of_pos_right (by decide) | refine W_nils ?_ (Or.inr rfl) | refine W_nils ?_ (Or.inl rfl) | refine Wc_nils ?_ (Or.inr rfl) | refine Wc_nils ?_ (Or.inl rfl) | exact W_cap | rfl | refine And.intro ?_ ?_ | exact Or.inl rfl | exact Or.inr rfl | exact Or.inr (Or.inl rfl) | exact Or.inr (Or.inr BW.emp) | exact Or.inr BW.emp | exact BW.emp | exact Or.inr (Or.inr BW.pre) | exact Or.inr BW.pre | exact BW.pre | refine Or.inr (BW.cells ?_) | refine BW.cells ?_ | refine Or.inr (Or.inr (BW.cells ?_)) | exact Wc_cap)
                · have h7d := h7
                  try simp only [boolset, beq_iff_eq, ne_eq] at h7d
                  have hbey : beyB (dirN n) (tx - fx) (ty - fy) = true := by rw [← hdn, bey_eq heq]; exact decide_eq_true (by omega)
                  simp -implicitDefEqProofs (disch := omega) only [h1, h1d, h2, h2d, h3, h3d, h3n, int_bne, int_beq, h4, h4d, h5, h5d, h6, h6d, h7, h7d, aApp_nil, aApp_none, aApp_some, aApp_grw, simprocAttr, amset, tyset, Function.comp_apply, one1, lenV, calleeOf, lateOk, belowV, aop, AV.ofValue, AV.ofCell, AV.cells, AV.flat, AV.one, arep, aBin, aConv]
                  repeat refine And.intro (by omega) ?_
                  refine hJ0 _ _ ⟨k0 - 1, by omega, _, _, _, ⟨n + 1, by omega, rfl, rfl⟩, Abs.byN hbel ?_⟩
                  simp -implicitDefEqProofs (disch := omega) only [towN.eq_2, hbey, if_true, if_false, Bool.false_eq_true, h3d, h6d, W_nil0, W_nil1, W_cap', Wc_nil0, Wc_nil1, Wc_cap', absF, absH, W_refl', W_any', W_agg, W_tup, Ws_cons, Ws_refl', Wc_refl', Wcs_cons, Wcs_nil, look, List.cons_append, List.nil_append, List.append_nil, List.length_cons, List.length_nil, Nat.zero_add, Nat.reduceAdd, AV.mv, AV.mvs, ABlk.mv, sig_new0, sig_newk, sig_lt, List.getElem?_cons_zero, List.getElem?_cons_succ, mvs_ints, mvs_bools, mvs_prs, mvs_append, cond_true, cond_false, beq_self_eq_true, Nat.reduceBEq, true_and, and_true, or_true, true_or, and_self, decide_true, Nat.add_zero, reduceCtorEq, false_or, or_false]
                  repeat' (first | exact True.intro | exact Nat.add_lt_add_left (by decide) _ | exact Nat.lt_add_of_pos_right (by decide) | refine W_nils ?_ (Or.inr rfl) | refine W_nils ?_ (Or.inl rfl) | refine Wc_nils ?_ (Or.inr rfl) | refine Wc_nils ?_ (Or.inl rfl) | exact W_cap | rfl | refine And.intro ?_ ?_ | exact Or.inl rfl | exact Or.inr rfl | exact Or.inr (Or.inl rfl) | exact Or.inr (Or.inr BW.emp) | exact Or.inr BW.emp | exact BW.emp | exact Or.inr (Or.inr BW.pre) | exact Or.inr BW.pre | exact BW.pre | refine Or.inr (BW.cells ?_) | refine BW.cells ?_ | refine Or.inr (Or.inr (BW.cells ?_)) | exact Wc_cap)
              · have h6d := h6
                try simp only [boolset, beq_iff_eq, ne_eq] at h6d
                have hbey : beyB (dirN n) (tx - fx) (ty - fy) = true := by rw [← hdn]; exact bey_gt (by omega) h6d
                simp -implicitDefEqProofs (disch := omega) only [h1, h1d, h2, h2d, h3, h3d, h3n, int_bne, int_beq, h4, h4d, h5, h5d, h6, h6d, aApp_nil, aApp_none, aApp_some, aApp_grw, simprocAttr, amset, tyset, Function.comp_apply, one1, lenV, calleeOf, lateOk, belowV, aop, AV.ofValue, AV.ofCell, AV.cells, AV.flat, AV.one, arep, aBin, aConv]
                repeat refine And.intro (by omega) ?_
                refine hJ0 _ _ ⟨k0 - 1, by omega, _, _, _, ⟨n + 1, by omega, rfl, rfl⟩, Abs.byN hbel ?_⟩
                simp -implicitDefEqProofs (disch := omega) only [towN.eq_2, hbey, if_true, if_false, Bool.false_eq_true, h3d, h6d, W_nil0, W_nil1, W_cap', Wc_nil0, Wc_nil1, Wc_cap', absF, absH, W_refl', W_any', W_agg, W_tup, Ws_cons, Ws_refl', Wc_refl', Wcs_cons, Wcs_nil, look, List.cons_append, List.nil_append, List.append_nil, List.length_cons, List.length_nil, Nat.zero_add, Nat.reduceAdd, AV.mv, AV.mvs, ABlk.mv, sig_new0, sig_newk, sig_lt, List.getElem?_cons_zero, List.getElem?_cons_succ, mvs_ints, mvs_bools, mvs_prs, mvs_append, cond_true, cond_false, beq_self_eq_true, Nat.reduceBEq, true_and, and_true, or_true, true_or, and_self, decide_true, Nat.add_zero, reduceCtorEq, false_or, or_false]
                repeat' (first | exact True.intro | exact Nat.add_lt_add_left (by decide) _ | exact Nat.lt_add_of_pos_right (by decide) | refine W_nils ?_ (Or.inr rfl) | refine W_nils ?_ (Or.inl rfl) | refine Wc_nils ?_ (Or.inr rfl) | refine Wc_nils ?_ (Or.inl rfl) | exact W_cap | rfl | refine And.intro ?_ ?_ | exact Or.inl rfl | exact Or.inr rfl | exact Or.inr (Or.inl rfl) | exact Or.inr (Or.inr BW.emp) | exact Or.inr BW.emp | exact BW.emp | exact Or.inr (Or.inr BW.pre) | exact Or.inr BW.pre | exact BW.pre | refine Or.inr (BW.cells ?_) | refine BW.cells ?_ | refine Or.inr (Or.inr (BW.cells ?_)) | exact Wc_cap)
            · have h5d := h5
              try simp only [boolset, beq_iff_eq, ne_eq] at h5d
              have hbey : beyB (dirN n) (tx - fx) (ty - fy) = false := by rw [← hdn]; exact bey_lt h5d
              simp -implicitDefEqProofs (disch := omega) only [h1, h1d, h2, h2d, h3, h3d, h3n, int_bne, int_beq, h4, h4d, h5, h5d, aApp_nil, aApp_none, aApp_some, aApp_grw, simprocAttr, amset, tyset, Function.comp_apply, one1, lenV, calleeOf, lateOk, belowV, aop, AV.ofValue, AV.ofCell, AV.cells, AV.flat, AV.one, arep, aBin, aConv]
              repeat refine And.intro (by omega) ?_
              refine hJ0 _ _ ⟨k0 - 1, by omega, _, _, _, ⟨n + 1, by omega, rfl, rfl⟩, Abs.byN hbel ?_⟩
              simp -implicitDefEqProofs (disch := omega) only [towN.eq_2, hbey, if_true, if_false, Bool.false_eq_true, h3d, W_nil0, W_nil1, W_cap', Wc_nil0, Wc_nil1, Wc_cap', absF, absH, W_refl', W_any', W_agg, W_tup, Ws_cons, Ws_refl', Wc_refl', Wcs_cons, Wcs_nil, look, List.cons_append, List.nil_append, List.append_nil, List.length_cons, List.length_nil, Nat.zero_add, Nat.reduceAdd, AV.mv, AV.mvs, ABlk.mv, sig_new0, sig_newk, sig_lt, List.getElem?_cons_zero, List.getElem?_cons_succ, mvs_ints, mvs_bools, mvs_prs, mvs_append, cond_true, cond_false, beq_self_eq_true, Nat.reduceBEq, true_and, and_true, or_true, true_or, and_self, decide_true, Nat.add_zero, reduceCtorEq, false_or, or_false]
              repeat' (first | exact True.intro | exact Nat.add_lt_add_left (by decide) _ | exact Nat.lt_add_of_pos_right (by decide) | refine W_nils ?_ (Or.inr rfl) | refine W_nils ?_ (Or.inl rfl) | refine Wc_nils ?_ (Or.inr rfl) | refine Wc_nils ?_ (Or.inl rfl) | exact W_cap | rfl | refine And.intro ?_ ?_ | exact Or.inl rfl | exact Or.inr rfl | exact Or.inr (Or.inl rfl) | exact Or.inr (Or.inr BW.emp) | exact Or.inr BW.emp | exact BW.emp | exact Or.inr (Or.inr BW.pre) | exact Or.inr BW.pre | exact BW.pre | refine Or.inr (BW.cells ?_) | refine BW.cells ?_ | refine Or.inr (Or.inr (BW.cells ?_)) | exact Wc_cap)
          · have h4d := h4
            try simp only [boolset, beq_iff_eq, ne_eq] at h4d
            obtain rfl : n = 256 := by omega
            simp -implicitDefEqProofs (disch := omega) only [h1, h1d, h2, h2d, h3, h3d, h3n, int_bne, int_beq, h4, h4d, aApp_nil, aApp_none, aApp_some, aApp_grw, simprocAttr, amset, tyset, Function.comp_apply, one1, lenV, calleeOf, lateOk, belowV, aop, AV.ofValue, AV.ofCell, AV.cells, AV.flat, AV.one, arep, aBin, aConv]
            repeat refine And.intro (by omega) ?_
            exact hQ _ _ (end_plain0 (.inl rfl) hbel (x := .tup [.int .i64 ((towN (tx - fx) (ty - fy) 256 : Nat) : Int), .int .i64 0]) (ret_of Tryz.results36 (by simp -implicitDefEqProofs (disch := omega) only [simprocAttr, amset, tyset, Function.comp_apply, one1, lenV, calleeOf, lateOk, belowV, aop, AV.ofValue, AV.ofCell, AV.cells, AV.flat, AV.one, arep, aBin, aAppend, aConv])) rfl ⟨by first | (simp [towI, towE, h1d, h2d, h3d, h4d, hfinE]; done) | (simp [towI, hfinE]; done) | (rw [show towI fx fy tx ty = ((towN (tx - fx) (ty - fy) 256 : Nat) : Int) from if_pos hfinE, hfinE]), rfl⟩)
  · have h1d := h1
    try simp only [boolset, beq_iff_eq, ne_eq] at h1d
    simp -implicitDefEqProofs (disch := omega) only [h1, h1d, aApp_nil, aApp_none, aApp_some, aApp_grw, simprocAttr, amset, tyset, Function.comp_apply, one1, lenV, calleeOf, lateOk, belowV, aop, AV.ofValue, AV.ofCell, AV.cells, AV.flat, AV.one, arep, aBin, aConv]
    repeat refine And.intro (by omega) ?_
    exact hQ _ _ (end_plain (.inl rfl) hbel (x := .tup [.int .i64 0, .int .i64 1]) (ret_of Tryz.results36 (by simp -implicitDefEqProofs (disch := omega) only [simprocAttr, amset, tyset, Function.comp_apply, one1, lenV, calleeOf, lateOk, belowV, aop, AV.ofValue, AV.ofCell, AV.cells, AV.flat, AV.one, arep, aBin, aAppend, aConv])) rfl ⟨by first | (simp [towI, towE, h1d]; done) | (simp [towI, hfinE]; done) | (rw [show towI fx fy tx ty = ((towN (tx - fx) (ty - fy) 256 : Nat) : Int) from if_pos hfinE, hfinE]), rfl⟩)
end Go.Proofs.YtoimakfecmhjkaaGreat

/- Walks by the abstract machine: facts on marks towards a point. Conditions: as each theorem states. -/
namespace Go.Proofs.YtoimakfecmhjkaaGreat
set_option linter.unusedSimpArgs false
set_option linter.unusedVariables false
open Go.RowKit
theorem tow_spec {x y : Int} (hd : ¬ (x = 0 ∧ y = 0)) : ∀ n : Nat, 1 ≤ n → towN x y n < n ∧ beyB (dirN (towN x y n)) x y = false ∧ ∀ j : Nat, towN x y n < j → j < n → beyB (dirN j) x y = true
  | 0, h => by omega
  | n + 1, _ => by
    rw [towN]
    cases hb : beyB (dirN n) x y with
    | false => simp only [Bool.false_eq_true, if_false]; exact ⟨Nat.lt_succ_self n, hb, fun j h1 h2 => by omega⟩
    | true =>
      simp only [if_true]
      rcases Nat.eq_zero_or_pos n with rfl | h0
      · rw [bey_0 hd] at hb; cases hb
      · obtain ⟨h1, h2, h3⟩ := tow_spec hd n h0
        exact ⟨by omega, h2, fun j k1 k2 => by
          rcases Nat.lt_or_ge j n with h | h
          · exact h3 j k1 h
          · rw [show j = n by omega]; exact hb⟩
theorem towE0 {fx fy tx ty : Int} (h : towE fx fy tx ty = 0) : ((-1048576 ≤ fx ∧ fx ≤ 1048576) ∧ -1048576 ≤ fy ∧ fy ≤ 1048576) ∧ ((-1048576 ≤ tx ∧ tx ≤ 1048576) ∧ -1048576 ≤ ty ∧ ty ≤ 1048576) ∧ ¬ (tx - fx = 0 ∧ ty - fy = 0) ∧ towI fx fy tx ty = ((towN (tx - fx) (ty - fy) 256 : Nat) : Int) := by
  have hI : towI fx fy tx ty = ((towN (tx - fx) (ty - fy) 256 : Nat) : Int) := if_pos h
  unfold towE at h
  split at h
  · rename_i h1
    simp only [ptB, Bool.and_eq_true, within_iff] at h1
    split at h
    · omega
    · rename_i h2; exact ⟨by omega, by omega, by omega, hI⟩
  · omega
theorem tow_bey {fx fy tx ty : Int} (h : towE fx fy tx ty = 0) : (0 ≤ towI fx fy tx ty ∧ towI fx fy tx ty ≤ 255) ∧ beyR (dirV (towI fx fy tx ty)).1 (dirV (towI fx fy tx ty)).2.1 (tx - fx) (ty - fy) = false ∧ (¬ towI fx fy tx ty = 255 → beyR (dirV (towI fx fy tx ty + 1)).1 (dirV (towI fx fy tx ty + 1)).2.1 (tx - fx) (ty - fy) = true) := by
  obtain ⟨-, -, hd, hI⟩ := towE0 h
  obtain ⟨s1, s2, s3⟩ := tow_spec hd 256 (by decide)
  rw [hI, beyR_eq (dirV_ok _) hd, dirV_nat s1]
  refine ⟨by omega, s2, fun hn => ?_⟩
  rw [beyR_eq (dirV_ok _) hd]
  have e : ((towN (tx - fx) (ty - fy) 256 : Nat) : Int) + 1 = ((towN (tx - fx) (ty - fy) 256 + 1 : Nat) : Int) := by omega
  rw [e, dirV_nat (by omega)]
  exact s3 _ (by omega) (by omega)
end Go.Proofs.YtoimakfecmhjkaaGreat

/- Walks by the abstract machine: Toward of the reference. Conditions: as each theorem states. -/
namespace Go.Proofs.YtoimakfecmhjkaaGreat
set_option linter.unusedSimpArgs false
set_option linter.unusedVariables false
open Go.RowKit
set_option maxHeartbeats 4000000 in
set_option maxRecDepth 100000 in
theorem rtoward_c (H : AHeap) (fx : Int) (fy : Int) (tx : Int) (ty : Int) : ACalls Tryz.prog 37 [.agg [.int .i64 fx, .int .i64 fy], .agg [.int .i64 tx, .int .i64 ty]] H (fun v H' => v = .tup [.int .i64 (towI fx fy tx ty), .int .i64 (towE fx fy tx ty)] ∧ H' = H) := by
  (refine ACalls_run try_mixed Tryz.func37 true _ rfl (Nat.le_of_ble_eq_true (by kernel_rfl)) (by kernel_rfl) ?_; intro hbel Q hQ hQ' c hc; unfold Tryz.f37 at hc; simp only [Option.some.injEq] at hc; subst hc; clear hQ')
  simp -implicitDefEqProofs (disch := omega) only [aApp_nil, aApp_none, aApp_some, aApp_grw, simprocAttr, amset, tyset, Function.comp_apply, one1, lenV, calleeOf, lateOk, belowV, aop, AV.ofValue, AV.ofCell, AV.cells, AV.flat, AV.one, arep, aBin, aConv]
  repeat refine And.intro (by omega) ?_
  refine call_v (by kernel_rfl) (bpt_c _ fx fy) ?_
  simp -implicitDefEqProofs (disch := omega) only [aApp_nil, aApp_none, aApp_some, aApp_grw, simprocAttr, amset, tyset, Function.comp_apply, one1, lenV, calleeOf, lateOk, belowV, aop, AV.ofValue, AV.ofCell, AV.cells, AV.flat, AV.one, arep, aBin, aConv]
  repeat refine And.intro (by omega) ?_
  refine gd_split (fun h1 => ?_) (fun h1 => ?_)
  · have h1d := h1
    try simp only [boolset, beq_iff_eq, ne_eq] at h1d
    have hp1 := h1d
    simp only [ptB, Bool.and_eq_true, within_iff] at hp1
    simp -implicitDefEqProofs (disch := omega) only [h1, h1d, aApp_nil, aApp_none, aApp_some, aApp_grw, simprocAttr, amset, tyset, Function.comp_apply, one1, lenV, calleeOf, lateOk, belowV, aop, AV.ofValue, AV.ofCell, AV.cells, AV.flat, AV.one, arep, aBin, aConv]
    repeat refine And.intro (by omega) ?_
    refine call_v (by kernel_rfl) (bpt_c _ tx ty) ?_
    simp -implicitDefEqProofs (disch := omega) only [h1, h1d, aApp_nil, aApp_none, aApp_some, aApp_grw, simprocAttr, amset, tyset, Function.comp_apply, one1, lenV, calleeOf, lateOk, belowV, aop, AV.ofValue, AV.ofCell, AV.cells, AV.flat, AV.one, arep, aBin, aConv]
    repeat refine And.intro (by omega) ?_
    refine cond_split (fun h2 => ?_) (fun h2 => ?_)
    · have h2d := h2
      try simp only [boolset, beq_iff_eq, ne_eq] at h2d
      simp -implicitDefEqProofs (disch := omega) only [h1, h1d, h2, h2d, aApp_nil, aApp_none, aApp_some, aApp_grw, simprocAttr, amset, tyset, Function.comp_apply, one1, lenV, calleeOf, lateOk, belowV, aop, AV.ofValue, AV.ofCell, AV.cells, AV.flat, AV.one, arep, aBin, aConv]
      repeat refine And.intro (by omega) ?_
      exact hQ _ _ (end_plain (.inl rfl) hbel (x := .tup [.int .i64 0, .int .i64 1]) (ret_of Tryz.results37 (by simp -implicitDefEqProofs (disch := omega) only [simprocAttr, amset, tyset, Function.comp_apply, one1, lenV, calleeOf, lateOk, belowV, aop, AV.ofValue, AV.ofCell, AV.cells, AV.flat, AV.one, arep, aBin, aAppend, aConv])) rfl ⟨by first | (simp [towI, towE, h1d, h2d]; done) | (rw [show towI fx fy tx ty = ((towN (tx - fx) (ty - fy) 256 : Nat) : Int) from if_pos hfinE, hfinE, hfinT]), rfl⟩)
    · have h2d := h2
      try simp only [boolset, beq_iff_eq, ne_eq] at h2d
      have hp2 := h2d
      simp only [ptB, Bool.and_eq_true, within_iff] at hp2
      simp -implicitDefEqProofs (disch := omega) only [h1, h1d, h2, h2d, aApp_nil, aApp_none, aApp_some, aApp_grw, simprocAttr, amset, tyset, Function.comp_apply, one1, lenV, calleeOf, lateOk, belowV, aop, AV.ofValue, AV.ofCell, AV.cells, AV.flat, AV.one, arep, aBin, aConv]
      repeat refine And.intro (by omega) ?_
      refine cond_split (fun h3 => ?_) (fun h3 => ?_)
      · have h3d := h3
        try simp only [boolset, beq_iff_eq, ne_eq] at h3d
        have h3n := h3
        try simp only [int_bne, int_beq] at h3n
        simp -implicitDefEqProofs (disch := omega) only [h1, h1d, h2, h2d, h3, h3d, h3n, int_bne, int_beq, aApp_nil, aApp_none, aApp_some, aApp_grw, simprocAttr, amset, tyset, Function.comp_apply, one1, lenV, calleeOf, lateOk, belowV, aop, AV.ofValue, AV.ofCell, AV.cells, AV.flat, AV.one, arep, aBin, aConv]
        repeat refine And.intro (by omega) ?_
        exact hQ _ _ (end_plain (.inl rfl) hbel (x := .tup [.int .i64 0, .int .i64 9]) (ret_of Tryz.results37 (by simp -implicitDefEqProofs (disch := omega) only [simprocAttr, amset, tyset, Function.comp_apply, one1, lenV, calleeOf, lateOk, belowV, aop, AV.ofValue, AV.ofCell, AV.cells, AV.flat, AV.one, arep, aBin, aAppend, aConv])) rfl ⟨by first | (simp [towI, towE, h1d, h2d, h3d]; done) | (rw [show towI fx fy tx ty = ((towN (tx - fx) (ty - fy) 256 : Nat) : Int) from if_pos hfinE, hfinE, hfinT]), rfl⟩)
      · have h3d := h3
        try simp only [boolset, beq_iff_eq, ne_eq] at h3d
        have h3n := h3
        try simp only [int_bne, int_beq] at h3n
        have hfinE : towE fx fy tx ty = 0 := by unfold towE; simp_all
        have hd : ¬ ((tx - fx) = 0 ∧ (ty - fy) = 0) := fun hh => by
          have e1 : fx = tx := by omega
          have e2 : fy = ty := by omega
          simp_all
        simp -implicitDefEqProofs (disch := omega) only [h1, h1d, h2, h2d, h3, h3d, h3n, int_bne, int_beq, aApp_nil, aApp_none, aApp_some, aApp_grw, simprocAttr, amset, tyset, Function.comp_apply, one1, lenV, calleeOf, lateOk, belowV, aop, AV.ofValue, AV.ofCell, AV.cells, AV.flat, AV.one, arep, aBin, aConv]
        repeat refine And.intro (by omega) ?_
        refine go_loop try_mixed (by kernel_rfl) (fun k F Hx => ∃ n : Nat, n + k = 255 ∧ (∀ j : Nat, j ≤ n → beyB (dirN j) (tx - fx) (ty - fy) = false) ∧ F = [(2, .ptr (some (H.length, 0))), (3, .ptr (some (H.length + 1, 0))), (6, .int .i64 ((n : Nat) : Int))] ∧ Hx = H ++ [.cells true 0 [.int .i64 fx, .int .i64 fy], .cells true 0 [.int .i64 tx, .int .i64 ty]]) (255) ?_ ?_
        · refine ⟨_, _, _, ⟨0, by omega, fun j hj => by rw [show j = 0 by omega]; exact bey_0 hd, rfl, rfl⟩, Abs.byG hbel [] rfl [0, 1] (by decide) ?_⟩
          simp -implicitDefEqProofs (disch := omega) only [W_nil0, W_nil1, W_cap', Wc_nil0, Wc_nil1, Wc_cap', absF, absH, W_refl', W_any', W_agg, W_tup, Ws_cons, Ws_refl', Wc_refl', Wcs_cons, Wcs_nil, look, List.cons_append, List.nil_append, List.append_nil, List.length_cons, List.length_nil, Nat.zero_add, Nat.reduceAdd, AV.mv, AV.mvs, ABlk.mv, sig_new0, sig_newk, sig_lt, List.getElem?_cons_zero, List.getElem?_cons_succ, mvs_ints, mvs_bools, mvs_prs, mvs_append, cond_true, cond_false, beq_self_eq_true, Nat.reduceBEq, true_and, and_true, or_true, true_or, and_self, decide_true, Nat.add_zero, reduceCtorEq, false_or, or_false]
          repeat' (first | exact True.intro | exact Nat.add_lt_add_left (by decide) _ | exact Nat.lt_add_of_pos_right (by decide) | refine W_nils ?_ (Or.inr rfl) | refine W_nils ?_ (Or.inl rfl) | refine Wc_nils ?_ (Or.inr rfl) | refine Wc_nils ?_ (Or.inl rfl) | exact W_cap | rfl | refine And.intro ?_ ?_ | exact Or.inl rfl | exact Or.inr rfl | exact Or.inr (Or.inl rfl) | exact Or.inr (Or.inr BW.emp) | exact Or.inr BW.emp | exact BW.emp | exact Or.inr (Or.inr BW.pre) | exact Or.inr BW.pre | exact BW.pre | refine Or.inr (BW.cells ?_) | refine BW.cells ?_ | refine Or.inr (Or.inr (BW.cells ?_)) | exact Wc_cap)
        · rintro k0 F Hx ⟨n, hm0, hbn, rfl, rfl⟩ J0 hJ0
          simp -implicitDefEqProofs (disch := omega) only [h1, h1d, h2, h2d, h3, h3d, h3n, int_bne, int_beq, aApp_nil, aApp_none, aApp_some, aApp_grw, simprocAttr, amset, tyset, Function.comp_apply, one1, lenV, calleeOf, lateOk, belowV, aop, AV.ofValue, AV.ofCell, AV.cells, AV.flat, AV.one, arep, aBin, aConv]
          repeat refine And.intro (by omega) ?_
          refine gd_split (fun h4 => ?_) (fun h4 => ?_)
          · have h4d := h4
            try simp only [boolset, beq_iff_eq, ne_eq] at h4d
            have hdv := vecOK_iff.1 (dirV_ok ((n + 1 : Nat) : Int))
            have hdn := dirV_nat (n := n + 1) (by omega)
            simp -implicitDefEqProofs (disch := omega) only [h1, h1d, h2, h2d, h3, h3d, h3n, int_bne, int_beq, h4, h4d, aApp_nil, aApp_none, aApp_some, aApp_grw, simprocAttr, amset, tyset, Function.comp_apply, one1, lenV, calleeOf, lateOk, belowV, aop, AV.ofValue, AV.ofCell, AV.cells, AV.flat, AV.one, arep, aBin, aConv]
            repeat refine And.intro (by omega) ?_
            refine call_d (by kernel_rfl) (rdir_c _ ((n + 1 : Nat) : Int)) ?_
            simp -implicitDefEqProofs (disch := omega) only [h1, h1d, h2, h2d, h3, h3d, h3n, int_bne, int_beq, h4, h4d, aApp_nil, aApp_none, aApp_some, aApp_grw, simprocAttr, amset, tyset, Function.comp_apply, one1, lenV, calleeOf, lateOk, belowV, aop, AV.ofValue, AV.ofCell, AV.cells, AV.flat, AV.one, arep, aBin, aConv]
            repeat refine And.intro (by omega) ?_
            refine call_d (by kernel_rfl) (beyond_c _ ((dirV ((n + 1 : Nat) : Int)).1) ((dirV ((n + 1 : Nat) : Int)).2.1) ((dirV ((n + 1 : Nat) : Int)).2.2) (tx - fx) (ty - fy) (by omega) (by omega) (by omega) (by omega)) ?_
            simp -implicitDefEqProofs (disch := omega) only [h1, h1d, h2, h2d, h3, h3d, h3n, int_bne, int_beq, h4, h4d, aApp_nil, aApp_none, aApp_some, aApp_grw, simprocAttr, amset, tyset, Function.comp_apply, one1, lenV, calleeOf, lateOk, belowV, aop, AV.ofValue, AV.ofCell, AV.cells, AV.flat, AV.one, arep, aBin, aConv]
            repeat refine And.intro (by omega) ?_
            refine cond_split (fun h5 => ?_) (fun h5 => ?_)
            · have h5d := h5
              try simp only [boolset, beq_iff_eq, ne_eq] at h5d
              have hbF : beyB (dirN (n + 1)) (tx - fx) (ty - fy) = false := by rw [← hdn, ← beyR_eq (dirV_ok _) hd]; exact h5d
              simp -implicitDefEqProofs (disch := omega) only [h1, h1d, h2, h2d, h3, h3d, h3n, int_bne, int_beq, h4, h4d, h5, h5d, aApp_nil, aApp_none, aApp_some, aApp_grw, simprocAttr, amset, tyset, Function.comp_apply, one1, lenV, calleeOf, lateOk, belowV, aop, AV.ofValue, AV.ofCell, AV.cells, AV.flat, AV.one, arep, aBin, aConv]
              repeat refine And.intro (by omega) ?_
              refine hJ0 _ _ ⟨k0 - 1, by omega, _, _, _, ⟨n + 1, by omega, fun j hj => by
                            rcases Nat.lt_or_ge n j with hjn | hjn
                            · rw [show j = n + 1 by omega]; exact hbF
                            · exact hbn j hjn, rfl, rfl⟩, Abs.byG hbel [] rfl [0, 1] (by decide) ?_⟩
              simp -implicitDefEqProofs (disch := omega) only [h3d, W_nil0, W_nil1, W_cap', Wc_nil0, Wc_nil1, Wc_cap', absF, absH, W_refl', W_any', W_agg, W_tup, Ws_cons, Ws_refl', Wc_refl', Wcs_cons, Wcs_nil, look, List.cons_append, List.nil_append, List.append_nil, List.length_cons, List.length_nil, Nat.zero_add, Nat.reduceAdd, AV.mv, AV.mvs, ABlk.mv, sig_new0, sig_newk, sig_lt, List.getElem?_cons_zero, List.getElem?_cons_succ, mvs_ints, mvs_bools, mvs_prs, mvs_append, cond_true, cond_false, beq_self_eq_true, Nat.reduceBEq, true_and, and_true, or_true, true_or, and_self, decide_true, Nat.add_zero, reduceCtorEq, false_or, or_false]
              repeat' (first | exact True.intro | exact Nat.add_lt_add_left (by decide) _ | exact Nat.lt_add_of_pos_right (by decide) | refine W_nils ?_ (Or.inr rfl) | refine W_nils ?_ (Or.inl rfl) | refine Wc_nils ?_ (Or.inr rfl) | refine Wc_nils ?_ (Or.inl rfl) | exact W_cap | rfl | refine And.intro ?_ ?_ | exact Or.inl rfl | exact Or.inr rfl | exact Or.inr (Or.inl rfl) | exact Or.inr (Or.inr BW.emp) | exact Or.inr BW.emp | exact BW.emp | exact Or.inr (Or.inr BW.pre) | exact Or.inr BW.pre | exact BW.pre | refine Or.inr (BW.cells ?_) | refine BW.cells ?_ | refine Or.inr (Or.inr (BW.cells ?_)) | exact Wc_cap)
            · have h5d := h5
              try simp only [boolset, beq_iff_eq, ne_eq] at h5d
              have hbT : beyB (dirN (n + 1)) (tx - fx) (ty - fy) = true := by rw [← hdn, ← beyR_eq (dirV_ok _) hd]; exact h5d
              have hfinT : towN (tx - fx) (ty - fy) 256 = n := towN_all hd hbn hbT 256 (by omega) (Nat.le_refl _)
              simp -implicitDefEqProofs (disch := omega) only [h1, h1d, h2, h2d, h3, h3d, h3n, int_bne, int_beq, h4, h4d, h5, h5d, aApp_nil, aApp_none, aApp_some, aApp_grw, simprocAttr, amset, tyset, Function.comp_apply, one1, lenV, calleeOf, lateOk, belowV, aop, AV.ofValue, AV.ofCell, AV.cells, AV.flat, AV.one, arep, aBin, aConv]
              repeat refine And.intro (by omega) ?_
              exact hQ _ _ (end_plain (.inl rfl) hbel (x := .tup [.int .i64 ((n : Nat) : Int), .int .i64 0]) (ret_of Tryz.results37 (by simp -implicitDefEqProofs (disch := omega) only [simprocAttr, amset, tyset, Function.comp_apply, one1, lenV, calleeOf, lateOk, belowV, aop, AV.ofValue, AV.ofCell, AV.cells, AV.flat, AV.one, arep, aBin, aAppend, aConv])) rfl ⟨by first | (simp [towI, towE, h1d, h2d, h3d, h4d, h5d, hfinE, hfinT]; done) | (rw [show towI fx fy tx ty = ((towN (tx - fx) (ty - fy) 256 : Nat) : Int) from if_pos hfinE, hfinE, hfinT]), rfl⟩)
          · have h4d := h4
            try simp only [boolset, beq_iff_eq, ne_eq] at h4d
            have hn255 : n = 255 := by omega
            have hfinT : towN (tx - fx) (ty - fy) 256 = n := by rw [hn255]; exact towN_last (hbn 255 (by omega))
            simp -implicitDefEqProofs (disch := omega) only [h1, h1d, h2, h2d, h3, h3d, h3n, int_bne, int_beq, h4, h4d, aApp_nil, aApp_none, aApp_some, aApp_grw, simprocAttr, amset, tyset, Function.comp_apply, one1, lenV, calleeOf, lateOk, belowV, aop, AV.ofValue, AV.ofCell, AV.cells, AV.flat, AV.one, arep, aBin, aConv]
            repeat refine And.intro (by omega) ?_
            exact hQ _ _ (end_plain (.inl rfl) hbel (x := .tup [.int .i64 ((n : Nat) : Int), .int .i64 0]) (ret_of Tryz.results37 (by simp -implicitDefEqProofs (disch := omega) only [simprocAttr, amset, tyset, Function.comp_apply, one1, lenV, calleeOf, lateOk, belowV, aop, AV.ofValue, AV.ofCell, AV.cells, AV.flat, AV.one, arep, aBin, aAppend, aConv])) rfl ⟨by first | (simp [towI, towE, h1d, h2d, h3d, h4d, hfinE, hfinT]; done) | (rw [show towI fx fy tx ty = ((towN (tx - fx) (ty - fy) 256 : Nat) : Int) from if_pos hfinE, hfinE, hfinT]), rfl⟩)
  · have h1d := h1
    try simp only [boolset, beq_iff_eq, ne_eq] at h1d
    simp -implicitDefEqProofs (disch := omega) only [h1, h1d, aApp_nil, aApp_none, aApp_some, aApp_grw, simprocAttr, amset, tyset, Function.comp_apply, one1, lenV, calleeOf, lateOk, belowV, aop, AV.ofValue, AV.ofCell, AV.cells, AV.flat, AV.one, arep, aBin, aConv]
    repeat refine And.intro (by omega) ?_
    exact hQ _ _ (end_plain (.inl rfl) hbel (x := .tup [.int .i64 0, .int .i64 1]) (ret_of Tryz.results37 (by simp -implicitDefEqProofs (disch := omega) only [simprocAttr, amset, tyset, Function.comp_apply, one1, lenV, calleeOf, lateOk, belowV, aop, AV.ofValue, AV.ofCell, AV.cells, AV.flat, AV.one, arep, aBin, aAppend, aConv])) rfl ⟨by first | (simp [towI, towE, h1d]; done) | (rw [show towI fx fy tx ty = ((towN (tx - fx) (ty - fy) 256 : Nat) : Int) from if_pos hfinE, hfinE, hfinT]), rfl⟩)
end Go.Proofs.YtoimakfecmhjkaaGreat

/- Walks by the abstract machine: squares as zonogons. Conditions: as each theorem states. -/
namespace Go.Proofs.YtoimakfecmhjkaaGreat
set_option linter.unusedSimpArgs false
set_option linter.unusedVariables false
open Go.RowKit
theorem ofrect_0 (H : AHeap) (x0 y0 x1 y1 : Int) (h : rectE x0 y0 x1 y1 = 0) : ACalls Tryz.prog 50 [.agg [.int .i64 x0, .int .i64 y0, .int .i64 x1, .int .i64 y1]] H (fun v H' => v = .tup [.agg [.int .i64 (x0 + x1), .int .i64 (y0 + y1), .sl (some (H.length, 0)) (canonL (recL x0 y0 x1 y1)).length (capG (canonL (recL x0 y0 x1 y1)).length)], .int .i64 0] ∧ H' = H ++ [.cells (ownG (canonL (recL x0 y0 x1 y1)).length) 2 (prs (canonL (recL x0 y0 x1 y1)))]) := by
  have k := ofrect_c H x0 y0 x1 y1
  rw [h] at k
  exact k
theorem ofway_0 (H : AHeap) (a b : Int) (h : segE 0 0 a b = 0) : ACalls Tryz.prog 54 [.agg [.int .i64 0, .int .i64 0], .agg [.int .i64 a, .int .i64 b]] H (fun v H' => v = .tup [.agg [.int .i64 a, .int .i64 b, .sl (some (H.length, 0)) (canonL [(a, b)]).length (capG (canonL [(a, b)]).length)], .int .i64 0] ∧ H' = H ++ [.cells (ownG (canonL [(a, b)]).length) 2 (prs (canonL [(a, b)]))]) := by
  have k := ofseg_c H 0 0 a b
  rw [h, Int.zero_add, Int.zero_add, Int.sub_zero, Int.sub_zero] at k
  exact k
theorem Sum_0 (H : AHeap) (x1 y1 : Int) (s : AV) (l : List Pt) (x2 y2 : Int) (t : AV) (m : List Pt) (hs : SlP H s l) (ht : SlP H t m) (h : sumE x1 y1 l x2 y2 m = 0) : ACalls Tryz.prog 51 [.agg [.int .i64 x1, .int .i64 y1, s], .agg [.int .i64 x2, .int .i64 y2, t]] H (fun v H' => v = .tup [.agg [.int .i64 (x1 + x2), .int .i64 (y1 + y2), .sl (some (H.length, 0)) (canonL (l ++ m)).length (capG (canonL (l ++ m)).length)], .int .i64 0] ∧ H' = H ++ [.cells (ownG (canonL (l ++ m)).length) 2 (prs (canonL (l ++ m)))]) := by
  have k := Sum_c H x1 y1 s l x2 y2 t m hs ht
  rw [h] at k
  exact k
set_option maxHeartbeats 4000000 in
set_option maxRecDepth 100000 in
theorem square_c (H : AHeap) (a : Int) (ha : 0 ≤ a ∧ a ≤ 1000) : ACalls Tryz.prog 52 [.int .i64 a] H (fun v H' => v = .agg [.int .i64 0, .int .i64 0, .sl (some (H.length, 0)) ((canonL (sqrL a)).length) (capG (canonL (sqrL a)).length)] ∧ H' = H ++ [.cells (ownG (canonL (sqrL a)).length) 2 (prs (canonL (sqrL a)))]) := by
  have hre : rectE (0 - a) (0 - a) a a = 0 := if_pos ⟨by unfold far4; simp only [Bool.and_eq_true, within_iff]; omega, by omega, by omega, by omega, by omega⟩
  (refine ACalls_run try_mixed Tryz.func52 true _ rfl (Nat.le_of_ble_eq_true (by kernel_rfl)) (by kernel_rfl) ?_; intro hbel Q hQ hQ' c hc; unfold Tryz.f52 at hc; simp only [Option.some.injEq] at hc; subst hc; clear hQ')
  simp -implicitDefEqProofs (disch := omega) only [aApp_nil, aApp_none, aApp_some, aApp_grw, simprocAttr, amset, tyset, Function.comp_apply, one1, lenV, calleeOf, lateOk, belowV, aop, AV.ofValue, AV.ofCell, AV.cells, AV.flat, AV.one, arep, aBin, aConv]
  repeat refine And.intro (by omega) ?_
  refine call_v (by kernel_rfl) (ofrect_0 _ (0 - a) (0 - a) a a (by assumption)) ?_
  simp -implicitDefEqProofs (disch := omega) only [aApp_nil, aApp_none, aApp_some, aApp_grw, simprocAttr, amset, tyset, Function.comp_apply, one1, lenV, calleeOf, lateOk, belowV, aop, AV.ofValue, AV.ofCell, AV.cells, AV.flat, AV.one, arep, aBin, aConv]
  repeat refine And.intro (by omega) ?_
  refine hQ _ _ (end_byG (.inl rfl) hbel (x1 := .agg [.int .i64 ((0 - a) + a), .int .i64 ((0 - a) + a), .sl (some (H.length + 1, 0)) ((canonL (recL (0 - a) (0 - a) a a)).length) (capG (canonL (recL (0 - a) (0 - a) a a)).length)]) (l2 := [.cells (ownG (canonL (recL (0 - a) (0 - a) a a)).length) 2 (prs (canonL (recL (0 - a) (0 - a) a a)))]) (.agg [.int .i64 ((0 - a) + a), .int .i64 ((0 - a) + a), .sl (some (H.length, 0)) ((canonL (recL (0 - a) (0 - a) a a)).length) (capG (canonL (recL (0 - a) (0 - a) a a)).length)]) (ret_of Tryz.results52 (by simp -implicitDefEqProofs (disch := omega) only [simprocAttr, amset, tyset, Function.comp_apply, one1, lenV, calleeOf, lateOk, belowV, aop, AV.ofValue, AV.ofCell, AV.cells, AV.flat, AV.one, arep, aBin, aAppend, aConv])) [] rfl [1] (by decide) ⟨by rw [show (0 : Int) - a + a = 0 by omega]; rfl, rfl⟩ ?_)
  simp -implicitDefEqProofs (disch := omega) only [W_nil0, W_nil1, W_cap', Wc_nil0, Wc_nil1, Wc_cap', absF, absH, W_refl', W_any', W_agg, W_tup, Ws_cons, Ws_refl', Wc_refl', Wcs_cons, Wcs_nil, look, List.cons_append, List.nil_append, List.append_nil, List.length_cons, List.length_nil, Nat.zero_add, Nat.reduceAdd, AV.mv, AV.mvs, ABlk.mv, sig_new0, sig_newk, sig_lt, List.getElem?_cons_zero, List.getElem?_cons_succ, mvs_ints, mvs_bools, mvs_prs, mvs_append, cond_true, cond_false, beq_self_eq_true, Nat.reduceBEq, true_and, and_true, or_true, true_or, and_self, decide_true, Nat.add_zero, reduceCtorEq, false_or, or_false]
  repeat' (first | exact True.intro | exact Nat.add_lt_add_left (by decide) _ | exact Nat.lt_add_of_pos_right (by decide) | refine W_nils ?_ (Or.inr rfl) | refine W_nils ?_ (Or.inl rfl) | refine Wc_nils ?_ (Or.inr rfl) | refine Wc_nils ?_ (Or.inl rfl) | exact W_cap | rfl | refine And.intro ?_ ?_ | exact Or.inl rfl | exact Or.inr rfl | exact Or.inr (Or.inl rfl) | exact Or.inr (Or.inr BW.emp) | exact Or.inr BW.emp | exact BW.emp | exact Or.inr (Or.inr BW.pre) | exact Or.inr BW.pre | exact BW.pre | refine Or.inr (BW.cells ?_) | refine BW.cells ?_ | refine Or.inr (Or.inr (BW.cells ?_)) | exact Wc_cap)
end Go.Proofs.YtoimakfecmhjkaaGreat

/- Walks by the abstract machine: Sweep. Conditions: as each theorem states. -/
namespace Go.Proofs.YtoimakfecmhjkaaGreat
set_option linter.unusedSimpArgs false
set_option linter.unusedVariables false
open Go.RowKit
set_option maxHeartbeats 4000000 in
set_option maxRecDepth 100000 in
theorem sweep_c (H : AHeap) (x0 : Int) (y0 : Int) (x1 : Int) (y1 : Int) (h : Int) (t : Int) (f : Int) (tu : Int) (le : Int) (sl : Int) (ra : Int) : ACalls Tryz.prog 13 [.agg [.int .i64 x0, .int .i64 y0, .int .i64 x1, .int .i64 y1], .int .i64 h, .agg [.int .i64 t, .int .i64 f], .agg [.int .i64 tu, .int .i64 le, .int .i64 sl, .int .i64 ra]] H (fun v H' => v = .tup [.agg [.int .i64 (mkX (sweE x0 y0 x1 y1 h t f tu le sl ra) (sweX x0 x1 h f le)), .int .i64 (mkX (sweE x0 y0 x1 y1 h t f tu le sl ra) (sweY y0 y1 h f le)), .sl (some (H.length, 0)) ((mkL (sweE x0 y0 x1 y1 h t f tu le sl ra) (sweL x0 y0 x1 y1 h f le sl)).length) (capG (mkL (sweE x0 y0 x1 y1 h t f tu le sl ra) (sweL x0 y0 x1 y1 h f le sl)).length)], .int .i64 (sweE x0 y0 x1 y1 h t f tu le sl ra)] ∧ H' = H ++ [.cells (ownG (mkL (sweE x0 y0 x1 y1 h t f tu le sl ra) (sweL x0 y0 x1 y1 h f le sl)).length) 2 (prs (mkL (sweE x0 y0 x1 y1 h t f tu le sl ra) (sweL x0 y0 x1 y1 h f le sl)))]) := by
  have hwx : (f + le) * (dirV h).1 / (dirV h).2.2 = wayX h (f + le) := rfl
  have hwy : (f + le) * (dirV h).2.1 / (dirV h).2.2 = wayY h (f + le) := rfl
  (refine ACalls_pieces Tryz.func13 _ rfl (Nat.le_of_ble_eq_true (by kernel_rfl)) rfl ?_; intro hbel Q hQ hQ' c hc; unfold Tryz.f13 at hc; simp only [Option.some.injEq] at hc; subst hc; clear hQ')
  refine AW_step false try_mixed (by kernel_rfl) (fun F Hx => look F 1 = .int .i64 h ∧ look F 4 = .ptr (some (H.length, 0)) ∧ look F 6 = .ptr (some (H.length + 1, 0)) ∧ look F 7 = .ptr (some (H.length + 2, 0)) ∧ look F 8 = .ptr (some (H.length + 3, 0)) ∧ look F 9 = .int .i64 0 ∧ Hx = H ++ [.cells true 0 [.int .i64 x0, .int .i64 y0, .int .i64 x1, .int .i64 y1], .cells true 0 [.int .i64 t, .int .i64 f], .cells true 0 [.int .i64 tu, .int .i64 le, .int .i64 sl, .int .i64 ra], .cells true 0 [.int .i64 0, .int .i64 0, .sl none 0 (some 0)]]) ?_ ?_
  · skip
    simp -implicitDefEqProofs (disch := omega) only [hwx, hwy, aApp_nil, aApp_none, aApp_some, aApp_grw, simprocAttr, amset, tyset, Function.comp_apply, one1, lenV, calleeOf, lateOk, belowV, aop, AV.ofValue, AV.ofCell, AV.cells, AV.flat, AV.one, arep, aBin, aConv]
    repeat refine And.intro (by omega) ?_
    refine inv_of ?_
    simp -implicitDefEqProofs (disch := omega) only [absF, absH, W_refl', W_any', W_agg, W_tup, Ws_cons, Ws_refl', Wc_refl', Wcs_cons, Wcs_nil, look, List.cons_append, List.nil_append, List.append_nil, List.length_cons, List.length_nil, Nat.zero_add, Nat.reduceAdd, AV.mv, AV.mvs, ABlk.mv, sig_new0, sig_newk, sig_lt, List.getElem?_cons_zero, List.getElem?_cons_succ, mvs_ints, mvs_bools, mvs_prs, mvs_append, cond_true, cond_false, beq_self_eq_true, Nat.reduceBEq, true_and, and_true, or_true, true_or, and_self, decide_true, Nat.add_zero, reduceCtorEq, false_or, or_false]
    repeat' (first | exact True.intro | exact Nat.add_lt_add_left (by decide) _ | exact Nat.lt_add_of_pos_right (by decide) | refine W_nils ?_ (Or.inr rfl) | refine W_nils ?_ (Or.inl rfl) | refine Wc_nils ?_ (Or.inr rfl) | refine Wc_nils ?_ (Or.inl rfl) | exact W_cap | rfl | refine And.intro ?_ ?_ | exact Or.inl rfl | exact Or.inr rfl | exact Or.inr (Or.inl rfl) | exact Or.inr (Or.inr BW.emp) | exact Or.inr BW.emp | exact BW.emp | exact Or.inr (Or.inr BW.pre) | exact Or.inr BW.pre | exact BW.pre | refine Or.inr (BW.cells ?_) | refine BW.cells ?_ | refine Or.inr (Or.inr (BW.cells ?_)) | exact Wc_cap)
    all_goals first | assumption | trivial
  rintro F Hx ⟨f1, f2, f3, f4, f5, f6, rfl⟩
  refine AW_step false try_mixed (by kernel_rfl) (fun F Hx => within x0 1048576 = true ∧ within y0 1048576 = true ∧ within x1 1048576 = true ∧ within y1 1048576 = true ∧ (btw (x1 - x0) 0 32768) = true ∧ (btw (y1 - y0) 0 32768) = true ∧ cmdB t f = true ∧ bndB tu le sl ra = true ∧ look F 1 = .int .i64 h ∧ look F 4 = .ptr (some (H.length, 0)) ∧ look F 6 = .ptr (some (H.length + 1, 0)) ∧ look F 7 = .ptr (some (H.length + 2, 0)) ∧ look F 8 = .ptr (some (H.length + 3, 0)) ∧ look F 9 = .int .i64 0 ∧ Hx = H ++ [.cells true 0 [.int .i64 x0, .int .i64 y0, .int .i64 x1, .int .i64 y1], .cells true 0 [.int .i64 t, .int .i64 f], .cells true 0 [.int .i64 tu, .int .i64 le, .int .i64 sl, .int .i64 ra], .cells true 0 [.int .i64 0, .int .i64 0, .sl none 0 (some 0)]]) ?_ ?_
  · skip
    simp -implicitDefEqProofs (disch := omega) only [f1, f2, f3, f4, f5, f6, hwx, hwy, aApp_nil, aApp_none, aApp_some, aApp_grw, simprocAttr, amset, tyset, Function.comp_apply, one1, lenV, calleeOf, lateOk, belowV, aop, AV.ofValue, AV.ofCell, AV.cells, AV.flat, AV.one, arep, aBin, aConv]
    repeat refine And.intro (by omega) ?_
    refine call_v (by kernel_rfl) (mnear_c _ x0) ?_
    simp -implicitDefEqProofs (disch := omega) only [f1, f2, f3, f4, f5, f6, hwx, hwy, aApp_nil, aApp_none, aApp_some, aApp_grw, simprocAttr, amset, tyset, Function.comp_apply, one1, lenV, calleeOf, lateOk, belowV, aop, AV.ofValue, AV.ofCell, AV.cells, AV.flat, AV.one, arep, aBin, aConv]
    repeat refine And.intro (by omega) ?_
    refine gd_split (fun h7 => ?_) (fun h7 => ?_)
    · have h7d := h7
      try simp only [boolset, beq_iff_eq, ne_eq] at h7d
      have hwx0 := within_iff.1 h7d
      simp -implicitDefEqProofs (disch := omega) only [f1, f2, f3, f4, f5, f6, h7, h7d, hwx, hwy, aApp_nil, aApp_none, aApp_some, aApp_grw, simprocAttr, amset, tyset, Function.comp_apply, one1, lenV, calleeOf, lateOk, belowV, aop, AV.ofValue, AV.ofCell, AV.cells, AV.flat, AV.one, arep, aBin, aConv]
      repeat refine And.intro (by omega) ?_
      refine call_v (by kernel_rfl) (mnear_c _ y0) ?_
      simp -implicitDefEqProofs (disch := omega) only [f1, f2, f3, f4, f5, f6, h7, h7d, hwx, hwy, aApp_nil, aApp_none, aApp_some, aApp_grw, simprocAttr, amset, tyset, Function.comp_apply, one1, lenV, calleeOf, lateOk, belowV, aop, AV.ofValue, AV.ofCell, AV.cells, AV.flat, AV.one, arep, aBin, aConv]
      repeat refine And.intro (by omega) ?_
      refine gd_split (fun h8 => ?_) (fun h8 => ?_)
      · have h8d := h8
        try simp only [boolset, beq_iff_eq, ne_eq] at h8d
        have hwy0 := within_iff.1 h8d
        simp -implicitDefEqProofs (disch := omega) only [f1, f2, f3, f4, f5, f6, h7, h7d, h8, h8d, hwx, hwy, aApp_nil, aApp_none, aApp_some, aApp_grw, simprocAttr, amset, tyset, Function.comp_apply, one1, lenV, calleeOf, lateOk, belowV, aop, AV.ofValue, AV.ofCell, AV.cells, AV.flat, AV.one, arep, aBin, aConv]
        repeat refine And.intro (by omega) ?_
        refine call_v (by kernel_rfl) (mnear_c _ x1) ?_
        simp -implicitDefEqProofs (disch := omega) only [f1, f2, f3, f4, f5, f6, h7, h7d, h8, h8d, hwx, hwy, aApp_nil, aApp_none, aApp_some, aApp_grw, simprocAttr, amset, tyset, Function.comp_apply, one1, lenV, calleeOf, lateOk, belowV, aop, AV.ofValue, AV.ofCell, AV.cells, AV.flat, AV.one, arep, aBin, aConv]
        repeat refine And.intro (by omega) ?_
        refine gd_split (fun h9 => ?_) (fun h9 => ?_)
        · have h9d := h9
          try simp only [boolset, beq_iff_eq, ne_eq] at h9d
          have hwx1 := within_iff.1 h9d
          simp -implicitDefEqProofs (disch := omega) only [f1, f2, f3, f4, f5, f6, h7, h7d, h8, h8d, h9, h9d, hwx, hwy, aApp_nil, aApp_none, aApp_some, aApp_grw, simprocAttr, amset, tyset, Function.comp_apply, one1, lenV, calleeOf, lateOk, belowV, aop, AV.ofValue, AV.ofCell, AV.cells, AV.flat, AV.one, arep, aBin, aConv]
          repeat refine And.intro (by omega) ?_
          refine call_v (by kernel_rfl) (mnear_c _ y1) ?_
          simp -implicitDefEqProofs (disch := omega) only [f1, f2, f3, f4, f5, f6, h7, h7d, h8, h8d, h9, h9d, hwx, hwy, aApp_nil, aApp_none, aApp_some, aApp_grw, simprocAttr, amset, tyset, Function.comp_apply, one1, lenV, calleeOf, lateOk, belowV, aop, AV.ofValue, AV.ofCell, AV.cells, AV.flat, AV.one, arep, aBin, aConv]
          repeat refine And.intro (by omega) ?_
          refine gd_split (fun h10 => ?_) (fun h10 => ?_)
          · have h10d := h10
            try simp only [boolset, beq_iff_eq, ne_eq] at h10d
            have hwy1 := within_iff.1 h10d
            simp -implicitDefEqProofs (disch := omega) only [f1, f2, f3, f4, f5, f6, h7, h7d, h8, h8d, h9, h9d, h10, h10d, hwx, hwy, aApp_nil, aApp_none, aApp_some, aApp_grw, simprocAttr, amset, tyset, Function.comp_apply, one1, lenV, calleeOf, lateOk, belowV, aop, AV.ofValue, AV.ofCell, AV.cells, AV.flat, AV.one, arep, aBin, aConv]
            repeat refine And.intro (by omega) ?_
            refine call_v (by kernel_rfl) (mwithin_c _ (x1 - x0) 0 32768) ?_
            simp -implicitDefEqProofs (disch := omega) only [f1, f2, f3, f4, f5, f6, h7, h7d, h8, h8d, h9, h9d, h10, h10d, hwx, hwy, aApp_nil, aApp_none, aApp_some, aApp_grw, simprocAttr, amset, tyset, Function.comp_apply, one1, lenV, calleeOf, lateOk, belowV, aop, AV.ofValue, AV.ofCell, AV.cells, AV.flat, AV.one, arep, aBin, aConv]
            repeat refine And.intro (by omega) ?_
            refine gd_split (fun h11 => ?_) (fun h11 => ?_)
            · have h11d := h11
              try simp only [boolset, beq_iff_eq, ne_eq] at h11d
              simp -implicitDefEqProofs (disch := omega) only [f1, f2, f3, f4, f5, f6, h7, h7d, h8, h8d, h9, h9d, h10, h10d, h11, h11d, hwx, hwy, aApp_nil, aApp_none, aApp_some, aApp_grw, simprocAttr, amset, tyset, Function.comp_apply, one1, lenV, calleeOf, lateOk, belowV, aop, AV.ofValue, AV.ofCell, AV.cells, AV.flat, AV.one, arep, aBin, aConv]
              repeat refine And.intro (by omega) ?_
              refine call_v (by kernel_rfl) (mwithin_c _ (y1 - y0) 0 32768) ?_
              simp -implicitDefEqProofs (disch := omega) only [f1, f2, f3, f4, f5, f6, h7, h7d, h8, h8d, h9, h9d, h10, h10d, h11, h11d, hwx, hwy, aApp_nil, aApp_none, aApp_some, aApp_grw, simprocAttr, amset, tyset, Function.comp_apply, one1, lenV, calleeOf, lateOk, belowV, aop, AV.ofValue, AV.ofCell, AV.cells, AV.flat, AV.one, arep, aBin, aConv]
              repeat refine And.intro (by omega) ?_
              refine gd_split (fun h12 => ?_) (fun h12 => ?_)
              · have h12d := h12
                try simp only [boolset, beq_iff_eq, ne_eq] at h12d
                simp -implicitDefEqProofs (disch := omega) only [f1, f2, f3, f4, f5, f6, h7, h7d, h8, h8d, h9, h9d, h10, h10d, h11, h11d, h12, h12d, hwx, hwy, aApp_nil, aApp_none, aApp_some, aApp_grw, simprocAttr, amset, tyset, Function.comp_apply, one1, lenV, calleeOf, lateOk, belowV, aop, AV.ofValue, AV.ofCell, AV.cells, AV.flat, AV.one, arep, aBin, aConv]
                repeat refine And.intro (by omega) ?_
                refine call_v (by kernel_rfl) (vcmd_c _ t f) ?_
                simp -implicitDefEqProofs (disch := omega) only [f1, f2, f3, f4, f5, f6, h7, h7d, h8, h8d, h9, h9d, h10, h10d, h11, h11d, h12, h12d, hwx, hwy, aApp_nil, aApp_none, aApp_some, aApp_grw, simprocAttr, amset, tyset, Function.comp_apply, one1, lenV, calleeOf, lateOk, belowV, aop, AV.ofValue, AV.ofCell, AV.cells, AV.flat, AV.one, arep, aBin, aConv]
                repeat refine And.intro (by omega) ?_
                refine gd_split (fun h13 => ?_) (fun h13 => ?_)
                · have h13d := h13
                  try simp only [boolset, beq_iff_eq, ne_eq] at h13d
                  simp -implicitDefEqProofs (disch := omega) only [f1, f2, f3, f4, f5, f6, h7, h7d, h8, h8d, h9, h9d, h10, h10d, h11, h11d, h12, h12d, h13, h13d, hwx, hwy, aApp_nil, aApp_none, aApp_some, aApp_grw, simprocAttr, amset, tyset, Function.comp_apply, one1, lenV, calleeOf, lateOk, belowV, aop, AV.ofValue, AV.ofCell, AV.cells, AV.flat, AV.one, arep, aBin, aConv]
                  repeat refine And.intro (by omega) ?_
                  refine call_v (by kernel_rfl) (vbnd_c _ tu le sl ra) ?_
                  simp -implicitDefEqProofs (disch := omega) only [f1, f2, f3, f4, f5, f6, h7, h7d, h8, h8d, h9, h9d, h10, h10d, h11, h11d, h12, h12d, h13, h13d, hwx, hwy, aApp_nil, aApp_none, aApp_some, aApp_grw, simprocAttr, amset, tyset, Function.comp_apply, one1, lenV, calleeOf, lateOk, belowV, aop, AV.ofValue, AV.ofCell, AV.cells, AV.flat, AV.one, arep, aBin, aConv]
                  repeat refine And.intro (by omega) ?_
                  refine cond_split (fun h14 => ?_) (fun h14 => ?_)
                  · have h14d := h14
                    try simp only [boolset, beq_iff_eq, ne_eq] at h14d
                    simp -implicitDefEqProofs (disch := omega) only [f1, f2, f3, f4, f5, f6, h7, h7d, h8, h8d, h9, h9d, h10, h10d, h11, h11d, h12, h12d, h13, h13d, h14, h14d, hwx, hwy, aApp_nil, aApp_none, aApp_some, aApp_grw, simprocAttr, amset, tyset, Function.comp_apply, one1, lenV, calleeOf, lateOk, belowV, aop, AV.ofValue, AV.ofCell, AV.cells, AV.flat, AV.one, arep, aBin, aConv]
                    repeat refine And.intro (by omega) ?_
                    refine hQ _ _ (end_byG (.inl rfl) hbel (x1 := .tup [.agg [.int .i64 0, .int .i64 0, .sl none 0 (some 0)], .int .i64 1]) (l2 := [.cells false 2 []]) (.tup [.agg [.int .i64 0, .int .i64 0, .sl (some (H.length, 0)) 0 (some 0)], .int .i64 1]) (ret_of Tryz.results13 (by simp -implicitDefEqProofs (disch := omega) only [f1, f2, f3, f4, f5, f6, simprocAttr, amset, tyset, Function.comp_apply, one1, lenV, calleeOf, lateOk, belowV, aop, AV.ofValue, AV.ofCell, AV.cells, AV.flat, AV.one, arep, aBin, aAppend, aConv])) [.cells false 2 []] rfl [4] (by decide) ⟨by first | (simp [mkX, mkL, sweE, sweB, capG_0, ownG_0, prs_nil, h7d, h8d, h9d, h10d, h11d, h12d, h13d, h14d]; done) | (simp [mkX, mkL, sweE, hok, capG_0, ownG_0, prs_nil, h7d, h8d, h9d, h10d, h11d, h12d, h13d, h14d]; done) | (rw [hfinE]; simp only [mkX_0, mkL_0, sweX, sweY, sweL, wayL, hlf, hfinF, if_true, if_false, sw_eq, ← sw_eq0, Int.add_zero]), by first | (simp [mkX, mkL, sweE, sweB, capG_0, ownG_0, prs_nil, h7d, h8d, h9d, h10d, h11d, h12d, h13d, h14d]; done) | (simp [mkX, mkL, sweE, hok, capG_0, ownG_0, prs_nil, h7d, h8d, h9d, h10d, h11d, h12d, h13d, h14d]; done) | (rw [hfinE]; simp only [mkX_0, mkL_0, sweX, sweY, sweL, wayL, hlf, hfinF, if_true, if_false, sw_eq, ← sw_eq0, Int.add_zero])⟩ ?_)
                    simp -implicitDefEqProofs (disch := omega) only [W_nil0, W_nil1, W_cap', Wc_nil0, Wc_nil1, Wc_cap', absF, absH, W_refl', W_any', W_agg, W_tup, Ws_cons, Ws_refl', Wc_refl', Wcs_cons, Wcs_nil, look, List.cons_append, List.nil_append, List.append_nil, List.length_cons, List.length_nil, Nat.zero_add, Nat.reduceAdd, AV.mv, AV.mvs, ABlk.mv, sig_new0, sig_newk, sig_lt, List.getElem?_cons_zero, List.getElem?_cons_succ, mvs_ints, mvs_bools, mvs_prs, mvs_append, cond_true, cond_false, beq_self_eq_true, Nat.reduceBEq, true_and, and_true, or_true, true_or, and_self, decide_true, Nat.add_zero, reduceCtorEq, false_or, or_false]
                    repeat' (first | exact True.intro | exact Nat.add_lt_add_left (by decide) _ | exact Nat.lt_add_of_pos_right (by decide) | refine W_nils ?_ (Or.inr rfl) | refine W_nils ?_ (Or.inl rfl) | refine Wc_nils ?_ (Or.inr rfl) | refine Wc_nils ?_ (Or.inl rfl) | exact W_cap | rfl | refine And.intro ?_ ?_ | exact Or.inl rfl | exact Or.inr rfl | exact Or.inr (Or.inl rfl) | exact Or.inr (Or.inr BW.emp) | exact Or.inr BW.emp | exact BW.emp | exact Or.inr (Or.inr BW.pre) | exact Or.inr BW.pre | exact BW.pre | refine Or.inr (BW.cells ?_) | refine BW.cells ?_ | refine Or.inr (Or.inr (BW.cells ?_)) | exact Wc_cap)
                  · have h14d := h14
                    try simp only [boolset, beq_iff_eq, ne_eq] at h14d
                    simp -implicitDefEqProofs (disch := omega) only [f1, f2, f3, f4, f5, f6, h7, h7d, h8, h8d, h9, h9d, h10, h10d, h11, h11d, h12, h12d, h13, h13d, h14, h14d, hwx, hwy, aApp_nil, aApp_none, aApp_some, aApp_grw, simprocAttr, amset, tyset, Function.comp_apply, one1, lenV, calleeOf, lateOk, belowV, aop, AV.ofValue, AV.ofCell, AV.cells, AV.flat, AV.one, arep, aBin, aConv]
                    repeat refine And.intro (by omega) ?_
                    refine inv_of ?_
                    simp -implicitDefEqProofs (disch := omega) only [f1, f2, f3, f4, f5, f6, absF, absH, W_refl', W_any', W_agg, W_tup, Ws_cons, Ws_refl', Wc_refl', Wcs_cons, Wcs_nil, look, List.cons_append, List.nil_append, List.append_nil, List.length_cons, List.length_nil, Nat.zero_add, Nat.reduceAdd, AV.mv, AV.mvs, ABlk.mv, sig_new0, sig_newk, sig_lt, List.getElem?_cons_zero, List.getElem?_cons_succ, mvs_ints, mvs_bools, mvs_prs, mvs_append, cond_true, cond_false, beq_self_eq_true, Nat.reduceBEq, true_and, and_true, or_true, true_or, and_self, decide_true, Nat.add_zero, reduceCtorEq, false_or, or_false]
                    repeat' (first | exact True.intro | exact Nat.add_lt_add_left (by decide) _ | exact Nat.lt_add_of_pos_right (by decide) | refine W_nils ?_ (Or.inr rfl) | refine W_nils ?_ (Or.inl rfl) | refine Wc_nils ?_ (Or.inr rfl) | refine Wc_nils ?_ (Or.inl rfl) | exact W_cap | rfl | refine And.intro ?_ ?_ | exact Or.inl rfl | exact Or.inr rfl | exact Or.inr (Or.inl rfl) | exact Or.inr (Or.inr BW.emp) | exact Or.inr BW.emp | exact BW.emp | exact Or.inr (Or.inr BW.pre) | exact Or.inr BW.pre | exact BW.pre | refine Or.inr (BW.cells ?_) | refine BW.cells ?_ | refine Or.inr (Or.inr (BW.cells ?_)) | exact Wc_cap)
                    all_goals first | assumption | trivial
                · have h13d := h13
                  try simp only [boolset, beq_iff_eq, ne_eq] at h13d
                  simp -implicitDefEqProofs (disch := omega) only [f1, f2, f3, f4, f5, f6, h7, h7d, h8, h8d, h9, h9d, h10, h10d, h11, h11d, h12, h12d, h13, h13d, hwx, hwy, aApp_nil, aApp_none, aApp_some, aApp_grw, simprocAttr, amset, tyset, Function.comp_apply, one1, lenV, calleeOf, lateOk, belowV, aop, AV.ofValue, AV.ofCell, AV.cells, AV.flat, AV.one, arep, aBin, aConv]
                  repeat refine And.intro (by omega) ?_
                  refine hQ _ _ (end_byG (.inl rfl) hbel (x1 := .tup [.agg [.int .i64 0, .int .i64 0, .sl none 0 (some 0)], .int .i64 1]) (l2 := [.cells false 2 []]) (.tup [.agg [.int .i64 0, .int .i64 0, .sl (some (H.length, 0)) 0 (some 0)], .int .i64 1]) (ret_of Tryz.results13 (by simp -implicitDefEqProofs (disch := omega) only [f1, f2, f3, f4, f5, f6, simprocAttr, amset, tyset, Function.comp_apply, one1, lenV, calleeOf, lateOk, belowV, aop, AV.ofValue, AV.ofCell, AV.cells, AV.flat, AV.one, arep, aBin, aAppend, aConv])) [.cells false 2 []] rfl [4] (by decide) ⟨by first | (simp [mkX, mkL, sweE, sweB, capG_0, ownG_0, prs_nil, h7d, h8d, h9d, h10d, h11d, h12d, h13d]; done) | (simp [mkX, mkL, sweE, hok, capG_0, ownG_0, prs_nil, h7d, h8d, h9d, h10d, h11d, h12d, h13d]; done) | (rw [hfinE]; simp only [mkX_0, mkL_0, sweX, sweY, sweL, wayL, hlf, hfinF, if_true, if_false, sw_eq, ← sw_eq0, Int.add_zero]), by first | (simp [mkX, mkL, sweE, sweB, capG_0, ownG_0, prs_nil, h7d, h8d, h9d, h10d, h11d, h12d, h13d]; done) | (simp [mkX, mkL, sweE, hok, capG_0, ownG_0, prs_nil, h7d, h8d, h9d, h10d, h11d, h12d, h13d]; done) | (rw [hfinE]; simp only [mkX_0, mkL_0, sweX, sweY, sweL, wayL, hlf, hfinF, if_true, if_false, sw_eq, ← sw_eq0, Int.add_zero])⟩ ?_)
                  simp -implicitDefEqProofs (disch := omega) only [W_nil0, W_nil1, W_cap', Wc_nil0, Wc_nil1, Wc_cap', absF, absH, W_refl', W_any', W_agg, W_tup, Ws_cons, Ws_refl', Wc_refl', Wcs_cons, Wcs_nil, look, List.cons_append, List.nil_append, List.append_nil, List.length_cons, List.length_nil, Nat.zero_add, Nat.reduceAdd, AV.mv, AV.mvs, ABlk.mv, sig_new0, sig_newk, sig_lt, List.getElem?_cons_zero, List.getElem?_cons_succ, mvs_ints, mvs_bools, mvs_prs, mvs_append, cond_true, cond_false, beq_self_eq_true, Nat.reduceBEq, true_and, and_true, or_true, true_or, and_self, decide_true, Nat.add_zero, reduceCtorEq, false_or, or_false]
                  repeat' (first | exact True.intro | exact Nat.add_lt_add_left (by decide) _ | exact Nat.lt_add_of_pos_right (by decide) | refine W_nils ?_ (Or.inr rfl) | refine W_nils ?_ (Or.inl rfl) | refine Wc_nils ?_ (Or.inr rfl) | refine Wc_nils ?_ (Or.inl rfl) | exact W_cap | rfl | refine And.intro ?_ ?_ | exact Or.inl rfl | exact Or.inr rfl | exact Or.inr (Or.inl rfl) | exact Or.inr (Or.inr BW.emp) | exact Or.inr BW.emp | exact BW.emp | exact Or.inr (Or.inr BW.pre) | exact Or.inr BW.pre | exact BW.pre | refine Or.inr (BW.cells ?_) | refine BW.cells ?_ | refine Or.inr (Or.inr (BW.cells ?_)) | exact Wc_cap)
              · have h12d := h12
                try simp only [boolset, beq_iff_eq, ne_eq] at h12d
                simp -implicitDefEqProofs (disch := omega) only [f1, f2, f3, f4, f5, f6, h7, h7d, h8, h8d, h9, h9d, h10, h10d, h11, h11d, h12, h12d, hwx, hwy, aApp_nil, aApp_none, aApp_some, aApp_grw, simprocAttr, amset, tyset, Function.comp_apply, one1, lenV, calleeOf, lateOk, belowV, aop, AV.ofValue, AV.ofCell, AV.cells, AV.flat, AV.one, arep, aBin, aConv]
                repeat refine And.intro (by omega) ?_
                refine hQ _ _ (end_byG (.inl rfl) hbel (x1 := .tup [.agg [.int .i64 0, .int .i64 0, .sl none 0 (some 0)], .int .i64 1]) (l2 := [.cells false 2 []]) (.tup [.agg [.int .i64 0, .int .i64 0, .sl (some (H.length, 0)) 0 (some 0)], .int .i64 1]) (ret_of Tryz.results13 (by simp -implicitDefEqProofs (disch := omega) only [f1, f2, f3, f4, f5, f6, simprocAttr, amset, tyset, Function.comp_apply, one1, lenV, calleeOf, lateOk, belowV, aop, AV.ofValue, AV.ofCell, AV.cells, AV.flat, AV.one, arep, aBin, aAppend, aConv])) [.cells false 2 []] rfl [4] (by decide) ⟨by first | (simp [mkX, mkL, sweE, sweB, capG_0, ownG_0, prs_nil, h7d, h8d, h9d, h10d, h11d, h12d]; done) | (simp [mkX, mkL, sweE, hok, capG_0, ownG_0, prs_nil, h7d, h8d, h9d, h10d, h11d, h12d]; done) | (rw [hfinE]; simp only [mkX_0, mkL_0, sweX, sweY, sweL, wayL, hlf, hfinF, if_true, if_false, sw_eq, ← sw_eq0, Int.add_zero]), by first | (simp [mkX, mkL, sweE, sweB, capG_0, ownG_0, prs_nil, h7d, h8d, h9d, h10d, h11d, h12d]; done) | (simp [mkX, mkL, sweE, hok, capG_0, ownG_0, prs_nil, h7d, h8d, h9d, h10d, h11d, h12d]; done) | (rw [hfinE]; simp only [mkX_0, mkL_0, sweX, sweY, sweL, wayL, hlf, hfinF, if_true, if_false, sw_eq, ← sw_eq0, Int.add_zero])⟩ ?_)
                simp -implicitDefEqProofs (disch := omega) only [W_nil0, W_nil1, W_cap', Wc_nil0, Wc_nil1, Wc_cap', absF, absH, W_refl', W_any', W_agg, W_tup, Ws_cons, Ws_refl', Wc_refl', Wcs_cons, Wcs_nil, look, List.cons_append, List.nil_append, List.append_nil, List.length_cons, List.length_nil, Nat.zero_add, Nat.reduceAdd, AV.mv, AV.mvs, ABlk.mv, sig_new0, sig_newk, sig_lt, List.getElem?_cons_zero, List.getElem?_cons_succ, mvs_ints, mvs_bools, mvs_prs, mvs_append, cond_true, cond_false, beq_self_eq_true, Nat.reduceBEq, true_and, and_true, or_true, true_or, and_self, decide_true, Nat.add_zero, reduceCtorEq, false_or, or_false]
                repeat' (first | exact True.intro | exact Nat.add_lt_add_left (by decide) _ | exact Nat.lt_add_of_pos_right (by decide) | refine W_nils ?_ (Or.inr rfl) | refine W_nils ?_ (Or.inl rfl) | refine Wc_nils ?_ (Or.inr rfl) | refine Wc_nils ?_ (Or.inl rfl) | exact W_cap | rfl | refine And.intro ?_ ?_ | exact Or.inl rfl | exact Or.inr rfl | exact Or.inr (Or.inl rfl) | exact Or.inr (Or.inr BW.emp) | exact Or.inr BW.emp | exact BW.emp | exact Or.inr (Or.inr BW.pre) | exact Or.inr BW.pre | exact BW.pre | refine Or.inr (BW.cells ?_) | refine BW.cells ?_ | refine Or.inr (Or.inr (BW.cells ?_)) | exact Wc_cap)
            · have h11d := h11
              try simp only [boolset, beq_iff_eq, ne_eq] at h11d
              simp -implicitDefEqProofs (disch := omega) only [f1, f2, f3, f4, f5, f6, h7, h7d, h8, h8d, h9, h9d, h10, h10d, h11, h11d, hwx, hwy, aApp_nil, aApp_none, aApp_some, aApp_grw, simprocAttr, amset, tyset, Function.comp_apply, one1, lenV, calleeOf, lateOk, belowV, aop, AV.ofValue, AV.ofCell, AV.cells, AV.flat, AV.one, arep, aBin, aConv]
              repeat refine And.intro (by omega) ?_
              refine hQ _ _ (end_byG (.inl rfl) hbel (x1 := .tup [.agg [.int .i64 0, .int .i64 0, .sl none 0 (some 0)], .int .i64 1]) (l2 := [.cells false 2 []]) (.tup [.agg [.int .i64 0, .int .i64 0, .sl (some (H.length, 0)) 0 (some 0)], .int .i64 1]) (ret_of Tryz.results13 (by simp -implicitDefEqProofs (disch := omega) only [f1, f2, f3, f4, f5, f6, simprocAttr, amset, tyset, Function.comp_apply, one1, lenV, calleeOf, lateOk, belowV, aop, AV.ofValue, AV.ofCell, AV.cells, AV.flat, AV.one, arep, aBin, aAppend, aConv])) [.cells false 2 []] rfl [4] (by decide) ⟨by first | (simp [mkX, mkL, sweE, sweB, capG_0, ownG_0, prs_nil, h7d, h8d, h9d, h10d, h11d]; done) | (simp [mkX, mkL, sweE, hok, capG_0, ownG_0, prs_nil, h7d, h8d, h9d, h10d, h11d]; done) | (rw [hfinE]; simp only [mkX_0, mkL_0, sweX, sweY, sweL, wayL, hlf, hfinF, if_true, if_false, sw_eq, ← sw_eq0, Int.add_zero]), by first | (simp [mkX, mkL, sweE, sweB, capG_0, ownG_0, prs_nil, h7d, h8d, h9d, h10d, h11d]; done) | (simp [mkX, mkL, sweE, hok, capG_0, ownG_0, prs_nil, h7d, h8d, h9d, h10d, h11d]; done) | (rw [hfinE]; simp only [mkX_0, mkL_0, sweX, sweY, sweL, wayL, hlf, hfinF, if_true, if_false, sw_eq, ← sw_eq0, Int.add_zero])⟩ ?_)
              simp -implicitDefEqProofs (disch := omega) only [W_nil0, W_nil1, W_cap', Wc_nil0, Wc_nil1, Wc_cap', absF, absH, W_refl', W_any', W_agg, W_tup, Ws_cons, Ws_refl', Wc_refl', Wcs_cons, Wcs_nil, look, List.cons_append, List.nil_append, List.append_nil, List.length_cons, List.length_nil, Nat.zero_add, Nat.reduceAdd, AV.mv, AV.mvs, ABlk.mv, sig_new0, sig_newk, sig_lt, List.getElem?_cons_zero, List.getElem?_cons_succ, mvs_ints, mvs_bools, mvs_prs, mvs_append, cond_true, cond_false, beq_self_eq_true, Nat.reduceBEq, true_and, and_true, or_true, true_or, and_self, decide_true, Nat.add_zero, reduceCtorEq, false_or, or_false]
              repeat' (first | exact True.intro | exact Nat.add_lt_add_left (by decide) _ | exact Nat.lt_add_of_pos_right (by decide) | refine W_nils ?_ (Or.inr rfl) | refine W_nils ?_ (Or.inl rfl) | refine Wc_nils ?_ (Or.inr rfl) | refine Wc_nils ?_ (Or.inl rfl) | exact W_cap | rfl | refine And.intro ?_ ?_ | exact Or.inl rfl | exact Or.inr rfl | exact Or.inr (Or.inl rfl) | exact Or.inr (Or.inr BW.emp) | exact Or.inr BW.emp | exact BW.emp | exact Or.inr (Or.inr BW.pre) | exact Or.inr BW.pre | exact BW.pre | refine Or.inr (BW.cells ?_) | refine BW.cells ?_ | refine Or.inr (Or.inr (BW.cells ?_)) | exact Wc_cap)
          · have h10d := h10
            try simp only [boolset, beq_iff_eq, ne_eq] at h10d
            simp -implicitDefEqProofs (disch := omega) only [f1, f2, f3, f4, f5, f6, h7, h7d, h8, h8d, h9, h9d, h10, h10d, hwx, hwy, aApp_nil, aApp_none, aApp_some, aApp_grw, simprocAttr, amset, tyset, Function.comp_apply, one1, lenV, calleeOf, lateOk, belowV, aop, AV.ofValue, AV.ofCell, AV.cells, AV.flat, AV.one, arep, aBin, aConv]
            repeat refine And.intro (by omega) ?_
            refine hQ _ _ (end_byG (.inl rfl) hbel (x1 := .tup [.agg [.int .i64 0, .int .i64 0, .sl none 0 (some 0)], .int .i64 1]) (l2 := [.cells false 2 []]) (.tup [.agg [.int .i64 0, .int .i64 0, .sl (some (H.length, 0)) 0 (some 0)], .int .i64 1]) (ret_of Tryz.results13 (by simp -implicitDefEqProofs (disch := omega) only [f1, f2, f3, f4, f5, f6, simprocAttr, amset, tyset, Function.comp_apply, one1, lenV, calleeOf, lateOk, belowV, aop, AV.ofValue, AV.ofCell, AV.cells, AV.flat, AV.one, arep, aBin, aAppend, aConv])) [.cells false 2 []] rfl [4] (by decide) ⟨by first | (simp [mkX, mkL, sweE, sweB, capG_0, ownG_0, prs_nil, h7d, h8d, h9d, h10d]; done) | (simp [mkX, mkL, sweE, hok, capG_0, ownG_0, prs_nil, h7d, h8d, h9d, h10d]; done) | (rw [hfinE]; simp only [mkX_0, mkL_0, sweX, sweY, sweL, wayL, hlf, hfinF, if_true, if_false, sw_eq, ← sw_eq0, Int.add_zero]), by first | (simp [mkX, mkL, sweE, sweB, capG_0, ownG_0, prs_nil, h7d, h8d, h9d, h10d]; done) | (simp [mkX, mkL, sweE, hok, capG_0, ownG_0, prs_nil, h7d, h8d, h9d, h10d]; done) | (rw [hfinE]; simp only [mkX_0, mkL_0, sweX, sweY, sweL, wayL, hlf, hfinF, if_true, if_false, sw_eq, ← sw_eq0, Int.add_zero])⟩ ?_)
            simp -implicitDefEqProofs (disch := omega) only [W_nil0, W_nil1, W_cap', Wc_nil0, Wc_nil1, Wc_cap', absF, absH, W_refl', W_any', W_agg, W_tup, Ws_cons, Ws_refl', Wc_refl', Wcs_cons, Wcs_nil, look, List.cons_append, List.nil_append, List.append_nil, List.length_cons, List.length_nil, Nat.zero_add, Nat.reduceAdd, AV.mv, AV.mvs, ABlk.mv, sig_new0, sig_newk, sig_lt, List.getElem?_cons_zero, List.getElem?_cons_succ, mvs_ints, mvs_bools, mvs_prs, mvs_append, cond_true, cond_false, beq_self_eq_true, Nat.reduceBEq, true_and, and_true, or_true, true_or, and_self, decide_true, Nat.add_zero, reduceCtorEq, false_or, or_false]
            repeat' (first | exact True.intro | exact Nat.add_lt_add_left (by decide) _ | exact Nat.lt_add_of_pos_right (by decide) | refine W_nils ?_ (Or.inr rfl) | refine W_nils ?_ (Or.inl rfl) | refine Wc_nils ?_ (Or.inr rfl) | refine Wc_nils ?_ (Or.inl rfl) | exact W_cap | rfl | refine And.intro ?_ ?_ | exact Or.inl rfl | exact Or.inr rfl | exact Or.inr (Or.inl rfl) | exact Or.inr (Or.inr BW.emp) | exact Or.inr BW.emp | exact BW.emp | exact Or.inr (Or.inr BW.pre) | exact Or.inr BW.pre | exact BW.pre | refine Or.inr (BW.cells ?_) | refine BW.cells ?_ | refine Or.inr (Or.inr (BW.cells ?_)) | exact Wc_cap)
        · have h9d := h9
          try simp only [boolset, beq_iff_eq, ne_eq] at h9d
          simp -implicitDefEqProofs (disch := omega) only [f1, f2, f3, f4, f5, f6, h7, h7d, h8, h8d, h9, h9d, hwx, hwy, aApp_nil, aApp_none, aApp_some, aApp_grw, simprocAttr, amset, tyset, Function.comp_apply, one1, lenV, calleeOf, lateOk, belowV, aop, AV.ofValue, AV.ofCell, AV.cells, AV.flat, AV.one, arep, aBin, aConv]
          repeat refine And.intro (by omega) ?_
          refine hQ _ _ (end_byG (.inl rfl) hbel (x1 := .tup [.agg [.int .i64 0, .int .i64 0, .sl none 0 (some 0)], .int .i64 1]) (l2 := [.cells false 2 []]) (.tup [.agg [.int .i64 0, .int .i64 0, .sl (some (H.length, 0)) 0 (some 0)], .int .i64 1]) (ret_of Tryz.results13 (by simp -implicitDefEqProofs (disch := omega) only [f1, f2, f3, f4, f5, f6, simprocAttr, amset, tyset, Function.comp_apply, one1, lenV, calleeOf, lateOk, belowV, aop, AV.ofValue, AV.ofCell, AV.cells, AV.flat, AV.one, arep, aBin, aAppend, aConv])) [.cells false 2 []] rfl [4] (by decide) ⟨by first | (simp [mkX, mkL, sweE, sweB, capG_0, ownG_0, prs_nil, h7d, h8d, h9d]; done) | (simp [mkX, mkL, sweE, hok, capG_0, ownG_0, prs_nil, h7d, h8d, h9d]; done) | (rw [hfinE]; simp only [mkX_0, mkL_0, sweX, sweY, sweL, wayL, hlf, hfinF, if_true, if_false, sw_eq, ← sw_eq0, Int.add_zero]), by first | (simp [mkX, mkL, sweE, sweB, capG_0, ownG_0, prs_nil, h7d, h8d, h9d]; done) | (simp [mkX, mkL, sweE, hok, capG_0, ownG_0, prs_nil, h7d, h8d, h9d]; done) | (rw [hfinE]; simp only [mkX_0, mkL_0, sweX, sweY, sweL, wayL, hlf, hfinF, if_true, if_false, sw_eq, ← sw_eq0, Int.add_zero])⟩ ?_)
          simp -implicitDefEqProofs (disch := omega) only [W_nil0, W_nil1, W_cap', Wc_nil0, Wc_nil1, Wc_cap', absF, absH, W_refl', W_any', W_agg, W_tup, Ws_cons, Ws_refl', Wc_refl', Wcs_cons, Wcs_nil, look, List.cons_append, List.nil_append, List.append_nil, List.length_cons, List.length_nil, Nat.zero_add, Nat.reduceAdd, AV.mv, AV.mvs, ABlk.mv, sig_new0, sig_newk, sig_lt, List.getElem?_cons_zero, List.getElem?_cons_succ, mvs_ints, mvs_bools, mvs_prs, mvs_append, cond_true, cond_false, beq_self_eq_true, Nat.reduceBEq, true_and, and_true, or_true, true_or, and_self, decide_true, Nat.add_zero, reduceCtorEq, false_or, or_false]
          repeat' (first | exact True.intro | exact Nat.add_lt_add_left (by decide) _ | exact Nat.lt_add_of_pos_right (by decide) | refine W_nils ?_ (Or.inr rfl) | refine W_nils ?_ (Or.inl rfl) | refine Wc_nils ?_ (Or.inr rfl) | refine Wc_nils ?_ (Or.inl rfl) | exact W_cap | rfl | refine And.intro ?_ ?_ | exact Or.inl rfl | exact Or.inr rfl | exact Or.inr (Or.inl rfl) | exact Or.inr (Or.inr BW.emp) | exact Or.inr BW.emp | exact BW.emp | exact Or.inr (Or.inr BW.pre) | exact Or.inr BW.pre | exact BW.pre | refine Or.inr (BW.cells ?_) | refine BW.cells ?_ | refine Or.inr (Or.inr (BW.cells ?_)) | exact Wc_cap)
      · have h8d := h8
        try simp only [boolset, beq_iff_eq, ne_eq] at h8d
        simp -implicitDefEqProofs (disch := omega) only [f1, f2, f3, f4, f5, f6, h7, h7d, h8, h8d, hwx, hwy, aApp_nil, aApp_none, aApp_some, aApp_grw, simprocAttr, amset, tyset, Function.comp_apply, one1, lenV, calleeOf, lateOk, belowV, aop, AV.ofValue, AV.ofCell, AV.cells, AV.flat, AV.one, arep, aBin, aConv]
        repeat refine And.intro (by omega) ?_
        refine hQ _ _ (end_byG (.inl rfl) hbel (x1 := .tup [.agg [.int .i64 0, .int .i64 0, .sl none 0 (some 0)], .int .i64 1]) (l2 := [.cells false 2 []]) (.tup [.agg [.int .i64 0, .int .i64 0, .sl (some (H.length, 0)) 0 (some 0)], .int .i64 1]) (ret_of Tryz.results13 (by simp -implicitDefEqProofs (disch := omega) only [f1, f2, f3, f4, f5, f6, simprocAttr, amset, tyset, Function.comp_apply, one1, lenV, calleeOf, lateOk, belowV, aop, AV.ofValue, AV.ofCell, AV.cells, AV.flat, AV.one, arep, aBin, aAppend, aConv])) [.cells false 2 []] rfl [4] (by decide) ⟨by first | (simp [mkX, mkL, sweE, sweB, capG_0, ownG_0, prs_nil, h7d, h8d]; done) | (simp [mkX, mkL, sweE, hok, capG_0, ownG_0, prs_nil, h7d, h8d]; done) | (rw [hfinE]; simp only [mkX_0, mkL_0, sweX, sweY, sweL, wayL, hlf, hfinF, if_true, if_false, sw_eq, ← sw_eq0, Int.add_zero]), by first | (simp [mkX, mkL, sweE, sweB, capG_0, ownG_0, prs_nil, h7d, h8d]; done) | (simp [mkX, mkL, sweE, hok, capG_0, ownG_0, prs_nil, h7d, h8d]; done) | (rw [hfinE]; simp only [mkX_0, mkL_0, sweX, sweY, sweL, wayL, hlf, hfinF, if_true, if_false, sw_eq, ← sw_eq0, Int.add_zero])⟩ ?_)
        simp -implicitDefEqProofs (disch := omega) only [W_nil0, W_nil1, W_cap', Wc_nil0, Wc_nil1, Wc_cap', absF, absH, W_refl', W_any', W_agg, W_tup, Ws_cons, Ws_refl', Wc_refl', Wcs_cons, Wcs_nil, look, List.cons_append, List.nil_append, List.append_nil, List.length_cons, List.length_nil, Nat.zero_add, Nat.reduceAdd, AV.mv, AV.mvs, ABlk.mv, sig_new0, sig_newk, sig_lt, List.getElem?_cons_zero, List.getElem?_cons_succ, mvs_ints, mvs_bools, mvs_prs, mvs_append, cond_true, cond_false, beq_self_eq_true, Nat.reduceBEq, true_and, and_true, or_true, true_or, and_self, decide_true, Nat.add_zero, reduceCtorEq, false_or, or_false]
        repeat' (first | exact True.intro | exact Nat.add_lt_add_left (by decide) _ | exact Nat.lt_add_of_pos_right (by decide) | refine W_nils ?_ (Or.inr rfl) | refine W_nils ?_ (Or.inl rfl) | refine Wc_nils ?_ (Or.inr rfl) | refine Wc_nils ?_ (Or.inl rfl) | exact W_cap | rfl | refine And.intro ?_ ?_ | exact Or.inl rfl | exact Or.inr rfl | exact Or.inr (Or.inl rfl) | exact Or.inr (Or.inr BW.emp) | exact Or.inr BW.emp | exact BW.emp | exact Or.inr (Or.inr BW.pre) | exact Or.inr BW.pre | exact BW.pre | refine Or.inr (BW.cells ?_) | refine BW.cells ?_ | refine Or.inr (Or.inr (BW.cells ?_)) | exact Wc_cap)
    · have h7d := h7
      try simp only [boolset, beq_iff_eq, ne_eq] at h7d
      simp -implicitDefEqProofs (disch := omega) only [f1, f2, f3, f4, f5, f6, h7, h7d, hwx, hwy, aApp_nil, aApp_none, aApp_some, aApp_grw, simprocAttr, amset, tyset, Function.comp_apply, one1, lenV, calleeOf, lateOk, belowV, aop, AV.ofValue, AV.ofCell, AV.cells, AV.flat, AV.one, arep, aBin, aConv]
      repeat refine And.intro (by omega) ?_
      refine hQ _ _ (end_byG (.inl rfl) hbel (x1 := .tup [.agg [.int .i64 0, .int .i64 0, .sl none 0 (some 0)], .int .i64 1]) (l2 := [.cells false 2 []]) (.tup [.agg [.int .i64 0, .int .i64 0, .sl (some (H.length, 0)) 0 (some 0)], .int .i64 1]) (ret_of Tryz.results13 (by simp -implicitDefEqProofs (disch := omega) only [f1, f2, f3, f4, f5, f6, simprocAttr, amset, tyset, Function.comp_apply, one1, lenV, calleeOf, lateOk, belowV, aop, AV.ofValue, AV.ofCell, AV.cells, AV.flat, AV.one, arep, aBin, aAppend, aConv])) [.cells false 2 []] rfl [4] (by decide) ⟨by first | (simp [mkX, mkL, sweE, sweB, capG_0, ownG_0, prs_nil, h7d]; done) | (simp [mkX, mkL, sweE, hok, capG_0, ownG_0, prs_nil, h7d]; done) | (rw [hfinE]; simp only [mkX_0, mkL_0, sweX, sweY, sweL, wayL, hlf, hfinF, if_true, if_false, sw_eq, ← sw_eq0, Int.add_zero]), by first | (simp [mkX, mkL, sweE, sweB, capG_0, ownG_0, prs_nil, h7d]; done) | (simp [mkX, mkL, sweE, hok, capG_0, ownG_0, prs_nil, h7d]; done) | (rw [hfinE]; simp only [mkX_0, mkL_0, sweX, sweY, sweL, wayL, hlf, hfinF, if_true, if_false, sw_eq, ← sw_eq0, Int.add_zero])⟩ ?_)
      simp -implicitDefEqProofs (disch := omega) only [W_nil0, W_nil1, W_cap', Wc_nil0, Wc_nil1, Wc_cap', absF, absH, W_refl', W_any', W_agg, W_tup, Ws_cons, Ws_refl', Wc_refl', Wcs_cons, Wcs_nil, look, List.cons_append, List.nil_append, List.append_nil, List.length_cons, List.length_nil, Nat.zero_add, Nat.reduceAdd, AV.mv, AV.mvs, ABlk.mv, sig_new0, sig_newk, sig_lt, List.getElem?_cons_zero, List.getElem?_cons_succ, mvs_ints, mvs_bools, mvs_prs, mvs_append, cond_true, cond_false, beq_self_eq_true, Nat.reduceBEq, true_and, and_true, or_true, true_or, and_self, decide_true, Nat.add_zero, reduceCtorEq, false_or, or_false]
      repeat' (first | exact True.intro | exact Nat.add_lt_add_left (by decide) _ | exact Nat.lt_add_of_pos_right (by decide) | refine W_nils ?_ (Or.inr rfl) | refine W_nils ?_ (Or.inl rfl) | refine Wc_nils ?_ (Or.inr rfl) | refine Wc_nils ?_ (Or.inl rfl) | exact W_cap | rfl | refine And.intro ?_ ?_ | exact Or.inl rfl | exact Or.inr rfl | exact Or.inr (Or.inl rfl) | exact Or.inr (Or.inr BW.emp) | exact Or.inr BW.emp | exact BW.emp | exact Or.inr (Or.inr BW.pre) | exact Or.inr BW.pre | exact BW.pre | refine Or.inr (BW.cells ?_) | refine BW.cells ?_ | refine Or.inr (Or.inr (BW.cells ?_)) | exact Wc_cap)
  rintro F Hx ⟨h15d, h16d, h17d, h18d, h19d, h20d, h21d, h22d, f23, f24, f25, f26, f27, f28, rfl⟩
  have hok : sweB x0 y0 x1 y1 t f tu le sl ra = true := by unfold sweB; rw [h15d, h16d, h17d, h18d, h19d, h20d, h21d, h22d]; rfl
  have hbd := swe_bd hok
  have hre : rectE x0 y0 x1 y1 = 0 := if_pos ⟨by unfold far4; simp only [Bool.and_eq_true, within_iff]; omega, by omega, by omega, by omega, by omega⟩
  have hrs := rec_spr (x0 := x0) (y0 := y0) (x1 := x1) (y1 := y1) (by omega) (by omega)
  have hq1 := sqr_spr (a := 20) (by omega)
  have hq2 := sqr_spr (a := sl + 21) (by omega)
  refine AW_step false try_mixed (by kernel_rfl) (fun F Hx => btw h 0 255 = true ∧ look F 1 = .int .i64 h ∧ look F 4 = .ptr (some (H.length, 0)) ∧ look F 6 = .ptr (some (H.length + 1, 0)) ∧ look F 7 = .ptr (some (H.length + 2, 0)) ∧ look F 8 = .ptr (some (H.length + 3, 0)) ∧ look F 9 = .int .i64 0 ∧ Hx = H ++ [.cells true 0 [.int .i64 x0, .int .i64 y0, .int .i64 x1, .int .i64 y1], .cells true 0 [.int .i64 t, .int .i64 f], .cells true 0 [.int .i64 tu, .int .i64 le, .int .i64 sl, .int .i64 ra], .cells true 0 [.int .i64 0, .int .i64 0, .sl none 0 (some 0)]]) ?_ ?_
  · skip
    simp -implicitDefEqProofs (disch := omega) only [f1, f2, f3, f4, f5, f6, f23, f24, f25, f26, f27, f28, h15d, h16d, h17d, h18d, h19d, h20d, h21d, h22d, hwx, hwy, aApp_nil, aApp_none, aApp_some, aApp_grw, simprocAttr, amset, tyset, Function.comp_apply, one1, lenV, calleeOf, lateOk, belowV, aop, AV.ofValue, AV.ofCell, AV.cells, AV.flat, AV.one, arep, aBin, aConv]
    repeat refine And.intro (by omega) ?_
    refine call_v (by kernel_rfl) (mwithin_c _ h 0 255) ?_
    simp -implicitDefEqProofs (disch := omega) only [f1, f2, f3, f4, f5, f6, f23, f24, f25, f26, f27, f28, h15d, h16d, h17d, h18d, h19d, h20d, h21d, h22d, hwx, hwy, aApp_nil, aApp_none, aApp_some, aApp_grw, simprocAttr, amset, tyset, Function.comp_apply, one1, lenV, calleeOf, lateOk, belowV, aop, AV.ofValue, AV.ofCell, AV.cells, AV.flat, AV.one, arep, aBin, aConv]
    repeat refine And.intro (by omega) ?_
    refine cond_split (fun h29 => ?_) (fun h29 => ?_)
    · have h29d := h29
      try simp only [boolset, beq_iff_eq, ne_eq] at h29d
      simp -implicitDefEqProofs (disch := omega) only [f1, f2, f3, f4, f5, f6, f23, f24, f25, f26, f27, f28, h15d, h16d, h17d, h18d, h19d, h20d, h21d, h22d, h29, h29d, hwx, hwy, aApp_nil, aApp_none, aApp_some, aApp_grw, simprocAttr, amset, tyset, Function.comp_apply, one1, lenV, calleeOf, lateOk, belowV, aop, AV.ofValue, AV.ofCell, AV.cells, AV.flat, AV.one, arep, aBin, aConv]
      repeat refine And.intro (by omega) ?_
      refine hQ _ _ (end_byG (.inl rfl) hbel (x1 := .tup [.agg [.int .i64 0, .int .i64 0, .sl none 0 (some 0)], .int .i64 2]) (l2 := [.cells false 2 []]) (.tup [.agg [.int .i64 0, .int .i64 0, .sl (some (H.length, 0)) 0 (some 0)], .int .i64 2]) (ret_of Tryz.results13 (by simp -implicitDefEqProofs (disch := omega) only [f1, f2, f3, f4, f5, f6, f23, f24, f25, f26, f27, f28, simprocAttr, amset, tyset, Function.comp_apply, one1, lenV, calleeOf, lateOk, belowV, aop, AV.ofValue, AV.ofCell, AV.cells, AV.flat, AV.one, arep, aBin, aAppend, aConv])) [.cells false 2 []] rfl [4] (by decide) ⟨by first | (simp [mkX, mkL, sweE, sweB, capG_0, ownG_0, prs_nil, h15d, h16d, h17d, h18d, h19d, h20d, h21d, h22d, h29d]; done) | (simp [mkX, mkL, sweE, hok, capG_0, ownG_0, prs_nil, h15d, h16d, h17d, h18d, h19d, h20d, h21d, h22d, h29d]; done) | (rw [hfinE]; simp only [mkX_0, mkL_0, sweX, sweY, sweL, wayL, hlf, hfinF, if_true, if_false, sw_eq, ← sw_eq0, Int.add_zero]), by first | (simp [mkX, mkL, sweE, sweB, capG_0, ownG_0, prs_nil, h15d, h16d, h17d, h18d, h19d, h20d, h21d, h22d, h29d]; done) | (simp [mkX, mkL, sweE, hok, capG_0, ownG_0, prs_nil, h15d, h16d, h17d, h18d, h19d, h20d, h21d, h22d, h29d]; done) | (rw [hfinE]; simp only [mkX_0, mkL_0, sweX, sweY, sweL, wayL, hlf, hfinF, if_true, if_false, sw_eq, ← sw_eq0, Int.add_zero])⟩ ?_)
      simp -implicitDefEqProofs (disch := omega) only [W_nil0, W_nil1, W_cap', Wc_nil0, Wc_nil1, Wc_cap', absF, absH, W_refl', W_any', W_agg, W_tup, Ws_cons, Ws_refl', Wc_refl', Wcs_cons, Wcs_nil, look, List.cons_append, List.nil_append, List.append_nil, List.length_cons, List.length_nil, Nat.zero_add, Nat.reduceAdd, AV.mv, AV.mvs, ABlk.mv, sig_new0, sig_newk, sig_lt, List.getElem?_cons_zero, List.getElem?_cons_succ, mvs_ints, mvs_bools, mvs_prs, mvs_append, cond_true, cond_false, beq_self_eq_true, Nat.reduceBEq, true_and, and_true, or_true, true_or, and_self, decide_true, Nat.add_zero, reduceCtorEq, false_or, or_false]
      repeat' (first | exact True.intro | exact Nat.add_lt_add_left (by decide) _ | exact Nat.lt_add_of_pos_right (by decide) | refine W_nils ?_ (Or.inr rfl) | refine W_nils ?_ (Or.inl rfl) | refine Wc_nils ?_ (Or.inr rfl) | refine Wc_nils ?_ (Or.inl rfl) | exact W_cap | rfl | refine And.intro ?_ ?_ | exact Or.inl rfl | exact Or.inr rfl | exact Or.inr (Or.inl rfl) | exact Or.inr (Or.inr BW.emp) | exact Or.inr BW.emp | exact BW.emp | exact Or.inr (Or.inr BW.pre) | exact Or.inr BW.pre | exact BW.pre | refine Or.inr (BW.cells ?_) | refine BW.cells ?_ | refine Or.inr (Or.inr (BW.cells ?_)) | exact Wc_cap)
    · have h29d := h29
      try simp only [boolset, beq_iff_eq, ne_eq] at h29d
      simp -implicitDefEqProofs (disch := omega) only [f1, f2, f3, f4, f5, f6, f23, f24, f25, f26, f27, f28, h15d, h16d, h17d, h18d, h19d, h20d, h21d, h22d, h29, h29d, hwx, hwy, aApp_nil, aApp_none, aApp_some, aApp_grw, simprocAttr, amset, tyset, Function.comp_apply, one1, lenV, calleeOf, lateOk, belowV, aop, AV.ofValue, AV.ofCell, AV.cells, AV.flat, AV.one, arep, aBin, aConv]
      repeat refine And.intro (by omega) ?_
      refine inv_of ?_
      simp -implicitDefEqProofs (disch := omega) only [f1, f2, f3, f4, f5, f6, f23, f24, f25, f26, f27, f28, absF, absH, W_refl', W_any', W_agg, W_tup, Ws_cons, Ws_refl', Wc_refl', Wcs_cons, Wcs_nil, look, List.cons_append, List.nil_append, List.append_nil, List.length_cons, List.length_nil, Nat.zero_add, Nat.reduceAdd, AV.mv, AV.mvs, ABlk.mv, sig_new0, sig_newk, sig_lt, List.getElem?_cons_zero, List.getElem?_cons_succ, mvs_ints, mvs_bools, mvs_prs, mvs_append, cond_true, cond_false, beq_self_eq_true, Nat.reduceBEq, true_and, and_true, or_true, true_or, and_self, decide_true, Nat.add_zero, reduceCtorEq, false_or, or_false]
      repeat' (first | exact True.intro | exact Nat.add_lt_add_left (by decide) _ | exact Nat.lt_add_of_pos_right (by decide) | refine W_nils ?_ (Or.inr rfl) | refine W_nils ?_ (Or.inl rfl) | refine Wc_nils ?_ (Or.inr rfl) | refine Wc_nils ?_ (Or.inl rfl) | exact W_cap | rfl | refine And.intro ?_ ?_ | exact Or.inl rfl | exact Or.inr rfl | exact Or.inr (Or.inl rfl) | exact Or.inr (Or.inr BW.emp) | exact Or.inr BW.emp | exact BW.emp | exact Or.inr (Or.inr BW.pre) | exact Or.inr BW.pre | exact BW.pre | refine Or.inr (BW.cells ?_) | refine BW.cells ?_ | refine Or.inr (Or.inr (BW.cells ?_)) | exact Wc_cap)
      all_goals first | assumption | trivial
  rintro F Hx ⟨h30d, f31, f32, f33, f34, f35, f36, rfl⟩
  have hfinE : sweE x0 y0 x1 y1 h t f tu le sl ra = 0 := by unfold sweE; rw [hok, h30d]; rfl
  have hz0 : sumE (x0 + x1) (y0 + y1) (canonL (recL x0 y0 x1 y1)) 0 0 (canonL (sqrL 20)) = 0 := sum_ok (by omega) (by omega) (by omega) (by omega) (by simp [recL, sqrL]) (by omega) (by omega)
  refine AW_step false try_mixed (by kernel_rfl) (fun F Hx => look F 1 = .int .i64 h ∧ look F 6 = .ptr (some (H.length + 1, 0)) ∧ look F 7 = .ptr (some (H.length + 2, 0)) ∧ look F 8 = .ptr (some (H.length + 3, 0)) ∧ look F 9 = .int .i64 0 ∧ look F 10 = .ptr (some (H.length + 5, 0)) ∧ Hx = H ++ [.cells true 0 [.int .i64 x0, .int .i64 y0, .int .i64 x1, .int .i64 y1], .cells true 0 [.int .i64 t, .int .i64 f], .cells true 0 [.int .i64 tu, .int .i64 le, .int .i64 sl, .int .i64 ra], .cells true 0 [.int .i64 0, .int .i64 0, .sl none 0 (some 0)], .cells (ownG (canonL (recL x0 y0 x1 y1)).length) 2 (prs (canonL (recL x0 y0 x1 y1))), .cells true 0 [.int .i64 (x0 + x1), .int .i64 (y0 + y1), .sl (some (H.length + 4, 0)) ((canonL (recL x0 y0 x1 y1)).length) (capG (canonL (recL x0 y0 x1 y1)).length)]]) ?_ ?_
  · skip
    simp -implicitDefEqProofs (disch := omega) only [f1, f2, f3, f4, f5, f6, f23, f24, f25, f26, f27, f28, h15d, h16d, h17d, h18d, h19d, h20d, h21d, h22d, f31, f32, f33, f34, f35, f36, h30d, hwx, hwy, aApp_nil, aApp_none, aApp_some, aApp_grw, simprocAttr, amset, tyset, Function.comp_apply, one1, lenV, calleeOf, lateOk, belowV, aop, AV.ofValue, AV.ofCell, AV.cells, AV.flat, AV.one, arep, aBin, aConv]
    repeat refine And.intro (by omega) ?_
    refine call_v (by kernel_rfl) (ofrect_0 _ x0 y0 x1 y1 (by assumption)) ?_
    simp -implicitDefEqProofs (disch := omega) only [f1, f2, f3, f4, f5, f6, f23, f24, f25, f26, f27, f28, h15d, h16d, h17d, h18d, h19d, h20d, h21d, h22d, f31, f32, f33, f34, f35, f36, h30d, hwx, hwy, aApp_nil, aApp_none, aApp_some, aApp_grw, simprocAttr, amset, tyset, Function.comp_apply, one1, lenV, calleeOf, lateOk, belowV, aop, AV.ofValue, AV.ofCell, AV.cells, AV.flat, AV.one, arep, aBin, aConv]
    repeat refine And.intro (by omega) ?_
    refine inv_of ?_
    simp -implicitDefEqProofs (disch := omega) only [f1, f2, f3, f4, f5, f6, f23, f24, f25, f26, f27, f28, f31, f32, f33, f34, f35, f36, absF, absH, W_refl', W_any', W_agg, W_tup, Ws_cons, Ws_refl', Wc_refl', Wcs_cons, Wcs_nil, look, List.cons_append, List.nil_append, List.append_nil, List.length_cons, List.length_nil, Nat.zero_add, Nat.reduceAdd, AV.mv, AV.mvs, ABlk.mv, sig_new0, sig_newk, sig_lt, List.getElem?_cons_zero, List.getElem?_cons_succ, mvs_ints, mvs_bools, mvs_prs, mvs_append, cond_true, cond_false, beq_self_eq_true, Nat.reduceBEq, true_and, and_true, or_true, true_or, and_self, decide_true, Nat.add_zero, reduceCtorEq, false_or, or_false]
    repeat' (first | exact True.intro | exact Nat.add_lt_add_left (by decide) _ | exact Nat.lt_add_of_pos_right (by decide) | refine W_nils ?_ (Or.inr rfl) | refine W_nils ?_ (Or.inl rfl) | refine Wc_nils ?_ (Or.inr rfl) | refine Wc_nils ?_ (Or.inl rfl) | exact W_cap | rfl | refine And.intro ?_ ?_ | exact Or.inl rfl | exact Or.inr rfl | exact Or.inr (Or.inl rfl) | exact Or.inr (Or.inr BW.emp) | exact Or.inr BW.emp | exact BW.emp | exact Or.inr (Or.inr BW.pre) | exact Or.inr BW.pre | exact BW.pre | refine Or.inr (BW.cells ?_) | refine BW.cells ?_ | refine Or.inr (Or.inr (BW.cells ?_)) | exact Wc_cap)
    all_goals first | assumption | trivial
  rintro F Hx ⟨f37, f38, f39, f40, f41, f42, rfl⟩
  refine AW_step false try_mixed (by kernel_rfl) (fun F Hx => (f == 0) = false ∧ look F 1 = .int .i64 h ∧ look F 6 = .ptr (some (H.length + 1, 0)) ∧ look F 7 = .ptr (some (H.length + 2, 0)) ∧ look F 8 = .ptr (some (H.length + 3, 0)) ∧ look F 9 = .int .i64 0 ∧ look F 10 = .ptr (some (H.length + 5, 0)) ∧ Hx = H ++ [.cells true 0 [.int .i64 x0, .int .i64 y0, .int .i64 x1, .int .i64 y1], .cells true 0 [.int .i64 t, .int .i64 f], .cells true 0 [.int .i64 tu, .int .i64 le, .int .i64 sl, .int .i64 ra], .cells true 0 [.int .i64 0, .int .i64 0, .sl none 0 (some 0)], .cells (ownG (canonL (recL x0 y0 x1 y1)).length) 2 (prs (canonL (recL x0 y0 x1 y1))), .cells true 0 [.int .i64 (x0 + x1), .int .i64 (y0 + y1), .sl (some (H.length + 4, 0)) ((canonL (recL x0 y0 x1 y1)).length) (capG (canonL (recL x0 y0 x1 y1)).length)]]) ?_ ?_
  · skip
    simp -implicitDefEqProofs (disch := omega) only [f1, f2, f3, f4, f5, f6, f23, f24, f25, f26, f27, f28, h15d, h16d, h17d, h18d, h19d, h20d, h21d, h22d, f31, f32, f33, f34, f35, f36, h30d, f37, f38, f39, f40, f41, f42, hwx, hwy, aApp_nil, aApp_none, aApp_some, aApp_grw, simprocAttr, amset, tyset, Function.comp_apply, one1, lenV, calleeOf, lateOk, belowV, aop, AV.ofValue, AV.ofCell, AV.cells, AV.flat, AV.one, arep, aBin, aConv]
    repeat refine And.intro (by omega) ?_
    refine cond_split (fun h43 => ?_) (fun h43 => ?_)
    · have h43d := h43
      try simp only [boolset, beq_iff_eq, ne_eq] at h43d
      have hfinF : f = 0 := h43d
      simp -implicitDefEqProofs (disch := omega) only [f1, f2, f3, f4, f5, f6, f23, f24, f25, f26, f27, f28, h15d, h16d, h17d, h18d, h19d, h20d, h21d, h22d, f31, f32, f33, f34, f35, f36, h30d, f37, f38, f39, f40, f41, f42, h43, h43d, int_bne, int_beq, hwx, hwy, aApp_nil, aApp_none, aApp_some, aApp_grw, simprocAttr, amset, tyset, Function.comp_apply, one1, lenV, calleeOf, lateOk, belowV, aop, AV.ofValue, AV.ofCell, AV.cells, AV.flat, AV.one, arep, aBin, aConv]
      repeat refine And.intro (by omega) ?_
      refine call_x (by kernel_rfl) (by simp) (square_c _ 20 (by omega)) ?_
      simp -implicitDefEqProofs (disch := omega) only [f1, f2, f3, f4, f5, f6, f23, f24, f25, f26, f27, f28, h15d, h16d, h17d, h18d, h19d, h20d, h21d, h22d, f31, f32, f33, f34, f35, f36, h30d, f37, f38, f39, f40, f41, f42, h43, h43d, int_bne, int_beq, hwx, hwy, aApp_nil, aApp_none, aApp_some, aApp_grw, simprocAttr, amset, tyset, Function.comp_apply, one1, lenV, calleeOf, lateOk, belowV, aop, AV.ofValue, AV.ofCell, AV.cells, AV.flat, AV.one, arep, aBin, aConv]
      repeat refine And.intro (by omega) ?_
      refine call_x (by kernel_rfl) (by simp) (Sum_0 _ (x0 + x1) (y0 + y1) _ (canonL (recL x0 y0 x1 y1)) 0 0 _ (canonL (sqrL 20)) ⟨_, _, _, by first | rfl | (rw [List.length_append]; done) | (rw [List.length_append]; rfl), by first | rfl | (rw [get_newk]; rfl) | (rw [get_new0]; rfl) | (rw [get_newk, prs_append]; rfl) | (rw [get_new0, prs_append]; rfl)⟩ ⟨_, _, _, by first | rfl | (rw [List.length_append]; done) | (rw [List.length_append]; rfl), by first | rfl | (rw [get_newk]; rfl) | (rw [get_new0]; rfl) | (rw [get_newk, prs_append]; rfl) | (rw [get_new0, prs_append]; rfl)⟩ (by assumption)) ?_
      simp -implicitDefEqProofs (disch := omega) only [f1, f2, f3, f4, f5, f6, f23, f24, f25, f26, f27, f28, h15d, h16d, h17d, h18d, h19d, h20d, h21d, h22d, f31, f32, f33, f34, f35, f36, h30d, f37, f38, f39, f40, f41, f42, h43, h43d, int_bne, int_beq, hwx, hwy, aApp_nil, aApp_none, aApp_some, aApp_grw, simprocAttr, amset, tyset, Function.comp_apply, one1, lenV, calleeOf, lateOk, belowV, aop, AV.ofValue, AV.ofCell, AV.cells, AV.flat, AV.one, arep, aBin, aConv]
      repeat refine And.intro (by omega) ?_
      refine hQ _ _ (end_byG (.inl rfl) hbel (x1 := .tup [.agg [.int .i64 ((x0 + x1) + 0), .int .i64 ((y0 + y1) + 0), .sl (some (H.length + 7, 0)) ((canonL ((canonL (recL x0 y0 x1 y1)) ++ (canonL (sqrL 20)))).length) (capG (canonL ((canonL (recL x0 y0 x1 y1)) ++ (canonL (sqrL 20)))).length)], .int .i64 0]) (l2 := [.cells (ownG (canonL ((canonL (recL x0 y0 x1 y1)) ++ (canonL (sqrL 20)))).length) 2 (prs (canonL ((canonL (recL x0 y0 x1 y1)) ++ (canonL (sqrL 20)))))]) (.tup [.agg [.int .i64 ((x0 + x1) + 0), .int .i64 ((y0 + y1) + 0), .sl (some (H.length, 0)) ((canonL ((canonL (recL x0 y0 x1 y1)) ++ (canonL (sqrL 20)))).length) (capG (canonL ((canonL (recL x0 y0 x1 y1)) ++ (canonL (sqrL 20)))).length)], .int .i64 0]) (ret_of Tryz.results13 (by simp -implicitDefEqProofs (disch := omega) only [f1, f2, f3, f4, f5, f6, f23, f24, f25, f26, f27, f28, f31, f32, f33, f34, f35, f36, f37, f38, f39, f40, f41, f42, simprocAttr, amset, tyset, Function.comp_apply, one1, lenV, calleeOf, lateOk, belowV, aop, AV.ofValue, AV.ofCell, AV.cells, AV.flat, AV.one, arep, aBin, aAppend, aConv])) [] rfl [7] (by decide) ⟨by first | (simp [mkX, mkL, sweE, sweB, capG_0, ownG_0, prs_nil, h15d, h16d, h17d, h18d, h19d, h20d, h21d, h22d, h30d, h43d, hfinE, hfinF]; done) | (simp [mkX, mkL, sweE, hok, capG_0, ownG_0, prs_nil, h15d, h16d, h17d, h18d, h19d, h20d, h21d, h22d, h30d, h43d, hfinE, hfinF]; done) | (rw [hfinE]; simp only [mkX_0, mkL_0, sweX, sweY, sweL, wayL, hlf, hfinF, if_true, if_false, sw_eq, ← sw_eq0, Int.add_zero]), by first | (simp [mkX, mkL, sweE, sweB, capG_0, ownG_0, prs_nil, h15d, h16d, h17d, h18d, h19d, h20d, h21d, h22d, h30d, h43d, hfinE, hfinF]; done) | (simp [mkX, mkL, sweE, hok, capG_0, ownG_0, prs_nil, h15d, h16d, h17d, h18d, h19d, h20d, h21d, h22d, h30d, h43d, hfinE, hfinF]; done) | (rw [hfinE]; simp only [mkX_0, mkL_0, sweX, sweY, sweL, wayL, hlf, hfinF, if_true, if_false, sw_eq, ← sw_eq0, Int.add_zero])⟩ ?_)
      simp -implicitDefEqProofs (disch := omega) only [W_nil0, W_nil1, W_cap', Wc_nil0, Wc_nil1, Wc_cap', absF, absH, W_refl', W_any', W_agg, W_tup, Ws_cons, Ws_refl', Wc_refl', Wcs_cons, Wcs_nil, look, List.cons_append, List.nil_append, List.append_nil, List.length_cons, List.length_nil, Nat.zero_add, Nat.reduceAdd, AV.mv, AV.mvs, ABlk.mv, sig_new0, sig_newk, sig_lt, List.getElem?_cons_zero, List.getElem?_cons_succ, mvs_ints, mvs_bools, mvs_prs, mvs_append, cond_true, cond_false, beq_self_eq_true, Nat.reduceBEq, true_and, and_true, or_true, true_or, and_self, decide_true, Nat.add_zero, reduceCtorEq, false_or, or_false]
      repeat' (first | exact True.intro | exact Nat.add_lt_add_left (by decide) _ | exact Nat.lt_add_of_pos_right (by decide) | refine W_nils ?_ (Or.inr rfl) | refine W_nils ?_ (Or.inl rfl) | refine Wc_nils ?_ (Or.inr rfl) | refine Wc_nils ?_ (Or.inl rfl) | exact W_cap | rfl | refine And.intro ?_ ?_ | exact Or.inl rfl | exact Or.inr rfl | exact Or.inr (Or.inl rfl) | exact Or.inr (Or.inr BW.emp) | exact Or.inr BW.emp | exact BW.emp | exact Or.inr (Or.inr BW.pre) | exact Or.inr BW.pre | exact BW.pre | refine Or.inr (BW.cells ?_) | refine BW.cells ?_ | refine Or.inr (Or.inr (BW.cells ?_)) | exact Wc_cap)
    · have h43d := h43
      try simp only [boolset, beq_iff_eq, ne_eq] at h43d
      simp -implicitDefEqProofs (disch := omega) only [f1, f2, f3, f4, f5, f6, f23, f24, f25, f26, f27, f28, h15d, h16d, h17d, h18d, h19d, h20d, h21d, h22d, f31, f32, f33, f34, f35, f36, h30d, f37, f38, f39, f40, f41, f42, h43, h43d, int_bne, int_beq, hwx, hwy, aApp_nil, aApp_none, aApp_some, aApp_grw, simprocAttr, amset, tyset, Function.comp_apply, one1, lenV, calleeOf, lateOk, belowV, aop, AV.ofValue, AV.ofCell, AV.cells, AV.flat, AV.one, arep, aBin, aConv]
      repeat refine And.intro (by omega) ?_
      refine inv_of ?_
      simp -implicitDefEqProofs (disch := omega) only [f1, f2, f3, f4, f5, f6, f23, f24, f25, f26, f27, f28, f31, f32, f33, f34, f35, f36, f37, f38, f39, f40, f41, f42, absF, absH, W_refl', W_any', W_agg, W_tup, Ws_cons, Ws_refl', Wc_refl', Wcs_cons, Wcs_nil, look, List.cons_append, List.nil_append, List.append_nil, List.length_cons, List.length_nil, Nat.zero_add, Nat.reduceAdd, AV.mv, AV.mvs, ABlk.mv, sig_new0, sig_newk, sig_lt, List.getElem?_cons_zero, List.getElem?_cons_succ, mvs_ints, mvs_bools, mvs_prs, mvs_append, cond_true, cond_false, beq_self_eq_true, Nat.reduceBEq, true_and, and_true, or_true, true_or, and_self, decide_true, Nat.add_zero, reduceCtorEq, false_or, or_false]
      repeat' (first | exact True.intro | exact Nat.add_lt_add_left (by decide) _ | exact Nat.lt_add_of_pos_right (by decide) | refine W_nils ?_ (Or.inr rfl) | refine W_nils ?_ (Or.inl rfl) | refine Wc_nils ?_ (Or.inr rfl) | refine Wc_nils ?_ (Or.inl rfl) | exact W_cap | rfl | refine And.intro ?_ ?_ | exact Or.inl rfl | exact Or.inr rfl | exact Or.inr (Or.inl rfl) | exact Or.inr (Or.inr BW.emp) | exact Or.inr BW.emp | exact BW.emp | exact Or.inr (Or.inr BW.pre) | exact Or.inr BW.pre | exact BW.pre | refine Or.inr (BW.cells ?_) | refine BW.cells ?_ | refine Or.inr (Or.inr (BW.cells ?_)) | exact Wc_cap)
      all_goals first | assumption | trivial
  rintro F Hx ⟨h44d, f45, f46, f47, f48, f49, f50, rfl⟩
  have hfinF : ¬ f = 0 := by simpa using h44d
  have hdv := vecOK_iff.1 (dirV_ok h)
  have hpx := mul_bd (a := f + le) (b := (dirV h).1) (A := 48) (B := 8065) (by omega) (by omega)
  have hpy := mul_bd (a := f + le) (b := (dirV h).2.1) (A := 48) (B := 8065) (by omega) (by omega)
  have hwb := way_bd h (m := f + le) (by omega)
  have hws := way_spr (h := h) (m := f + le) (by omega)
  have hwe : segE 0 0 (wayX h (f + le)) (wayY h (f + le)) = 0 := if_pos ⟨by unfold far4; simp only [Bool.and_eq_true, within_iff]; omega, by rw [within_iff]; omega, by rw [within_iff]; omega⟩
  have hz1 : sumE (x0 + x1) (y0 + y1) (canonL (recL x0 y0 x1 y1)) (wayX h (f + le)) (wayY h (f + le)) (canonL [(wayX h (f + le), wayY h (f + le))]) = 0 := sum_ok (by omega) (by omega) (by omega) (by omega) (by simp [recL]) (by omega) (by omega)
  have hz2 : sumE (x0 + x1 + wayX h (f + le)) (y0 + y1 + wayY h (f + le)) (canonL (canonL (recL x0 y0 x1 y1) ++ canonL [(wayX h (f + le), wayY h (f + le))])) 0 0 (canonL (sqrL (sl + 21))) = 0 := sum_ok (by omega) (by omega) (by omega) (by omega) (by have a1 := canonL_len (recL x0 y0 x1 y1); have a2 := canonL_len [(wayX h (f + le), wayY h (f + le))]; have a3 : (recL x0 y0 x1 y1).length = 2 := rfl; have a4 : (sqrL (sl + 21)).length = 2 := rfl; rw [List.length_append]; simp only [List.length_cons, List.length_nil] at a2; omega) (by rw [spr_app, spr_canon, spr_canon]; omega) (by rw [spr_app, spr_canon, spr_canon]; omega)
  refine AW_special false try_mixed [[0, 1, 2, 3, 4, 5, 6, 7, 8, 9], [0, 1, 2, 3, 4, 7, 8, 5, 6, 9], [0, 1, 2, 4, 5, 7, 8, 3, 6, 9], [0, 1, 2, 4, 7, 8, 3, 5, 6, 9], [0, 2, 3, 4, 5, 6, 7, 1, 8, 9], [0, 2, 3, 4, 7, 1, 8, 5, 6, 9], [0, 2, 4, 5, 7, 1, 8, 3, 6, 9], [0, 2, 4, 7, 1, 8, 3, 5, 6, 9]] (by kernel_rfl) (fun F2 H2 => F2 = [(7, .ptr (some (H.length, 0))), (8, .ptr (some (H.length + 1, 0))), (9, .int .i64 0), (10, .ptr (some (H.length + 3, 0))), (12, .ptr (some (H.length + 4, 0))), (13, .int .i64 (f + le))] ∧ H2 = H ++ [.cells true 0 [.int .i64 tu, .int .i64 le, .int .i64 sl, .int .i64 ra], .cells true 0 [.int .i64 0, .int .i64 0, .sl none 0 (some 0)], .cells (ownG (canonL (recL x0 y0 x1 y1)).length) 2 (prs (canonL (recL x0 y0 x1 y1))), .cells true 0 [.int .i64 (x0 + x1), .int .i64 (y0 + y1), .sl (some (H.length + 2, 0)) ((canonL (recL x0 y0 x1 y1)).length) (capG (canonL (recL x0 y0 x1 y1)).length)], .cells true 0 [.int .i64 ((dirV h).1), .int .i64 ((dirV h).2.1), .int .i64 ((dirV h).2.2)]]) ?_ ?_
  · refine reps_cons ?_ (reps_cons ?_ (reps_cons ?_ (reps_cons ?_ (reps_cons ?_ (reps_cons ?_ (reps_cons ?_ (reps_cons ?_ (reps_nil)))))))) <;> intro J hJ
    · skip
      simp -implicitDefEqProofs (disch := omega) only [f1, f2, f3, f4, f5, f6, f23, f24, f25, f26, f27, f28, h15d, h16d, h17d, h18d, h19d, h20d, h21d, h22d, f31, f32, f33, f34, f35, f36, h30d, f37, f38, f39, f40, f41, f42, f45, f46, f47, f48, f49, f50, h44d, pickL, hwx, hwy, aApp_nil, aApp_none, aApp_some, aApp_grw, simprocAttr, amset, tyset, Function.comp_apply, one1, lenV, calleeOf, lateOk, belowV, aop, AV.ofValue, AV.ofCell, AV.cells, AV.flat, AV.one, arep, aBin, aConv]
      repeat refine And.intro (by omega) ?_
      refine call_d (by kernel_rfl) (dir_c _ h) ?_
      simp -implicitDefEqProofs (disch := omega) only [f1, f2, f3, f4, f5, f6, f23, f24, f25, f26, f27, f28, h15d, h16d, h17d, h18d, h19d, h20d, h21d, h22d, f31, f32, f33, f34, f35, f36, h30d, f37, f38, f39, f40, f41, f42, f45, f46, f47, f48, f49, f50, h44d, pickL, hwx, hwy, aApp_nil, aApp_none, aApp_some, aApp_grw, simprocAttr, amset, tyset, Function.comp_apply, one1, lenV, calleeOf, lateOk, belowV, aop, AV.ofValue, AV.ofCell, AV.cells, AV.flat, AV.one, arep, aBin, aConv]
      repeat refine And.intro (by omega) ?_
      refine inv_of (hJ _ _ ⟨_, _, _, ⟨rfl, rfl⟩, Abs.byG hbel [] rfl [2, 3, 4, 5, 6] (by decide) ?_⟩)
      simp -implicitDefEqProofs (disch := omega) only [f1, f2, f3, f4, f5, f6, f23, f24, f25, f26, f27, f28, f31, f32, f33, f34, f35, f36, f37, f38, f39, f40, f41, f42, f45, f46, f47, f48, f49, f50, List.length_append, List.length_cons, List.length_nil, capG_s, ownG_s, capG_0, ownG_0, prs_append, prs_cons, prs_nil, W_nil0, W_nil1, W_cap', Wc_nil0, Wc_nil1, Wc_cap', absF, absH, W_refl', W_any', W_agg, W_tup, Ws_cons, Ws_refl', Wc_refl', Wcs_cons, Wcs_nil, look, List.cons_append, List.nil_append, List.append_nil, List.length_cons, List.length_nil, Nat.zero_add, Nat.reduceAdd, AV.mv, AV.mvs, ABlk.mv, sig_new0, sig_newk, sig_lt, List.getElem?_cons_zero, List.getElem?_cons_succ, mvs_ints, mvs_bools, mvs_prs, mvs_append, cond_true, cond_false, beq_self_eq_true, Nat.reduceBEq, true_and, and_true, or_true, true_or, and_self, decide_true, Nat.add_zero, reduceCtorEq, false_or, or_false]
      repeat' (first | exact True.intro | exact Nat.add_lt_add_left (by decide) _ | exact Nat.lt_add_of_pos_right (by decide) | refine W_nils ?_ (Or.inr rfl) | refine W_nils ?_ (Or.inl rfl) | refine Wc_nils ?_ (Or.inr rfl) | refine Wc_nils ?_ (Or.inl rfl) | exact W_cap | rfl | refine And.intro ?_ ?_ | exact Or.inl rfl | exact Or.inr rfl | exact Or.inr (Or.inl rfl) | exact Or.inr (Or.inr BW.emp) | exact Or.inr BW.emp | exact BW.emp | exact Or.inr (Or.inr BW.pre) | exact Or.inr BW.pre | exact BW.pre | refine Or.inr (BW.cells ?_) | refine BW.cells ?_ | refine Or.inr (Or.inr (BW.cells ?_)) | exact Wc_cap)
    · skip
      simp -implicitDefEqProofs (disch := omega) only [f1, f2, f3, f4, f5, f6, f23, f24, f25, f26, f27, f28, h15d, h16d, h17d, h18d, h19d, h20d, h21d, h22d, f31, f32, f33, f34, f35, f36, h30d, f37, f38, f39, f40, f41, f42, f45, f46, f47, f48, f49, f50, h44d, pickL, hwx, hwy, aApp_nil, aApp_none, aApp_some, aApp_grw, simprocAttr, amset, tyset, Function.comp_apply, one1, lenV, calleeOf, lateOk, belowV, aop, AV.ofValue, AV.ofCell, AV.cells, AV.flat, AV.one, arep, aBin, aConv]
      repeat refine And.intro (by omega) ?_
      refine call_d (by kernel_rfl) (dir_c _ h) ?_
      simp -implicitDefEqProofs (disch := omega) only [f1, f2, f3, f4, f5, f6, f23, f24, f25, f26, f27, f28, h15d, h16d, h17d, h18d, h19d, h20d, h21d, h22d, f31, f32, f33, f34, f35, f36, h30d, f37, f38, f39, f40, f41, f42, f45, f46, f47, f48, f49, f50, h44d, pickL, hwx, hwy, aApp_nil, aApp_none, aApp_some, aApp_grw, simprocAttr, amset, tyset, Function.comp_apply, one1, lenV, calleeOf, lateOk, belowV, aop, AV.ofValue, AV.ofCell, AV.cells, AV.flat, AV.one, arep, aBin, aConv]
      repeat refine And.intro (by omega) ?_
      refine inv_of (hJ _ _ ⟨_, _, _, ⟨rfl, rfl⟩, Abs.byG hbel [] rfl [2, 3, 4, 5, 6] (by decide) ?_⟩)
      simp -implicitDefEqProofs (disch := omega) only [f1, f2, f3, f4, f5, f6, f23, f24, f25, f26, f27, f28, f31, f32, f33, f34, f35, f36, f37, f38, f39, f40, f41, f42, f45, f46, f47, f48, f49, f50, List.length_append, List.length_cons, List.length_nil, capG_s, ownG_s, capG_0, ownG_0, prs_append, prs_cons, prs_nil, W_nil0, W_nil1, W_cap', Wc_nil0, Wc_nil1, Wc_cap', absF, absH, W_refl', W_any', W_agg, W_tup, Ws_cons, Ws_refl', Wc_refl', Wcs_cons, Wcs_nil, look, List.cons_append, List.nil_append, List.append_nil, List.length_cons, List.length_nil, Nat.zero_add, Nat.reduceAdd, AV.mv, AV.mvs, ABlk.mv, sig_new0, sig_newk, sig_lt, List.getElem?_cons_zero, List.getElem?_cons_succ, mvs_ints, mvs_bools, mvs_prs, mvs_append, cond_true, cond_false, beq_self_eq_true, Nat.reduceBEq, true_and, and_true, or_true, true_or, and_self, decide_true, Nat.add_zero, reduceCtorEq, false_or, or_false]
      repeat' (first | exact True.intro | exact Nat.add_lt_add_left (by decide) _ | exact Nat.lt_add_of_pos_right (by decide) | refine W_nils ?_ (Or.inr rfl) | refine W_nils ?_ (Or.inl rfl) | refine Wc_nils ?_ (Or.inr rfl) | refine Wc_nils ?_ (Or.inl rfl) | exact W_cap | rfl | refine And.intro ?_ ?_ | exact Or.inl rfl | exact Or.inr rfl | exact Or.inr (Or.inl rfl) | exact Or.inr (Or.inr BW.emp) | exact Or.inr BW.emp | exact BW.emp | exact Or.inr (Or.inr BW.pre) | exact Or.inr BW.pre | exact BW.pre | refine Or.inr (BW.cells ?_) | refine BW.cells ?_ | refine Or.inr (Or.inr (BW.cells ?_)) | exact Wc_cap)
    · skip
      simp -implicitDefEqProofs (disch := omega) only [f1, f2, f3, f4, f5, f6, f23, f24, f25, f26, f27, f28, h15d, h16d, h17d, h18d, h19d, h20d, h21d, h22d, f31, f32, f33, f34, f35, f36, h30d, f37, f38, f39, f40, f41, f42, f45, f46, f47, f48, f49, f50, h44d, pickL, hwx, hwy, aApp_nil, aApp_none, aApp_some, aApp_grw, simprocAttr, amset, tyset, Function.comp_apply, one1, lenV, calleeOf, lateOk, belowV, aop, AV.ofValue, AV.ofCell, AV.cells, AV.flat, AV.one, arep, aBin, aConv]
      repeat refine And.intro (by omega) ?_
      refine call_d (by kernel_rfl) (dir_c _ h) ?_
      simp -implicitDefEqProofs (disch := omega) only [f1, f2, f3, f4, f5, f6, f23, f24, f25, f26, f27, f28, h15d, h16d, h17d, h18d, h19d, h20d, h21d, h22d, f31, f32, f33, f34, f35, f36, h30d, f37, f38, f39, f40, f41, f42, f45, f46, f47, f48, f49, f50, h44d, pickL, hwx, hwy, aApp_nil, aApp_none, aApp_some, aApp_grw, simprocAttr, amset, tyset, Function.comp_apply, one1, lenV, calleeOf, lateOk, belowV, aop, AV.ofValue, AV.ofCell, AV.cells, AV.flat, AV.one, arep, aBin, aConv]
      repeat refine And.intro (by omega) ?_
      refine inv_of (hJ _ _ ⟨_, _, _, ⟨rfl, rfl⟩, Abs.byG hbel [] rfl [2, 3, 4, 5, 6] (by decide) ?_⟩)
      simp -implicitDefEqProofs (disch := omega) only [f1, f2, f3, f4, f5, f6, f23, f24, f25, f26, f27, f28, f31, f32, f33, f34, f35, f36, f37, f38, f39, f40, f41, f42, f45, f46, f47, f48, f49, f50, List.length_append, List.length_cons, List.length_nil, capG_s, ownG_s, capG_0, ownG_0, prs_append, prs_cons, prs_nil, W_nil0, W_nil1, W_cap', Wc_nil0, Wc_nil1, Wc_cap', absF, absH, W_refl', W_any', W_agg, W_tup, Ws_cons, Ws_refl', Wc_refl', Wcs_cons, Wcs_nil, look, List.cons_append, List.nil_append, List.append_nil, List.length_cons, List.length_nil, Nat.zero_add, Nat.reduceAdd, AV.mv, AV.mvs, ABlk.mv, sig_new0, sig_newk, sig_lt, List.getElem?_cons_zero, List.getElem?_cons_succ, mvs_ints, mvs_bools, mvs_prs, mvs_append, cond_true, cond_false, beq_self_eq_true, Nat.reduceBEq, true_and, and_true, or_true, true_or, and_self, decide_true, Nat.add_zero, reduceCtorEq, false_or, or_false]
      repeat' (first | exact True.intro | exact Nat.add_lt_add_left (by decide) _ | exact Nat.lt_add_of_pos_right (by decide) | refine W_nils ?_ (Or.inr rfl) | refine W_nils ?_ (Or.inl rfl) | refine Wc_nils ?_ (Or.inr rfl) | refine Wc_nils ?_ (Or.inl rfl) | exact W_cap | rfl | refine And.intro ?_ ?_ | exact Or.inl rfl | exact Or.inr rfl | exact Or.inr (Or.inl rfl) | exact Or.inr (Or.inr BW.emp) | exact Or.inr BW.emp | exact BW.emp | exact Or.inr (Or.inr BW.pre) | exact Or.inr BW.pre | exact BW.pre | refine Or.inr (BW.cells ?_) | refine BW.cells ?_ | refine Or.inr (Or.inr (BW.cells ?_)) | exact Wc_cap)
    · skip
      simp -implicitDefEqProofs (disch := omega) only [f1, f2, f3, f4, f5, f6, f23, f24, f25, f26, f27, f28, h15d, h16d, h17d, h18d, h19d, h20d, h21d, h22d, f31, f32, f33, f34, f35, f36, h30d, f37, f38, f39, f40, f41, f42, f45, f46, f47, f48, f49, f50, h44d, pickL, hwx, hwy, aApp_nil, aApp_none, aApp_some, aApp_grw, simprocAttr, amset, tyset, Function.comp_apply, one1, lenV, calleeOf, lateOk, belowV, aop, AV.ofValue, AV.ofCell, AV.cells, AV.flat, AV.one, arep, aBin, aConv]
      repeat refine And.intro (by omega) ?_
      refine call_d (by kernel_rfl) (dir_c _ h) ?_
      simp -implicitDefEqProofs (disch := omega) only [f1, f2, f3, f4, f5, f6, f23, f24, f25, f26, f27, f28, h15d, h16d, h17d, h18d, h19d, h20d, h21d, h22d, f31, f32, f33, f34, f35, f36, h30d, f37, f38, f39, f40, f41, f42, f45, f46, f47, f48, f49, f50, h44d, pickL, hwx, hwy, aApp_nil, aApp_none, aApp_some, aApp_grw, simprocAttr, amset, tyset, Function.comp_apply, one1, lenV, calleeOf, lateOk, belowV, aop, AV.ofValue, AV.ofCell, AV.cells, AV.flat, AV.one, arep, aBin, aConv]
      repeat refine And.intro (by omega) ?_
      refine inv_of (hJ _ _ ⟨_, _, _, ⟨rfl, rfl⟩, Abs.byG hbel [] rfl [2, 3, 4, 5, 6] (by decide) ?_⟩)
      simp -implicitDefEqProofs (disch := omega) only [f1, f2, f3, f4, f5, f6, f23, f24, f25, f26, f27, f28, f31, f32, f33, f34, f35, f36, f37, f38, f39, f40, f41, f42, f45, f46, f47, f48, f49, f50, List.length_append, List.length_cons, List.length_nil, capG_s, ownG_s, capG_0, ownG_0, prs_append, prs_cons, prs_nil, W_nil0, W_nil1, W_cap', Wc_nil0, Wc_nil1, Wc_cap', absF, absH, W_refl', W_any', W_agg, W_tup, Ws_cons, Ws_refl', Wc_refl', Wcs_cons, Wcs_nil, look, List.cons_append, List.nil_append, List.append_nil, List.length_cons, List.length_nil, Nat.zero_add, Nat.reduceAdd, AV.mv, AV.mvs, ABlk.mv, sig_new0, sig_newk, sig_lt, List.getElem?_cons_zero, List.getElem?_cons_succ, mvs_ints, mvs_bools, mvs_prs, mvs_append, cond_true, cond_false, beq_self_eq_true, Nat.reduceBEq, true_and, and_true, or_true, true_or, and_self, decide_true, Nat.add_zero, reduceCtorEq, false_or, or_false]
      repeat' (first | exact True.intro | exact Nat.add_lt_add_left (by decide) _ | exact Nat.lt_add_of_pos_right (by decide) | refine W_nils ?_ (Or.inr rfl) | refine W_nils ?_ (Or.inl rfl) | refine Wc_nils ?_ (Or.inr rfl) | refine Wc_nils ?_ (Or.inl rfl) | exact W_cap | rfl | refine And.intro ?_ ?_ | exact Or.inl rfl | exact Or.inr rfl | exact Or.inr (Or.inl rfl) | exact Or.inr (Or.inr BW.emp) | exact Or.inr BW.emp | exact BW.emp | exact Or.inr (Or.inr BW.pre) | exact Or.inr BW.pre | exact BW.pre | refine Or.inr (BW.cells ?_) | refine BW.cells ?_ | refine Or.inr (Or.inr (BW.cells ?_)) | exact Wc_cap)
    · skip
      simp -implicitDefEqProofs (disch := omega) only [f1, f2, f3, f4, f5, f6, f23, f24, f25, f26, f27, f28, h15d, h16d, h17d, h18d, h19d, h20d, h21d, h22d, f31, f32, f33, f34, f35, f36, h30d, f37, f38, f39, f40, f41, f42, f45, f46, f47, f48, f49, f50, h44d, pickL, hwx, hwy, aApp_nil, aApp_none, aApp_some, aApp_grw, simprocAttr, amset, tyset, Function.comp_apply, one1, lenV, calleeOf, lateOk, belowV, aop, AV.ofValue, AV.ofCell, AV.cells, AV.flat, AV.one, arep, aBin, aConv]
      repeat refine And.intro (by omega) ?_
      refine call_d (by kernel_rfl) (dir_c _ h) ?_
      simp -implicitDefEqProofs (disch := omega) only [f1, f2, f3, f4, f5, f6, f23, f24, f25, f26, f27, f28, h15d, h16d, h17d, h18d, h19d, h20d, h21d, h22d, f31, f32, f33, f34, f35, f36, h30d, f37, f38, f39, f40, f41, f42, f45, f46, f47, f48, f49, f50, h44d, pickL, hwx, hwy, aApp_nil, aApp_none, aApp_some, aApp_grw, simprocAttr, amset, tyset, Function.comp_apply, one1, lenV, calleeOf, lateOk, belowV, aop, AV.ofValue, AV.ofCell, AV.cells, AV.flat, AV.one, arep, aBin, aConv]
      repeat refine And.intro (by omega) ?_
      refine inv_of (hJ _ _ ⟨_, _, _, ⟨rfl, rfl⟩, Abs.byG hbel [] rfl [2, 3, 4, 5, 6] (by decide) ?_⟩)
      simp -implicitDefEqProofs (disch := omega) only [f1, f2, f3, f4, f5, f6, f23, f24, f25, f26, f27, f28, f31, f32, f33, f34, f35, f36, f37, f38, f39, f40, f41, f42, f45, f46, f47, f48, f49, f50, List.length_append, List.length_cons, List.length_nil, capG_s, ownG_s, capG_0, ownG_0, prs_append, prs_cons, prs_nil, W_nil0, W_nil1, W_cap', Wc_nil0, Wc_nil1, Wc_cap', absF, absH, W_refl', W_any', W_agg, W_tup, Ws_cons, Ws_refl', Wc_refl', Wcs_cons, Wcs_nil, look, List.cons_append, List.nil_append, List.append_nil, List.length_cons, List.length_nil, Nat.zero_add, Nat.reduceAdd, AV.mv, AV.mvs, ABlk.mv, sig_new0, sig_newk, sig_lt, List.getElem?_cons_zero, List.getElem?_cons_succ, mvs_ints, mvs_bools, mvs_prs, mvs_append, cond_true, cond_false, beq_self_eq_true, Nat.reduceBEq, true_and, and_true, or_true, true_or, and_self, decide_true, Nat.add_zero, reduceCtorEq, false_or, or_false]
      repeat' (first | exact True.intro | exact Nat.add_lt_add_left (by decide) _ | exact Nat.lt_add_of_pos_right (by decide) | refine W_nils ?_ (Or.inr rfl) | refine W_nils ?_ (Or.inl rfl) | refine Wc_nils ?_ (Or.inr rfl) | refine Wc_nils ?_ (Or.inl rfl) | exact W_cap | rfl | refine And.intro ?_ ?_ | exact Or.inl rfl | exact Or.inr rfl | exact Or.inr (Or.inl rfl) | exact Or.inr (Or.inr BW.emp) | exact Or.inr BW.emp | exact BW.emp | exact Or.inr (Or.inr BW.pre) | exact Or.inr BW.pre | exact BW.pre | refine Or.inr (BW.cells ?_) | refine BW.cells ?_ | refine Or.inr (Or.inr (BW.cells ?_)) | exact Wc_cap)
    · skip
      simp -implicitDefEqProofs (disch := omega) only [f1, f2, f3, f4, f5, f6, f23, f24, f25, f26, f27, f28, h15d, h16d, h17d, h18d, h19d, h20d, h21d, h22d, f31, f32, f33, f34, f35, f36, h30d, f37, f38, f39, f40, f41, f42, f45, f46, f47, f48, f49, f50, h44d, pickL, hwx, hwy, aApp_nil, aApp_none, aApp_some, aApp_grw, simprocAttr, amset, tyset, Function.comp_apply, one1, lenV, calleeOf, lateOk, belowV, aop, AV.ofValue, AV.ofCell, AV.cells, AV.flat, AV.one, arep, aBin, aConv]
      repeat refine And.intro (by omega) ?_
      refine call_d (by kernel_rfl) (dir_c _ h) ?_
      simp -implicitDefEqProofs (disch := omega) only [f1, f2, f3, f4, f5, f6, f23, f24, f25, f26, f27, f28, h15d, h16d, h17d, h18d, h19d, h20d, h21d, h22d, f31, f32, f33, f34, f35, f36, h30d, f37, f38, f39, f40, f41, f42, f45, f46, f47, f48, f49, f50, h44d, pickL, hwx, hwy, aApp_nil, aApp_none, aApp_some, aApp_grw, simprocAttr, amset, tyset, Function.comp_apply, one1, lenV, calleeOf, lateOk, belowV, aop, AV.ofValue, AV.ofCell, AV.cells, AV.flat, AV.one, arep, aBin, aConv]
      repeat refine And.intro (by omega) ?_
      refine inv_of (hJ _ _ ⟨_, _, _, ⟨rfl, rfl⟩, Abs.byG hbel [] rfl [2, 3, 4, 5, 6] (by decide) ?_⟩)
      simp -implicitDefEqProofs (disch := omega) only [f1, f2, f3, f4, f5, f6, f23, f24, f25, f26, f27, f28, f31, f32, f33, f34, f35, f36, f37, f38, f39, f40, f41, f42, f45, f46, f47, f48, f49, f50, List.length_append, List.length_cons, List.length_nil, capG_s, ownG_s, capG_0, ownG_0, prs_append, prs_cons, prs_nil, W_nil0, W_nil1, W_cap', Wc_nil0, Wc_nil1, Wc_cap', absF, absH, W_refl', W_any', W_agg, W_tup, Ws_cons, Ws_refl', Wc_refl', Wcs_cons, Wcs_nil, look, List.cons_append, List.nil_append, List.append_nil, List.length_cons, List.length_nil, Nat.zero_add, Nat.reduceAdd, AV.mv, AV.mvs, ABlk.mv, sig_new0, sig_newk, sig_lt, List.getElem?_cons_zero, List.getElem?_cons_succ, mvs_ints, mvs_bools, mvs_prs, mvs_append, cond_true, cond_false, beq_self_eq_true, Nat.reduceBEq, true_and, and_true, or_true, true_or, and_self, decide_true, Nat.add_zero, reduceCtorEq, false_or, or_false]
      repeat' (first | exact True.intro | exact Nat.add_lt_add_left (by decide) _ | exact Nat.lt_add_of_pos_right (by decide) | refine W_nils ?_ (Or.inr rfl) | refine W_nils ?_ (Or.inl rfl) | refine Wc_nils ?_ (Or.inr rfl) | refine Wc_nils ?_ (Or.inl rfl) | exact W_cap | rfl | refine And.intro ?_ ?_ | exact Or.inl rfl | exact Or.inr rfl | exact Or.inr (Or.inl rfl) | exact Or.inr (Or.inr BW.emp) | exact Or.inr BW.emp | exact BW.emp | exact Or.inr (Or.inr BW.pre) | exact Or.inr BW.pre | exact BW.pre | refine Or.inr (BW.cells ?_) | refine BW.cells ?_ | refine Or.inr (Or.inr (BW.cells ?_)) | exact Wc_cap)
    · skip
      simp -implicitDefEqProofs (disch := omega) only [f1, f2, f3, f4, f5, f6, f23, f24, f25, f26, f27, f28, h15d, h16d, h17d, h18d, h19d, h20d, h21d, h22d, f31, f32, f33, f34, f35, f36, h30d, f37, f38, f39, f40, f41, f42, f45, f46, f47, f48, f49, f50, h44d, pickL, hwx, hwy, aApp_nil, aApp_none, aApp_some, aApp_grw, simprocAttr, amset, tyset, Function.comp_apply, one1, lenV, calleeOf, lateOk, belowV, aop, AV.ofValue, AV.ofCell, AV.cells, AV.flat, AV.one, arep, aBin, aConv]
      repeat refine And.intro (by omega) ?_
      refine call_d (by kernel_rfl) (dir_c _ h) ?_
      simp -implicitDefEqProofs (disch := omega) only [f1, f2, f3, f4, f5, f6, f23, f24, f25, f26, f27, f28, h15d, h16d, h17d, h18d, h19d, h20d, h21d, h22d, f31, f32, f33, f34, f35, f36, h30d, f37, f38, f39, f40, f41, f42, f45, f46, f47, f48, f49, f50, h44d, pickL, hwx, hwy, aApp_nil, aApp_none, aApp_some, aApp_grw, simprocAttr, amset, tyset, Function.comp_apply, one1, lenV, calleeOf, lateOk, belowV, aop, AV.ofValue, AV.ofCell, AV.cells, AV.flat, AV.one, arep, aBin, aConv]
      repeat refine And.intro (by omega) ?_
      refine inv_of (hJ _ _ ⟨_, _, _, ⟨rfl, rfl⟩, Abs.byG hbel [] rfl [2, 3, 4, 5, 6] (by decide) ?_⟩)
      simp -implicitDefEqProofs (disch := omega) only [f1, f2, f3, f4, f5, f6, f23, f24, f25, f26, f27, f28, f31, f32, f33, f34, f35, f36, f37, f38, f39, f40, f41, f42, f45, f46, f47, f48, f49, f50, List.length_append, List.length_cons, List.length_nil, capG_s, ownG_s, capG_0, ownG_0, prs_append, prs_cons, prs_nil, W_nil0, W_nil1, W_cap', Wc_nil0, Wc_nil1, Wc_cap', absF, absH, W_refl', W_any', W_agg, W_tup, Ws_cons, Ws_refl', Wc_refl', Wcs_cons, Wcs_nil, look, List.cons_append, List.nil_append, List.append_nil, List.length_cons, List.length_nil, Nat.zero_add, Nat.reduceAdd, AV.mv, AV.mvs, ABlk.mv, sig_new0, sig_newk, sig_lt, List.getElem?_cons_zero, List.getElem?_cons_succ, mvs_ints, mvs_bools, mvs_prs, mvs_append, cond_true, cond_false, beq_self_eq_true, Nat.reduceBEq, true_and, and_true, or_true, true_or, and_self, decide_true, Nat.add_zero, reduceCtorEq, false_or, or_false]
      repeat' (first | exact True.intro | exact Nat.add_lt_add_left (by decide) _ | exact Nat.lt_add_of_pos_right (by decide) | refine W_nils ?_ (Or.inr rfl) | refine W_nils ?_ (Or.inl rfl) | refine Wc_nils ?_ (Or.inr rfl) | refine Wc_nils ?_ (Or.inl rfl) | exact W_cap | rfl | refine And.intro ?_ ?_ | exact Or.inl rfl | exact Or.inr rfl | exact Or.inr (Or.inl rfl) | exact Or.inr (Or.inr BW.emp) | exact Or.inr BW.emp | exact BW.emp | exact Or.inr (Or.inr BW.pre) | exact Or.inr BW.pre | exact BW.pre | refine Or.inr (BW.cells ?_) | refine BW.cells ?_ | refine Or.inr (Or.inr (BW.cells ?_)) | exact Wc_cap)
    · skip
      simp -implicitDefEqProofs (disch := omega) only [f1, f2, f3, f4, f5, f6, f23, f24, f25, f26, f27, f28, h15d, h16d, h17d, h18d, h19d, h20d, h21d, h22d, f31, f32, f33, f34, f35, f36, h30d, f37, f38, f39, f40, f41, f42, f45, f46, f47, f48, f49, f50, h44d, pickL, hwx, hwy, aApp_nil, aApp_none, aApp_some, aApp_grw, simprocAttr, amset, tyset, Function.comp_apply, one1, lenV, calleeOf, lateOk, belowV, aop, AV.ofValue, AV.ofCell, AV.cells, AV.flat, AV.one, arep, aBin, aConv]
      repeat refine And.intro (by omega) ?_
      refine call_d (by kernel_rfl) (dir_c _ h) ?_
      simp -implicitDefEqProofs (disch := omega) only [f1, f2, f3, f4, f5, f6, f23, f24, f25, f26, f27, f28, h15d, h16d, h17d, h18d, h19d, h20d, h21d, h22d, f31, f32, f33, f34, f35, f36, h30d, f37, f38, f39, f40, f41, f42, f45, f46, f47, f48, f49, f50, h44d, pickL, hwx, hwy, aApp_nil, aApp_none, aApp_some, aApp_grw, simprocAttr, amset, tyset, Function.comp_apply, one1, lenV, calleeOf, lateOk, belowV, aop, AV.ofValue, AV.ofCell, AV.cells, AV.flat, AV.one, arep, aBin, aConv]
      repeat refine And.intro (by omega) ?_
      refine inv_of (hJ _ _ ⟨_, _, _, ⟨rfl, rfl⟩, Abs.byG hbel [] rfl [2, 3, 4, 5, 6] (by decide) ?_⟩)
      simp -implicitDefEqProofs (disch := omega) only [f1, f2, f3, f4, f5, f6, f23, f24, f25, f26, f27, f28, f31, f32, f33, f34, f35, f36, f37, f38, f39, f40, f41, f42, f45, f46, f47, f48, f49, f50, List.length_append, List.length_cons, List.length_nil, capG_s, ownG_s, capG_0, ownG_0, prs_append, prs_cons, prs_nil, W_nil0, W_nil1, W_cap', Wc_nil0, Wc_nil1, Wc_cap', absF, absH, W_refl', W_any', W_agg, W_tup, Ws_cons, Ws_refl', Wc_refl', Wcs_cons, Wcs_nil, look, List.cons_append, List.nil_append, List.append_nil, List.length_cons, List.length_nil, Nat.zero_add, Nat.reduceAdd, AV.mv, AV.mvs, ABlk.mv, sig_new0, sig_newk, sig_lt, List.getElem?_cons_zero, List.getElem?_cons_succ, mvs_ints, mvs_bools, mvs_prs, mvs_append, cond_true, cond_false, beq_self_eq_true, Nat.reduceBEq, true_and, and_true, or_true, true_or, and_self, decide_true, Nat.add_zero, reduceCtorEq, false_or, or_false]
      repeat' (first | exact True.intro | exact Nat.add_lt_add_left (by decide) _ | exact Nat.lt_add_of_pos_right (by decide) | refine W_nils ?_ (Or.inr rfl) | refine W_nils ?_ (Or.inl rfl) | refine Wc_nils ?_ (Or.inr rfl) | refine Wc_nils ?_ (Or.inl rfl) | exact W_cap | rfl | refine And.intro ?_ ?_ | exact Or.inl rfl | exact Or.inr rfl | exact Or.inr (Or.inl rfl) | exact Or.inr (Or.inr BW.emp) | exact Or.inr BW.emp | exact BW.emp | exact Or.inr (Or.inr BW.pre) | exact Or.inr BW.pre | exact BW.pre | refine Or.inr (BW.cells ?_) | refine BW.cells ?_ | refine Or.inr (Or.inr (BW.cells ?_)) | exact Wc_cap)
  rintro F2 H2 ⟨rfl, rfl⟩
  refine AW_special false try_mixed [[0, 1, 2, 3, 4, 5, 6, 7, 8, 9, 10, 11, 12, 13, 14, 15, 16, 17, 18, 19, 20, 21, 22], [0, 1, 2, 3, 4, 5, 6, 7, 8, 9, 10, 11, 12, 13, 14, 15, 20, 16, 17, 18, 19, 21, 22], [0, 1, 2, 3, 4, 5, 6, 7, 8, 9, 10, 11, 12, 13, 20, 14, 15, 16, 17, 18, 19, 21, 22], [0, 1, 2, 3, 4, 5, 6, 8, 9, 10, 11, 12, 13, 20, 7, 14, 15, 16, 17, 18, 19, 21, 22]] (by kernel_rfl) (fun F2 H2 => F2 = [(7, .ptr (some (H.length, 0))), (8, .ptr (some (H.length + 1, 0))), (9, .int .i64 0), (10, .ptr (some (H.length + 3, 0))), (14, .ptr (some (H.length + 5, 0)))] ∧ H2 = H ++ [.cells true 0 [.int .i64 tu, .int .i64 le, .int .i64 sl, .int .i64 ra], .cells true 0 [.int .i64 0, .int .i64 0, .sl none 0 (some 0)], .cells (ownG (canonL (recL x0 y0 x1 y1)).length) 2 (prs (canonL (recL x0 y0 x1 y1))), .cells true 0 [.int .i64 (x0 + x1), .int .i64 (y0 + y1), .sl (some (H.length + 2, 0)) ((canonL (recL x0 y0 x1 y1)).length) (capG (canonL (recL x0 y0 x1 y1)).length)], .cells (ownG (canonL [((wayX h (f + le)), (wayY h (f + le)))]).length) 2 (prs (canonL [((wayX h (f + le)), (wayY h (f + le)))])), .cells true 0 [.int .i64 (wayX h (f + le)), .int .i64 (wayY h (f + le)), .sl (some (H.length + 4, 0)) ((canonL [((wayX h (f + le)), (wayY h (f + le)))]).length) (capG (canonL [((wayX h (f + le)), (wayY h (f + le)))]).length)]]) ?_ ?_
  · refine reps_cons ?_ (reps_cons ?_ (reps_cons ?_ (reps_cons ?_ (reps_nil)))) <;> intro J hJ
    · skip
      simp -implicitDefEqProofs (disch := omega) only [h15d, h16d, h17d, h18d, h19d, h20d, h21d, h22d, h30d, h44d, prs_len, prs_one, pickL, hwx, hwy, aApp_nil, aApp_none, aApp_some, aApp_grw, simprocAttr, amset, tyset, Function.comp_apply, one1, lenV, calleeOf, lateOk, belowV, aop, AV.ofValue, AV.ofCell, AV.cells, AV.flat, AV.one, arep, aBin, aConv]
      repeat refine And.intro (by omega) ?_
      refine call_d (by kernel_rfl) (mfloor_c _ ((f + le) * ((dirV h).1)) ((dirV h).2.2) (by omega) (by omega)) ?_
      simp -implicitDefEqProofs (disch := omega) only [h15d, h16d, h17d, h18d, h19d, h20d, h21d, h22d, h30d, h44d, prs_len, prs_one, pickL, hwx, hwy, aApp_nil, aApp_none, aApp_some, aApp_grw, simprocAttr, amset, tyset, Function.comp_apply, one1, lenV, calleeOf, lateOk, belowV, aop, AV.ofValue, AV.ofCell, AV.cells, AV.flat, AV.one, arep, aBin, aConv]
      repeat refine And.intro (by omega) ?_
      refine call_d (by kernel_rfl) (mfloor_c _ ((f + le) * ((dirV h).2.1)) ((dirV h).2.2) (by omega) (by omega)) ?_
      simp -implicitDefEqProofs (disch := omega) only [h15d, h16d, h17d, h18d, h19d, h20d, h21d, h22d, h30d, h44d, prs_len, prs_one, pickL, hwx, hwy, aApp_nil, aApp_none, aApp_some, aApp_grw, simprocAttr, amset, tyset, Function.comp_apply, one1, lenV, calleeOf, lateOk, belowV, aop, AV.ofValue, AV.ofCell, AV.cells, AV.flat, AV.one, arep, aBin, aConv]
      repeat refine And.intro (by omega) ?_
      refine call_x (by kernel_rfl) (by simp) (ofway_0 _ (wayX h (f + le)) (wayY h (f + le)) (by assumption)) ?_
      simp -implicitDefEqProofs (disch := omega) only [h15d, h16d, h17d, h18d, h19d, h20d, h21d, h22d, h30d, h44d, prs_len, prs_one, pickL, hwx, hwy, aApp_nil, aApp_none, aApp_some, aApp_grw, simprocAttr, amset, tyset, Function.comp_apply, one1, lenV, calleeOf, lateOk, belowV, aop, AV.ofValue, AV.ofCell, AV.cells, AV.flat, AV.one, arep, aBin, aConv]
      repeat refine And.intro (by omega) ?_
      refine inv_of (hJ _ _ ⟨_, _, _, ⟨rfl, rfl⟩, Abs.byG hbel [] rfl [0, 1, 2, 3, 5, 6] (by decide) ?_⟩)
      simp -implicitDefEqProofs (disch := omega) only [List.length_append, List.length_cons, List.length_nil, capG_s, ownG_s, capG_0, ownG_0, prs_append, prs_cons, prs_nil, W_nil0, W_nil1, W_cap', Wc_nil0, Wc_nil1, Wc_cap', absF, absH, W_refl', W_any', W_agg, W_tup, Ws_cons, Ws_refl', Wc_refl', Wcs_cons, Wcs_nil, look, List.cons_append, List.nil_append, List.append_nil, List.length_cons, List.length_nil, Nat.zero_add, Nat.reduceAdd, AV.mv, AV.mvs, ABlk.mv, sig_new0, sig_newk, sig_lt, List.getElem?_cons_zero, List.getElem?_cons_succ, mvs_ints, mvs_bools, mvs_prs, mvs_append, cond_true, cond_false, beq_self_eq_true, Nat.reduceBEq, true_and, and_true, or_true, true_or, and_self, decide_true, Nat.add_zero, reduceCtorEq, false_or, or_false]
      repeat' (first | exact True.intro | exact Nat.add_lt_add_left (by decide) _ | exact Nat.lt_add_of_pos_right (by decide) | refine W_nils ?_ (Or.inr rfl) | refine W_nils ?_ (Or.inl rfl) | refine Wc_nils ?_ (Or.inr rfl) | refine Wc_nils ?_ (Or.inl rfl) | exact W_cap | rfl | refine And.intro ?_ ?_ | exact Or.inl rfl | exact Or.inr rfl | exact Or.inr (Or.inl rfl) | exact Or.inr (Or.inr BW.emp) | exact Or.inr BW.emp | exact BW.emp | exact Or.inr (Or.inr BW.pre) | exact Or.inr BW.pre | exact BW.pre | refine Or.inr (BW.cells ?_) | refine BW.cells ?_ | refine Or.inr (Or.inr (BW.cells ?_)) | exact Wc_cap)
    · skip
      simp -implicitDefEqProofs (disch := omega) only [h15d, h16d, h17d, h18d, h19d, h20d, h21d, h22d, h30d, h44d, prs_len, prs_one, pickL, hwx, hwy, aApp_nil, aApp_none, aApp_some, aApp_grw, simprocAttr, amset, tyset, Function.comp_apply, one1, lenV, calleeOf, lateOk, belowV, aop, AV.ofValue, AV.ofCell, AV.cells, AV.flat, AV.one, arep, aBin, aConv]
      repeat refine And.intro (by omega) ?_
      refine call_d (by kernel_rfl) (mfloor_c _ ((f + le) * ((dirV h).1)) ((dirV h).2.2) (by omega) (by omega)) ?_
      simp -implicitDefEqProofs (disch := omega) only [h15d, h16d, h17d, h18d, h19d, h20d, h21d, h22d, h30d, h44d, prs_len, prs_one, pickL, hwx, hwy, aApp_nil, aApp_none, aApp_some, aApp_grw, simprocAttr, amset, tyset, Function.comp_apply, one1, lenV, calleeOf, lateOk, belowV, aop, AV.ofValue, AV.ofCell, AV.cells, AV.flat, AV.one, arep, aBin, aConv]
      repeat refine And.intro (by omega) ?_
      refine call_d (by kernel_rfl) (mfloor_c _ ((f + le) * ((dirV h).2.1)) ((dirV h).2.2) (by omega) (by omega)) ?_
      simp -implicitDefEqProofs (disch := omega) only [h15d, h16d, h17d, h18d, h19d, h20d, h21d, h22d, h30d, h44d, prs_len, prs_one, pickL, hwx, hwy, aApp_nil, aApp_none, aApp_some, aApp_grw, simprocAttr, amset, tyset, Function.comp_apply, one1, lenV, calleeOf, lateOk, belowV, aop, AV.ofValue, AV.ofCell, AV.cells, AV.flat, AV.one, arep, aBin, aConv]
      repeat refine And.intro (by omega) ?_
      refine call_x (by kernel_rfl) (by simp) (ofway_0 _ (wayX h (f + le)) (wayY h (f + le)) (by assumption)) ?_
      simp -implicitDefEqProofs (disch := omega) only [h15d, h16d, h17d, h18d, h19d, h20d, h21d, h22d, h30d, h44d, prs_len, prs_one, pickL, hwx, hwy, aApp_nil, aApp_none, aApp_some, aApp_grw, simprocAttr, amset, tyset, Function.comp_apply, one1, lenV, calleeOf, lateOk, belowV, aop, AV.ofValue, AV.ofCell, AV.cells, AV.flat, AV.one, arep, aBin, aConv]
      repeat refine And.intro (by omega) ?_
      refine inv_of (hJ _ _ ⟨_, _, _, ⟨rfl, rfl⟩, Abs.byG hbel [] rfl [0, 1, 2, 3, 6, 5] (by decide) ?_⟩)
      simp -implicitDefEqProofs (disch := omega) only [List.length_append, List.length_cons, List.length_nil, capG_s, ownG_s, capG_0, ownG_0, prs_append, prs_cons, prs_nil, W_nil0, W_nil1, W_cap', Wc_nil0, Wc_nil1, Wc_cap', absF, absH, W_refl', W_any', W_agg, W_tup, Ws_cons, Ws_refl', Wc_refl', Wcs_cons, Wcs_nil, look, List.cons_append, List.nil_append, List.append_nil, List.length_cons, List.length_nil, Nat.zero_add, Nat.reduceAdd, AV.mv, AV.mvs, ABlk.mv, sig_new0, sig_newk, sig_lt, List.getElem?_cons_zero, List.getElem?_cons_succ, mvs_ints, mvs_bools, mvs_prs, mvs_append, cond_true, cond_false, beq_self_eq_true, Nat.reduceBEq, true_and, and_true, or_true, true_or, and_self, decide_true, Nat.add_zero, reduceCtorEq, false_or, or_false]
      repeat' (first | exact True.intro | exact Nat.add_lt_add_left (by decide) _ | exact Nat.lt_add_of_pos_right (by decide) | refine W_nils ?_ (Or.inr rfl) | refine W_nils ?_ (Or.inl rfl) | refine Wc_nils ?_ (Or.inr rfl) | refine Wc_nils ?_ (Or.inl rfl) | exact W_cap | rfl | refine And.intro ?_ ?_ | exact Or.inl rfl | exact Or.inr rfl | exact Or.inr (Or.inl rfl) | exact Or.inr (Or.inr BW.emp) | exact Or.inr BW.emp | exact BW.emp | exact Or.inr (Or.inr BW.pre) | exact Or.inr BW.pre | exact BW.pre | refine Or.inr (BW.cells ?_) | refine BW.cells ?_ | refine Or.inr (Or.inr (BW.cells ?_)) | exact Wc_cap)
    · skip
      simp -implicitDefEqProofs (disch := omega) only [h15d, h16d, h17d, h18d, h19d, h20d, h21d, h22d, h30d, h44d, prs_len, prs_one, pickL, hwx, hwy, aApp_nil, aApp_none, aApp_some, aApp_grw, simprocAttr, amset, tyset, Function.comp_apply, one1, lenV, calleeOf, lateOk, belowV, aop, AV.ofValue, AV.ofCell, AV.cells, AV.flat, AV.one, arep, aBin, aConv]
      repeat refine And.intro (by omega) ?_
      refine call_d (by kernel_rfl) (mfloor_c _ ((f + le) * ((dirV h).1)) ((dirV h).2.2) (by omega) (by omega)) ?_
      simp -implicitDefEqProofs (disch := omega) only [h15d, h16d, h17d, h18d, h19d, h20d, h21d, h22d, h30d, h44d, prs_len, prs_one, pickL, hwx, hwy, aApp_nil, aApp_none, aApp_some, aApp_grw, simprocAttr, amset, tyset, Function.comp_apply, one1, lenV, calleeOf, lateOk, belowV, aop, AV.ofValue, AV.ofCell, AV.cells, AV.flat, AV.one, arep, aBin, aConv]
      repeat refine And.intro (by omega) ?_
      refine call_d (by kernel_rfl) (mfloor_c _ ((f + le) * ((dirV h).2.1)) ((dirV h).2.2) (by omega) (by omega)) ?_
      simp -implicitDefEqProofs (disch := omega) only [h15d, h16d, h17d, h18d, h19d, h20d, h21d, h22d, h30d, h44d, prs_len, prs_one, pickL, hwx, hwy, aApp_nil, aApp_none, aApp_some, aApp_grw, simprocAttr, amset, tyset, Function.comp_apply, one1, lenV, calleeOf, lateOk, belowV, aop, AV.ofValue, AV.ofCell, AV.cells, AV.flat, AV.one, arep, aBin, aConv]
      repeat refine And.intro (by omega) ?_
      refine call_x (by kernel_rfl) (by simp) (ofway_0 _ (wayX h (f + le)) (wayY h (f + le)) (by assumption)) ?_
      simp -implicitDefEqProofs (disch := omega) only [h15d, h16d, h17d, h18d, h19d, h20d, h21d, h22d, h30d, h44d, prs_len, prs_one, pickL, hwx, hwy, aApp_nil, aApp_none, aApp_some, aApp_grw, simprocAttr, amset, tyset, Function.comp_apply, one1, lenV, calleeOf, lateOk, belowV, aop, AV.ofValue, AV.ofCell, AV.cells, AV.flat, AV.one, arep, aBin, aConv]
      repeat refine And.intro (by omega) ?_
      refine inv_of (hJ _ _ ⟨_, _, _, ⟨rfl, rfl⟩, Abs.byG hbel [] rfl [0, 1, 2, 3, 6, 5] (by decide) ?_⟩)
      simp -implicitDefEqProofs (disch := omega) only [List.length_append, List.length_cons, List.length_nil, capG_s, ownG_s, capG_0, ownG_0, prs_append, prs_cons, prs_nil, W_nil0, W_nil1, W_cap', Wc_nil0, Wc_nil1, Wc_cap', absF, absH, W_refl', W_any', W_agg, W_tup, Ws_cons, Ws_refl', Wc_refl', Wcs_cons, Wcs_nil, look, List.cons_append, List.nil_append, List.append_nil, List.length_cons, List.length_nil, Nat.zero_add, Nat.reduceAdd, AV.mv, AV.mvs, ABlk.mv, sig_new0, sig_newk, sig_lt, List.getElem?_cons_zero, List.getElem?_cons_succ, mvs_ints, mvs_bools, mvs_prs, mvs_append, cond_true, cond_false, beq_self_eq_true, Nat.reduceBEq, true_and, and_true, or_true, true_or, and_self, decide_true, Nat.add_zero, reduceCtorEq, false_or, or_false]
      repeat' (first | exact True.intro | exact Nat.add_lt_add_left (by decide) _ | exact Nat.lt_add_of_pos_right (by decide) | refine W_nils ?_ (Or.inr rfl) | refine W_nils ?_ (Or.inl rfl) | refine Wc_nils ?_ (Or.inr rfl) | refine Wc_nils ?_ (Or.inl rfl) | exact W_cap | rfl | refine And.intro ?_ ?_ | exact Or.inl rfl | exact Or.inr rfl | exact Or.inr (Or.inl rfl) | exact Or.inr (Or.inr BW.emp) | exact Or.inr BW.emp | exact BW.emp | exact Or.inr (Or.inr BW.pre) | exact Or.inr BW.pre | exact BW.pre | refine Or.inr (BW.cells ?_) | refine BW.cells ?_ | refine Or.inr (Or.inr (BW.cells ?_)) | exact Wc_cap)
    · skip
      simp -implicitDefEqProofs (disch := omega) only [h15d, h16d, h17d, h18d, h19d, h20d, h21d, h22d, h30d, h44d, prs_len, prs_one, pickL, hwx, hwy, aApp_nil, aApp_none, aApp_some, aApp_grw, simprocAttr, amset, tyset, Function.comp_apply, one1, lenV, calleeOf, lateOk, belowV, aop, AV.ofValue, AV.ofCell, AV.cells, AV.flat, AV.one, arep, aBin, aConv]
      repeat refine And.intro (by omega) ?_
      refine call_d (by kernel_rfl) (mfloor_c _ ((f + le) * ((dirV h).1)) ((dirV h).2.2) (by omega) (by omega)) ?_
      simp -implicitDefEqProofs (disch := omega) only [h15d, h16d, h17d, h18d, h19d, h20d, h21d, h22d, h30d, h44d, prs_len, prs_one, pickL, hwx, hwy, aApp_nil, aApp_none, aApp_some, aApp_grw, simprocAttr, amset, tyset, Function.comp_apply, one1, lenV, calleeOf, lateOk, belowV, aop, AV.ofValue, AV.ofCell, AV.cells, AV.flat, AV.one, arep, aBin, aConv]
      repeat refine And.intro (by omega) ?_
      refine call_d (by kernel_rfl) (mfloor_c _ ((f + le) * ((dirV h).2.1)) ((dirV h).2.2) (by omega) (by omega)) ?_
      simp -implicitDefEqProofs (disch := omega) only [h15d, h16d, h17d, h18d, h19d, h20d, h21d, h22d, h30d, h44d, prs_len, prs_one, pickL, hwx, hwy, aApp_nil, aApp_none, aApp_some, aApp_grw, simprocAttr, amset, tyset, Function.comp_apply, one1, lenV, calleeOf, lateOk, belowV, aop, AV.ofValue, AV.ofCell, AV.cells, AV.flat, AV.one, arep, aBin, aConv]
      repeat refine And.intro (by omega) ?_
      refine call_x (by kernel_rfl) (by simp) (ofway_0 _ (wayX h (f + le)) (wayY h (f + le)) (by assumption)) ?_
      simp -implicitDefEqProofs (disch := omega) only [h15d, h16d, h17d, h18d, h19d, h20d, h21d, h22d, h30d, h44d, prs_len, prs_one, pickL, hwx, hwy, aApp_nil, aApp_none, aApp_some, aApp_grw, simprocAttr, amset, tyset, Function.comp_apply, one1, lenV, calleeOf, lateOk, belowV, aop, AV.ofValue, AV.ofCell, AV.cells, AV.flat, AV.one, arep, aBin, aConv]
      repeat refine And.intro (by omega) ?_
      refine inv_of (hJ _ _ ⟨_, _, _, ⟨rfl, rfl⟩, Abs.byG hbel [] rfl [0, 1, 2, 3, 6, 5] (by decide) ?_⟩)
      simp -implicitDefEqProofs (disch := omega) only [List.length_append, List.length_cons, List.length_nil, capG_s, ownG_s, capG_0, ownG_0, prs_append, prs_cons, prs_nil, W_nil0, W_nil1, W_cap', Wc_nil0, Wc_nil1, Wc_cap', absF, absH, W_refl', W_any', W_agg, W_tup, Ws_cons, Ws_refl', Wc_refl', Wcs_cons, Wcs_nil, look, List.cons_append, List.nil_append, List.append_nil, List.length_cons, List.length_nil, Nat.zero_add, Nat.reduceAdd, AV.mv, AV.mvs, ABlk.mv, sig_new0, sig_newk, sig_lt, List.getElem?_cons_zero, List.getElem?_cons_succ, mvs_ints, mvs_bools, mvs_prs, mvs_append, cond_true, cond_false, beq_self_eq_true, Nat.reduceBEq, true_and, and_true, or_true, true_or, and_self, decide_true, Nat.add_zero, reduceCtorEq, false_or, or_false]
      repeat' (first | exact True.intro | exact Nat.add_lt_add_left (by decide) _ | exact Nat.lt_add_of_pos_right (by decide) | refine W_nils ?_ (Or.inr rfl) | refine W_nils ?_ (Or.inl rfl) | refine Wc_nils ?_ (Or.inr rfl) | refine Wc_nils ?_ (Or.inl rfl) | exact W_cap | rfl | refine And.intro ?_ ?_ | exact Or.inl rfl | exact Or.inr rfl | exact Or.inr (Or.inl rfl) | exact Or.inr (Or.inr BW.emp) | exact Or.inr BW.emp | exact BW.emp | exact Or.inr (Or.inr BW.pre) | exact Or.inr BW.pre | exact BW.pre | refine Or.inr (BW.cells ?_) | refine BW.cells ?_ | refine Or.inr (Or.inr (BW.cells ?_)) | exact Wc_cap)
  rintro F2 H2 ⟨rfl, rfl⟩
  refine AW_fin false try_mixed (by kernel_rfl) ?_
  simp -implicitDefEqProofs (disch := omega) only [h15d, h16d, h17d, h18d, h19d, h20d, h21d, h22d, h30d, h44d, prs_len, prs_one, hwx, hwy, aApp_nil, aApp_none, aApp_some, aApp_grw, simprocAttr, amset, tyset, Function.comp_apply, one1, lenV, calleeOf, lateOk, belowV, aop, AV.ofValue, AV.ofCell, AV.cells, AV.flat, AV.one, arep, aBin, aConv]
  repeat refine And.intro (by omega) ?_
  refine call_v (by kernel_rfl) (Sum_0 _ (x0 + x1) (y0 + y1) _ (canonL (recL x0 y0 x1 y1)) (wayX h (f + le)) (wayY h (f + le)) _ (canonL [((wayX h (f + le)), (wayY h (f + le)))]) ⟨_, _, _, by first | rfl | (rw [List.length_append]; done) | (rw [List.length_append]; rfl), by first | rfl | (rw [get_newk]; rfl) | (rw [get_new0]; rfl) | (rw [get_newk, prs_append]; rfl) | (rw [get_new0, prs_append]; rfl)⟩ ⟨_, _, _, by first | rfl | (rw [List.length_append]; done) | (rw [List.length_append]; rfl), by first | rfl | (rw [get_newk]; rfl) | (rw [get_new0]; rfl) | (rw [get_newk, prs_append]; rfl) | (rw [get_new0, prs_append]; rfl)⟩ (by assumption)) ?_
  simp -implicitDefEqProofs (disch := omega) only [h15d, h16d, h17d, h18d, h19d, h20d, h21d, h22d, h30d, h44d, prs_len, prs_one, hwx, hwy, aApp_nil, aApp_none, aApp_some, aApp_grw, simprocAttr, amset, tyset, Function.comp_apply, one1, lenV, calleeOf, lateOk, belowV, aop, AV.ofValue, AV.ofCell, AV.cells, AV.flat, AV.one, arep, aBin, aConv]
  repeat refine And.intro (by omega) ?_
  refine call_x (by kernel_rfl) (by simp) (square_c _ (sl + 21) (by omega)) ?_
  simp -implicitDefEqProofs (disch := omega) only [h15d, h16d, h17d, h18d, h19d, h20d, h21d, h22d, h30d, h44d, prs_len, prs_one, hwx, hwy, aApp_nil, aApp_none, aApp_some, aApp_grw, simprocAttr, amset, tyset, Function.comp_apply, one1, lenV, calleeOf, lateOk, belowV, aop, AV.ofValue, AV.ofCell, AV.cells, AV.flat, AV.one, arep, aBin, aConv]
  repeat refine And.intro (by omega) ?_
  refine call_x (by kernel_rfl) (by simp) (Sum_0 _ ((x0 + x1) + (wayX h (f + le))) ((y0 + y1) + (wayY h (f + le))) _ (canonL ((canonL (recL x0 y0 x1 y1)) ++ (canonL [((wayX h (f + le)), (wayY h (f + le)))]))) 0 0 _ (canonL (sqrL (sl + 21))) ⟨_, _, _, by first | rfl | (rw [List.length_append]; done) | (rw [List.length_append]; rfl), by first | rfl | (rw [get_newk]; rfl) | (rw [get_new0]; rfl) | (rw [get_newk, prs_append]; rfl) | (rw [get_new0, prs_append]; rfl)⟩ ⟨_, _, _, by first | rfl | (rw [List.length_append]; done) | (rw [List.length_append]; rfl), by first | rfl | (rw [get_newk]; rfl) | (rw [get_new0]; rfl) | (rw [get_newk, prs_append]; rfl) | (rw [get_new0, prs_append]; rfl)⟩ (by assumption)) ?_
  simp -implicitDefEqProofs (disch := omega) only [h15d, h16d, h17d, h18d, h19d, h20d, h21d, h22d, h30d, h44d, prs_len, prs_one, hwx, hwy, aApp_nil, aApp_none, aApp_some, aApp_grw, simprocAttr, amset, tyset, Function.comp_apply, one1, lenV, calleeOf, lateOk, belowV, aop, AV.ofValue, AV.ofCell, AV.cells, AV.flat, AV.one, arep, aBin, aConv]
  repeat refine And.intro (by omega) ?_
  refine hQ _ _ (end_byG (.inl rfl) hbel (x1 := .tup [.agg [.int .i64 (((x0 + x1) + (wayX h (f + le))) + 0), .int .i64 (((y0 + y1) + (wayY h (f + le))) + 0), .sl (some (H.length + 8, 0)) ((canonL ((canonL ((canonL (recL x0 y0 x1 y1)) ++ (canonL [((wayX h (f + le)), (wayY h (f + le)))]))) ++ (canonL (sqrL (sl + 21))))).length) (capG (canonL ((canonL ((canonL (recL x0 y0 x1 y1)) ++ (canonL [((wayX h (f + le)), (wayY h (f + le)))]))) ++ (canonL (sqrL (sl + 21))))).length)], .int .i64 0]) (l2 := [.cells (ownG (canonL ((canonL ((canonL (recL x0 y0 x1 y1)) ++ (canonL [((wayX h (f + le)), (wayY h (f + le)))]))) ++ (canonL (sqrL (sl + 21))))).length) 2 (prs (canonL ((canonL ((canonL (recL x0 y0 x1 y1)) ++ (canonL [((wayX h (f + le)), (wayY h (f + le)))]))) ++ (canonL (sqrL (sl + 21))))))]) (.tup [.agg [.int .i64 (((x0 + x1) + (wayX h (f + le))) + 0), .int .i64 (((y0 + y1) + (wayY h (f + le))) + 0), .sl (some (H.length, 0)) ((canonL ((canonL ((canonL (recL x0 y0 x1 y1)) ++ (canonL [((wayX h (f + le)), (wayY h (f + le)))]))) ++ (canonL (sqrL (sl + 21))))).length) (capG (canonL ((canonL ((canonL (recL x0 y0 x1 y1)) ++ (canonL [((wayX h (f + le)), (wayY h (f + le)))]))) ++ (canonL (sqrL (sl + 21))))).length)], .int .i64 0]) (ret_of Tryz.results13 (by simp -implicitDefEqProofs (disch := omega) only [simprocAttr, amset, tyset, Function.comp_apply, one1, lenV, calleeOf, lateOk, belowV, aop, AV.ofValue, AV.ofCell, AV.cells, AV.flat, AV.one, arep, aBin, aAppend, aConv])) [] rfl [8] (by decide) ⟨by first | (simp [mkX, mkL, sweE, sweB, capG_0, ownG_0, prs_nil, h15d, h16d, h17d, h18d, h19d, h20d, h21d, h22d, h30d, h44d, hfinE, hfinF]; done) | (simp [mkX, mkL, sweE, hok, capG_0, ownG_0, prs_nil, h15d, h16d, h17d, h18d, h19d, h20d, h21d, h22d, h30d, h44d, hfinE, hfinF]; done) | (rw [hfinE]; simp only [mkX_0, mkL_0, sweX, sweY, sweL, wayL, hlf, hfinF, if_true, if_false, sw_eq, ← sw_eq0, Int.add_zero]), by first | (simp [mkX, mkL, sweE, sweB, capG_0, ownG_0, prs_nil, h15d, h16d, h17d, h18d, h19d, h20d, h21d, h22d, h30d, h44d, hfinE, hfinF]; done) | (simp [mkX, mkL, sweE, hok, capG_0, ownG_0, prs_nil, h15d, h16d, h17d, h18d, h19d, h20d, h21d, h22d, h30d, h44d, hfinE, hfinF]; done) | (rw [hfinE]; simp only [mkX_0, mkL_0, sweX, sweY, sweL, wayL, hlf, hfinF, if_true, if_false, sw_eq, ← sw_eq0, Int.add_zero])⟩ ?_)
  simp -implicitDefEqProofs (disch := omega) only [W_nil0, W_nil1, W_cap', Wc_nil0, Wc_nil1, Wc_cap', absF, absH, W_refl', W_any', W_agg, W_tup, Ws_cons, Ws_refl', Wc_refl', Wcs_cons, Wcs_nil, look, List.cons_append, List.nil_append, List.append_nil, List.length_cons, List.length_nil, Nat.zero_add, Nat.reduceAdd, AV.mv, AV.mvs, ABlk.mv, sig_new0, sig_newk, sig_lt, List.getElem?_cons_zero, List.getElem?_cons_succ, mvs_ints, mvs_bools, mvs_prs, mvs_append, cond_true, cond_false, beq_self_eq_true, Nat.reduceBEq, true_and, and_true, or_true, true_or, and_self, decide_true, Nat.add_zero, reduceCtorEq, false_or, or_false]
  repeat' (first | exact True.intro | exact Nat.add_lt_add_left (by decide) _ | exact Nat.lt_add_of_pos_right (by decide) | refine W_nils ?_ (Or.inr rfl) | refine W_nils ?_ (Or.inl rfl) | refine Wc_nils ?_ (Or.inr rfl) | refine Wc_nils ?_ (Or.inl rfl) | exact W_cap | rfl | refine And.intro ?_ ?_ | exact Or.inl rfl | exact Or.inr rfl | exact Or.inr (Or.inl rfl) | exact Or.inr (Or.inr BW.emp) | exact Or.inr BW.emp | exact BW.emp | exact Or.inr (Or.inr BW.pre) | exact Or.inr BW.pre | exact BW.pre | refine Or.inr (BW.cells ?_) | refine BW.cells ?_ | refine Or.inr (Or.inr (BW.cells ?_)) | exact Wc_cap)
end Go.Proofs.YtoimakfecmhjkaaGreat

/- Slices of points read off the memory. Conditions: none. -/
namespace Go.Proofs.YtoimakfecmhjkaaGreat
set_option linter.unusedSimpArgs false
set_option linter.unusedVariables false
open Go.RowKit
def prsOf : List AV → Option (List Pt)
  | [] => some []
  | .int .i64 x :: .int .i64 y :: r => (prsOf r).map ((x, y) :: ·)
  | _ => none
theorem prsOf_eq : ∀ (xs : List AV) (l : List Pt), prsOf xs = some l → xs = prs l
  | [], l, h => by simp [prsOf] at h; subst h; rfl
  | .int .i64 x :: .int .i64 y :: r, l, h => by
    simp only [prsOf, Option.map_eq_some_iff] at h
    obtain ⟨m, hm, rfl⟩ := h
    rw [prsOf_eq r m hm]; rfl
  | [x], l, h => by unfold prsOf at h; split at h <;> simp_all
  | x :: y :: r, l, h => by
    unfold prsOf at h
    split at h
    · simp_all
    · rename_i e
      injection e with e1 e2
      injection e2 with e2 e3
      subst e1 e2 e3
      simp only [Option.map_eq_some_iff] at h
      obtain ⟨m, hm, rfl⟩ := h
      rw [prsOf_eq _ m hm]; rfl
    · cases h
/-- The generators of a zonogon's slice. -/
def gensOf (H : AHeap) (s : AV) : Option (List Pt) :=
  match s with
  | .sl (some (b, 0)) n _ => match H[b]? with
    | some (.cells _ 2 xs) => (prsOf xs).bind fun l => bif Nat.beq l.length n then some l else none
    | _ => none
  | _ => none
theorem gensOf_isP {H : AHeap} {s : AV} {l : List Pt} (h : gensOf H s = some l) : SlP H s l := by
  unfold gensOf at h
  split at h
  · rename_i b n c
    split at h
    · rename_i own xs hb
      cases hp : prsOf xs with
      | none => rw [hp] at h; cases h
      | some m =>
        rw [hp, Option.bind_some] at h
        cases hn : Nat.beq m.length n
        · rw [hn] at h; cases h
        · rw [hn, cond_true] at h
          injection h with h
          subst h
          have := Nat.eq_of_beq_eq_true hn
          subst this
          exact ⟨b, own, c, rfl, by rw [hb, prsOf_eq _ _ hp]⟩
    · cases h
  · cases h
theorem TbOk.filter {P : Program} (p : Nat × Bool × Func → Bool) : ∀ {tb : List (Nat × Bool × Func)}, TbOk P tb → TbOk P (tb.filter p)
  | _, .nil => .nil
  | _, .cons (f := f) (q := q) (fn := fn) h1 h2 h3 hr => by
    rw [List.filter_cons]
    split
    · exact .cons h1 h2 h3 (TbOk.filter p hr)
    · exact TbOk.filter p hr
end Go.Proofs.YtoimakfecmhjkaaGreat

/- The functions that the run of chapter 40's awake takes by their contracts. Conditions: none. -/
namespace Go.Proofs.YtoimakfecmhjkaaGreat
set_option linter.unusedSimpArgs false
set_option linter.unusedVariables false
open Go.RowKit
def ext40 : Caller := fun f args H =>
  match args with
  | [.int .i64 h] => bif Nat.beq f 53 then some (.agg [.int .i64 (dirV h).1, .int .i64 (dirV h).2.1, .int .i64 (dirV h).2.2], none) else none
  | [.agg [.int .i64 x0, .int .i64 y0, .int .i64 x1, .int .i64 y1], .int .i64 h, .agg [.int .i64 t, .int .i64 g], .agg [.int .i64 tu, .int .i64 le, .int .i64 sl, .int .i64 ra]] =>
    bif Nat.beq f 13 then some (.tup [.agg [.int .i64 (mkX (sweE x0 y0 x1 y1 h t g tu le sl ra) (sweX x0 x1 h g le)), .int .i64 (mkX (sweE x0 y0 x1 y1 h t g tu le sl ra) (sweY y0 y1 h g le)), .sl (some (H.length, 0)) (mkL (sweE x0 y0 x1 y1 h t g tu le sl ra) (sweL x0 y0 x1 y1 h g le sl)).length (capG (mkL (sweE x0 y0 x1 y1 h t g tu le sl ra) (sweL x0 y0 x1 y1 h g le sl)).length)], .int .i64 (sweE x0 y0 x1 y1 h t g tu le sl ra)],
      some (H ++ [.cells (ownG (mkL (sweE x0 y0 x1 y1 h t g tu le sl ra) (sweL x0 y0 x1 y1 h g le sl)).length) 2 (prs (mkL (sweE x0 y0 x1 y1 h t g tu le sl ra) (sweL x0 y0 x1 y1 h g le sl)))])) else none
  | [.agg [.int .i64 fx, .int .i64 fy], .agg [.int .i64 tx, .int .i64 ty]] => bif Nat.beq f 36 then some (.tup [.int .i64 (towI fx fy tx ty), .int .i64 (towE fx fy tx ty)], none) else none
  | [.agg [.int .i64 x, .int .i64 y, s], .agg [.int .i64 x0, .int .i64 y0, .int .i64 x1, .int .i64 y1]] =>
    bif Nat.beq f 68 then (gensOf H s).map fun l => (.bool (apartB x y l x0 y0 x1 y1), none) else none
  | [.sl none 0 (some 0), .int .i64 n] =>
    bif Nat.beq f 163 && (decide (0 < n) && decide (n ≤ 1000)) then some (.sl (some (H.length, 0)) 0 none, some (H ++ [.cells true 2 []])) else none
  | _ => ext f args H
theorem ext40_ok : CallOk Tryz.prog ext40 := fun f args H x o h => by
  unfold ext40 at h
  split at h
  · rename_i z
    cases hf : Nat.beq f 53
    · rw [hf] at h; cases h
    · rw [hf, cond_true] at h
      have e := Nat.eq_of_beq_eq_true hf
      subst e
      simp only [Option.some.injEq, Prod.mk.injEq] at h
      obtain ⟨rfl, rfl⟩ := h
      exact ⟨by kernel_rfl, Nat.le_refl _, dir_c H z⟩
  · rename_i x0 y0 x1 y1 z t g tu le sl ra
    cases hf : Nat.beq f 13
    · rw [hf] at h; cases h
    · rw [hf, cond_true] at h
      have e := Nat.eq_of_beq_eq_true hf
      subst e
      simp only [Option.some.injEq, Prod.mk.injEq] at h
      obtain ⟨rfl, rfl⟩ := h
      exact ⟨by kernel_rfl, by simp, sweep_c H x0 y0 x1 y1 z t g tu le sl ra⟩
  · rename_i fx fy tx ty
    cases hf : Nat.beq f 36
    · rw [hf] at h; cases h
    · rw [hf, cond_true] at h
      have e := Nat.eq_of_beq_eq_true hf
      subst e
      simp only [Option.some.injEq, Prod.mk.injEq] at h
      obtain ⟨rfl, rfl⟩ := h
      exact ⟨by kernel_rfl, Nat.le_refl _, toward_c H fx fy tx ty⟩
  · rename_i x y s x0 y0 x1 y1
    cases hf : Nat.beq f 68
    · rw [hf] at h; cases h
    · rw [hf, cond_true] at h
      have e := Nat.eq_of_beq_eq_true hf
      subst e
      simp only [Option.map_eq_some_iff, Prod.mk.injEq] at h
      obtain ⟨l1, h1, rfl, rfl⟩ := h
      exact ⟨by kernel_rfl, Nat.le_refl _, apart_c H _ _ _ _ _ _ _ _ (gensOf_isP h1)⟩
  · rename_i n
    cases hf : Nat.beq f 163 && (decide (0 < n) && decide (n ≤ 1000))
    · rw [hf] at h; cases h
    · rw [hf, cond_true] at h
      simp only [Bool.and_eq_true, decide_eq_true_eq] at hf
      obtain ⟨h1, h2, h3⟩ := hf
      have e := Nat.eq_of_beq_eq_true h1
      subst e
      simp only [Option.some.injEq, Prod.mk.injEq] at h
      obtain ⟨rfl, rfl⟩ := h
      obtain ⟨m, rfl⟩ : ∃ m : Nat, n = m := ⟨n.toNat, by omega⟩
      exact ⟨by kernel_rfl, by simp, grow_a (by omega) (by omega)⟩
  · exact ext_ok f args H x o h
/-- The functions that the run enters: all but those. -/
noncomputable def tb40 : List (Nat × Bool × Func) := tb.filter fun p => !Nat.beq p.1 163 && !Nat.beq p.1 53 && !Nat.beq p.1 36
theorem tb40_ok : TbOk Tryz.prog tb40 := tb_ok.filter _
end Go.Proofs.YtoimakfecmhjkaaGreat

/- awake of law 40, by the kernel's own run. Conditions: none. -/
namespace Go.Proofs.YtoimakfecmhjkaaGreat
set_option linter.unusedSimpArgs false
set_option linter.unusedVariables false
open Go.RowKit
theorem awake_a (H : AHeap) : ACalls Tryz.prog 12 [] H (fun v H' => v = .bool true ∧ H' = H) :=
  ACalls.closed (ran try_mixed ext40_ok tb40 tb40_ok 20000 60 (x := .bool true) (o := none) (by kernel_rfl)) rfl rfl H
end Go.Proofs.YtoimakfecmhjkaaGreat

/- Walks by the abstract machine: MotionToward. Conditions: as each theorem states. -/
namespace Go.Proofs.YtoimakfecmhjkaaGreat
set_option linter.unusedSimpArgs false
set_option linter.unusedVariables false
open Go.RowKit
set_option maxHeartbeats 4000000 in
set_option maxRecDepth 100000 in
theorem ltoward_c (H : AHeap) (fx : Int) (fy : Int) (tx : Int) (ty : Int) : ACalls Tryz.prog 8 [.agg [.int .i64 fx, .int .i64 fy], .agg [.int .i64 tx, .int .i64 ty]] H (fun v H' => v = .bool true ∧ H' = H) := by
  (refine ACalls_run try_mixed Tryz.func8 true _ rfl (Nat.le_of_ble_eq_true (by kernel_rfl)) (by kernel_rfl) ?_; intro hbel Q hQ hQ' c hc; unfold Tryz.f8 at hc; simp only [Option.some.injEq] at hc; subst hc; clear hQ')
  simp -implicitDefEqProofs (disch := omega) only [aApp_nil, aApp_none, aApp_some, aApp_grw, simprocAttr, amset, tyset, Function.comp_apply, one1, lenV, calleeOf, lateOk, belowV, aop, AV.ofValue, AV.ofCell, AV.cells, AV.flat, AV.one, arep, aBin, aConv]
  repeat refine And.intro (by omega) ?_
  refine call_v (by kernel_rfl) (awake_a _) ?_
  simp -implicitDefEqProofs (disch := omega) only [aApp_nil, aApp_none, aApp_some, aApp_grw, simprocAttr, amset, tyset, Function.comp_apply, one1, lenV, calleeOf, lateOk, belowV, aop, AV.ofValue, AV.ofCell, AV.cells, AV.flat, AV.one, arep, aBin, aConv]
  repeat refine And.intro (by omega) ?_
  refine call_v (by kernel_rfl) (toward_c _ fx fy tx ty) ?_
  simp -implicitDefEqProofs (disch := omega) only [aApp_nil, aApp_none, aApp_some, aApp_grw, simprocAttr, amset, tyset, Function.comp_apply, one1, lenV, calleeOf, lateOk, belowV, aop, AV.ofValue, AV.ofCell, AV.cells, AV.flat, AV.one, arep, aBin, aConv]
  repeat refine And.intro (by omega) ?_
  refine call_v (by kernel_rfl) (rtoward_c _ fx fy tx ty) ?_
  simp -implicitDefEqProofs (disch := omega) only [aApp_nil, aApp_none, aApp_some, aApp_grw, simprocAttr, amset, tyset, Function.comp_apply, one1, lenV, calleeOf, lateOk, belowV, aop, AV.ofValue, AV.ofCell, AV.cells, AV.flat, AV.one, arep, aBin, aConv]
  repeat refine And.intro (by omega) ?_
  refine cond_split (fun h1 => ?_) (fun h1 => ?_)
  · have h1d := h1
    try simp only [boolset, beq_iff_eq, ne_eq] at h1d
    have h1n := h1
    try simp only [int_bne, int_beq, Bool.not_eq_true', Bool.not_eq_false', Bool.not_not] at h1n
    simp -implicitDefEqProofs (disch := omega) only [h1, h1n, int_bne, int_beq, aApp_nil, aApp_none, aApp_some, aApp_grw, simprocAttr, amset, tyset, Function.comp_apply, one1, lenV, calleeOf, lateOk, belowV, aop, AV.ofValue, AV.ofCell, AV.cells, AV.flat, AV.one, arep, aBin, aConv]
    repeat refine And.intro (by omega) ?_
    exact hQ _ _ (end_plain (.inl rfl) hbel (x := .bool true) (ret_of Tryz.results8 (by simp -implicitDefEqProofs (disch := omega) only [simprocAttr, amset, tyset, Function.comp_apply, one1, lenV, calleeOf, lateOk, belowV, aop, AV.ofValue, AV.ofCell, AV.cells, AV.flat, AV.one, arep, aBin, aAppend, aConv])) rfl ⟨by first | (simp [h1d]; done) | (exact congrArg AV.bool (hby1 (by assumption))) | (simp_all; done), rfl⟩)
  · have h1d := h1
    try simp only [boolset, beq_iff_eq, ne_eq] at h1d
    have h1n := h1
    try simp only [int_bne, int_beq, Bool.not_eq_true', Bool.not_eq_false', Bool.not_not] at h1n
    have he0 : towE fx fy tx ty = 0 := by simpa using h1d
    obtain ⟨hp1, hp2, hpd, -⟩ := towE0 he0
    obtain ⟨hm, hby0, hby1⟩ := tow_bey he0
    have hdv := vecOK_iff.1 (dirV_ok (towI fx fy tx ty))
    have hdv1 := vecOK_iff.1 (dirV_ok ((towI fx fy tx ty) + 1))
    simp -implicitDefEqProofs (disch := omega) only [h1, h1n, int_bne, int_beq, aApp_nil, aApp_none, aApp_some, aApp_grw, simprocAttr, amset, tyset, Function.comp_apply, one1, lenV, calleeOf, lateOk, belowV, aop, AV.ofValue, AV.ofCell, AV.cells, AV.flat, AV.one, arep, aBin, aConv]
    repeat refine And.intro (by omega) ?_
    refine call_d (by kernel_rfl) (rdir_c _ (towI fx fy tx ty)) ?_
    simp -implicitDefEqProofs (disch := omega) only [h1, h1n, int_bne, int_beq, aApp_nil, aApp_none, aApp_some, aApp_grw, simprocAttr, amset, tyset, Function.comp_apply, one1, lenV, calleeOf, lateOk, belowV, aop, AV.ofValue, AV.ofCell, AV.cells, AV.flat, AV.one, arep, aBin, aConv]
    repeat refine And.intro (by omega) ?_
    refine call_d (by kernel_rfl) (beyond_c _ ((dirV (towI fx fy tx ty)).1) ((dirV (towI fx fy tx ty)).2.1) ((dirV (towI fx fy tx ty)).2.2) (tx - fx) (ty - fy) (by omega) (by omega) (by omega) (by omega)) ?_
    simp -implicitDefEqProofs (disch := omega) only [h1, h1n, int_bne, int_beq, aApp_nil, aApp_none, aApp_some, aApp_grw, simprocAttr, amset, tyset, Function.comp_apply, one1, lenV, calleeOf, lateOk, belowV, aop, AV.ofValue, AV.ofCell, AV.cells, AV.flat, AV.one, arep, aBin, aConv]
    repeat refine And.intro (by omega) ?_
    refine gd_split (fun h2 => ?_) (fun h2 => ?_)
    · have h2d := h2
      try simp only [boolset, beq_iff_eq, ne_eq] at h2d
      simp -implicitDefEqProofs (disch := omega) only [h1, h1n, int_bne, int_beq, h2, h2d, aApp_nil, aApp_none, aApp_some, aApp_grw, simprocAttr, amset, tyset, Function.comp_apply, one1, lenV, calleeOf, lateOk, belowV, aop, AV.ofValue, AV.ofCell, AV.cells, AV.flat, AV.one, arep, aBin, aConv]
      repeat refine And.intro (by omega) ?_
      refine gd_split (fun h3 => ?_) (fun h3 => ?_)
      · have h3d := h3
        try simp only [boolset, beq_iff_eq, ne_eq] at h3d
        have h3n := h3
        try simp only [int_bne, int_beq, Bool.not_eq_true', Bool.not_eq_false', Bool.not_not] at h3n
        simp -implicitDefEqProofs (disch := omega) only [h1, h1n, int_bne, int_beq, h2, h2d, h3, h3n, aApp_nil, aApp_none, aApp_some, aApp_grw, simprocAttr, amset, tyset, Function.comp_apply, one1, lenV, calleeOf, lateOk, belowV, aop, AV.ofValue, AV.ofCell, AV.cells, AV.flat, AV.one, arep, aBin, aConv]
        repeat refine And.intro (by omega) ?_
        refine call_d (by kernel_rfl) (rdir_c _ ((towI fx fy tx ty) + 1)) ?_
        simp -implicitDefEqProofs (disch := omega) only [h1, h1n, int_bne, int_beq, h2, h2d, h3, h3n, aApp_nil, aApp_none, aApp_some, aApp_grw, simprocAttr, amset, tyset, Function.comp_apply, one1, lenV, calleeOf, lateOk, belowV, aop, AV.ofValue, AV.ofCell, AV.cells, AV.flat, AV.one, arep, aBin, aConv]
        repeat refine And.intro (by omega) ?_
        refine call_d (by kernel_rfl) (beyond_c _ ((dirV ((towI fx fy tx ty) + 1)).1) ((dirV ((towI fx fy tx ty) + 1)).2.1) ((dirV ((towI fx fy tx ty) + 1)).2.2) (tx - fx) (ty - fy) (by omega) (by omega) (by omega) (by omega)) ?_
        simp -implicitDefEqProofs (disch := omega) only [h1, h1n, int_bne, int_beq, h2, h2d, h3, h3n, aApp_nil, aApp_none, aApp_some, aApp_grw, simprocAttr, amset, tyset, Function.comp_apply, one1, lenV, calleeOf, lateOk, belowV, aop, AV.ofValue, AV.ofCell, AV.cells, AV.flat, AV.one, arep, aBin, aConv]
        repeat refine And.intro (by omega) ?_
        exact hQ _ _ (end_plain (.inl rfl) hbel (x := .bool (beyR ((dirV ((towI fx fy tx ty) + 1)).1) ((dirV ((towI fx fy tx ty) + 1)).2.1) (tx - fx) (ty - fy))) (ret_of Tryz.results8 (by simp -implicitDefEqProofs (disch := omega) only [simprocAttr, amset, tyset, Function.comp_apply, one1, lenV, calleeOf, lateOk, belowV, aop, AV.ofValue, AV.ofCell, AV.cells, AV.flat, AV.one, arep, aBin, aAppend, aConv])) rfl ⟨by first | (simp [h2d, h1d, h3d]; done) | (exact congrArg AV.bool (hby1 (by assumption))) | (simp_all; done), rfl⟩)
      · have h3d := h3
        try simp only [boolset, beq_iff_eq, ne_eq] at h3d
        have h3n := h3
        try simp only [int_bne, int_beq, Bool.not_eq_true', Bool.not_eq_false', Bool.not_not] at h3n
        simp -implicitDefEqProofs (disch := omega) only [h1, h1n, int_bne, int_beq, h2, h2d, h3, h3n, aApp_nil, aApp_none, aApp_some, aApp_grw, simprocAttr, amset, tyset, Function.comp_apply, one1, lenV, calleeOf, lateOk, belowV, aop, AV.ofValue, AV.ofCell, AV.cells, AV.flat, AV.one, arep, aBin, aConv]
        repeat refine And.intro (by omega) ?_
        exact hQ _ _ (end_plain (.inl rfl) hbel (x := .bool true) (ret_of Tryz.results8 (by simp -implicitDefEqProofs (disch := omega) only [simprocAttr, amset, tyset, Function.comp_apply, one1, lenV, calleeOf, lateOk, belowV, aop, AV.ofValue, AV.ofCell, AV.cells, AV.flat, AV.one, arep, aBin, aAppend, aConv])) rfl ⟨by first | (simp [h2d, h1d, h3d]; done) | (exact congrArg AV.bool (hby1 (by assumption))) | (simp_all; done), rfl⟩)
    · have h2d := h2
      try simp only [boolset, beq_iff_eq, ne_eq] at h2d
      simp -implicitDefEqProofs (disch := omega) only [h1, h1n, int_bne, int_beq, h2, h2d, aApp_nil, aApp_none, aApp_some, aApp_grw, simprocAttr, amset, tyset, Function.comp_apply, one1, lenV, calleeOf, lateOk, belowV, aop, AV.ofValue, AV.ofCell, AV.cells, AV.flat, AV.one, arep, aBin, aConv]
      repeat refine And.intro (by omega) ?_
      exact hQ _ _ (end_plain (.inl rfl) hbel (x := .bool false) (ret_of Tryz.results8 (by simp -implicitDefEqProofs (disch := omega) only [simprocAttr, amset, tyset, Function.comp_apply, one1, lenV, calleeOf, lateOk, belowV, aop, AV.ofValue, AV.ofCell, AV.cells, AV.flat, AV.one, arep, aBin, aAppend, aConv])) rfl ⟨by first | (simp [h2d, h1d]; done) | (exact congrArg AV.bool (hby1 (by assumption))) | (simp_all; done), rfl⟩)
end Go.Proofs.YtoimakfecmhjkaaGreat
namespace Go.Proofs.YtoimakfecmhjkaaGreat
set_option linter.unusedSimpArgs false
set_option linter.unusedVariables false
open Go.RowKit
set_option maxRecDepth 100000 in
theorem motionToward_top (H : AHeap) (xs : List AV) (hn : xs.length = 2) (hy : ∀ (j : Nat) (t : TypeId) (x : AV), [68, 68][j]? = some t → xs[j]? = some x → ATy Tryz.prog H 9 t x) : ACalls Tryz.prog 8 xs H (fun v H' => v = .bool true ∧ H' = H) := by
  match xs, hn, hy with
  | [a0, a1], _, hy =>
    obtain ⟨ys0, e0, r0_0⟩ := (hy 0 _ a0 rfl rfl).agg (ls := [3, 3]) (by kernel_rfl) (by kernel_rfl)
    obtain ⟨y0_0, q0_0, rfl, t0_0, r0_1⟩ := r0_0.cons
    obtain ⟨z1, rfl, w1⟩ := t0_0.int (k := .i64) (by kernel_rfl)
    obtain ⟨y0_1, q0_1, rfl, t0_1, r0_2⟩ := r0_1.cons
    obtain ⟨z2, rfl, w2⟩ := t0_1.int (k := .i64) (by kernel_rfl)
    obtain rfl := r0_2.nil
    subst e0
    obtain ⟨ys1, e1, r1_0⟩ := (hy 1 _ a1 rfl rfl).agg (ls := [3, 3]) (by kernel_rfl) (by kernel_rfl)
    obtain ⟨y1_0, q1_0, rfl, t1_0, r1_1⟩ := r1_0.cons
    obtain ⟨z3, rfl, w3⟩ := t1_0.int (k := .i64) (by kernel_rfl)
    obtain ⟨y1_1, q1_1, rfl, t1_1, r1_2⟩ := r1_1.cons
    obtain ⟨z4, rfl, w4⟩ := t1_1.int (k := .i64) (by kernel_rfl)
    obtain rfl := r1_2.nil
    subst e1
    exact ltoward_c H z1 z2 z3 z4
section
open Go.ChangeShapes Go.WideShapes Go.ChangeAt Go.RowKit Go.Joins
open Go.ChangeMaps (open_string shut_string)
set_option maxRecDepth 100000 in
theorem motionToward_lifted (os : Os) (started : os.Started) (H : Type) (enc : TypeId × Value → H) :
    ReturnsInHanded {} Tryz.checked os 8 .any (Rows.motionTowardSpec.pre6 enc Tryz.prog Tryz.f8 Rows.motionTowardRow.domain false) (Rows.motionTowardSpec.post enc Tryz.prog Tryz.f8 false true false false) := by
  refine returnsInHanded_of_change (C := Tryz.checked) own started (by kernel_rfl) Tryz.func8
    (ChangeSpec.witness6 (enc := enc) (C := Tryz.checked) false ⟨#[], #[.agg #[.int .i64 0, .int .i64 0], .agg #[.int .i64 0, .int .i64 0]], []⟩ 8 (by kernel_rfl) (by kernel_rfl) (by kernel_rfl) (by kernel_rfl)) ?_
  intro W base args ds gs before hval0 hW hcnd _
  have hval : ∀ (j : Nat) t v, Tryz.f8.params[j]? = some t → args[j]? = some v → Value.okWide Tryz.prog W .any base t v := hval0
  have hW' := hW
  obtain ⟨p, q, hA0, hV, rfl, hfz, hnd⟩ := hW
  have hA : DataW.TrodAll enc Tryz.prog W 0 (fun _ => true) true Tryz.f8.params.toList args.toList ds p := hA0
  rw [Tryz.params8] at hA hval
  have hwalk := calls_top (n := 9) (f := 8) hA (fun j t v a b => hval j t v (by simpa using a) (by simpa using b)) (by kernel_rfl) (fun H xs hn hy => motionToward_top H xs hn hy)
  rw [Array.toArray_toList] at hwalk
  obtain ⟨v0, vs0, d0, ds0, p0, q0, hargs, rfl, rfl, h0, r0⟩ := trodAll_cons hA
  obtain ⟨v1, vs1, d1, ds1, p1, q1, rfl, rfl, rfl, h1, r1⟩ := trodAll_cons r0
  obtain ⟨rfl, rfl, rfl⟩ := trodAll_nil r1
  obtain rfl : args = #[v0, v1] := by cases args; simp_all
  obtain ⟨rfl, rfl⟩ := trodVars_none hV
  have k0 := h0
  have lt0 : ∀ x ∈ p0, x.block < W.heap.size := by obtain ⟨m, hm⟩ := k0; exact DataW.trod_lt m _ _ _ hm
  have k1 := h1
  have lt1 : ∀ x ∈ p1, x.block < W.heap.size := by obtain ⟨m, hm⟩ := k1; exact DataW.trod_lt m _ _ _ hm
  clear hA0 hval0
  refine hwalk.mono fun e W' ⟨he, bel⟩ => ?_
  subst he
  exact ⟨_, rfl, _, _, _, [], _, [], hW', trodAll_mk1 (shut_bool Tryz.underlying4 _), (trodAll_cons_mk (Below.trod laidOut (by kernel_rfl) (of_decide_eq_true (by kernel_rfl)) k0 bel lt0) (trodAll_cons_mk (Below.trod laidOut (by kernel_rfl) (of_decide_eq_true (by kernel_rfl)) k1 bel lt1) trodAll_mk0)), rfl, bel.frame _, fun h => by cases h⟩
theorem motionToward_over : Rows.motionTowardRow.holds Tryz.pinned (OpenSpec.ofChange Rows.motionTowardSpec) :=
  OpenClaim.holds_of_wide 8 Tryz.f8 rfl rfl rfl rfl rfl rfl rfl ⟨rfl, rfl, rfl, rfl, rfl⟩ rfl rfl rfl rfl rfl (by kernel_rfl) Tryz.func8 (by kernel_rfl)
    (of_decide_eq_true (by kernel_rfl)) (by unfold Func.isWrapper; rw [if_neg (by decide +kernel)]; exact ⟨rfl, rfl⟩)
    (fun os started H enc _ => motionToward_lifted os started H enc)
/-- The given statement. -/
theorem motionToward_proved : Rows.MotionTowardSaid := motionToward_over
end
end Go.Proofs.YtoimakfecmhjkaaGreat
