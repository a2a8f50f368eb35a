/- Proved: the law MotionSweeps returns true on every input, and its arguments read afterwards as before. Conditions: none beyond the given row's. -/
import Derived.Test.YtoimakfecmhjkaaGreatG6
import Derived.Test.YtoimakfecmhjkaaGreatG3
import Derived.Test.YtoimakfecmhjkaaGreatG2
import Derived.Test.YtoimakfecmhjkaaGreatG4
import Derived.Test.YtoimakfecmhjkaaGreatG5

/- Walks by the abstract machine: Toward, both. Conditions: as each theorem states. -/
namespace Go.Proofs.YtoimakfecmhjkaaGreat
set_option linter.unusedSimpArgs false
set_option linter.unusedVariables false
open Go.RowKit
theorem dirV_nat {n : Nat} (h : n < 256) : dirV ((n : Nat) : Int) = dirN n := by
  unfold dirV
  rw [show (((n : Nat) : Int) % 256).toNat = n by omega]
theorem bey_lt {v : Vec} {x y : Int} (h : halfI v.1 v.2.1 < halfI x y) : beyB v x y = false := by
  unfold beyB
  have := halfI_or v.1 v.2.1
  have := halfI_or x y
  rw [if_neg (by omega)]
  exact decide_eq_false (by omega)
theorem bey_gt {v : Vec} {x y : Int} (h : ¬ halfI v.1 v.2.1 < halfI x y) (h2 : ¬ halfI v.1 v.2.1 = halfI x y) : beyB v x y = true := by
  unfold beyB
  have := halfI_or v.1 v.2.1
  have := halfI_or x y
  rw [if_neg h2]
  exact decide_eq_true (by omega)
theorem bey_eq {v : Vec} {x y : Int} (h : halfI v.1 v.2.1 = halfI x y) : beyB v x y = decide (v.1 * y - v.2.1 * x < 0) := by
  unfold beyB; rw [if_pos h]; rfl
def ptB (x y : Int) : Bool := within x 1048576 && within y 1048576
def towE (fx fy tx ty : Int) : Int := if (ptB fx fy && ptB tx ty) = true then (if fx = tx ∧ fy = ty then 9 else 0) else 1
def towI (fx fy tx ty : Int) : Int := if towE fx fy tx ty = 0 then ((towN (tx - fx) (ty - fy) 256 : Nat) : Int) else 0
set_option maxHeartbeats 4000000 in
set_option maxRecDepth 100000 in
theorem mvpt_c (H : AHeap) (x : Int) (y : Int) : ACalls Tryz.prog 95 [.agg [.int .i64 x, .int .i64 y]] H (fun v H' => v = .bool (ptB x y) ∧ H' = H) := by
  (refine ACalls_run try_mixed Tryz.func95 true _ rfl (Nat.le_of_ble_eq_true (by kernel_rfl)) (by kernel_rfl) ?_; intro hbel Q hQ hQ' c hc; unfold Tryz.f95 at hc; simp only [Option.some.injEq] at hc; subst hc; clear hQ')
  simp -implicitDefEqProofs (disch := omega) only [aApp_nil, aApp_none, aApp_some, aApp_grw, simprocAttr, amset, tyset, Function.comp_apply, one1, lenV, calleeOf, lateOk, belowV, aop, AV.ofValue, AV.ofCell, AV.cells, AV.flat, AV.one, arep, aBin, aConv]
  repeat refine And.intro (by omega) ?_
  refine call_v (by kernel_rfl) (mnear_c _ x) ?_
  simp -implicitDefEqProofs (disch := omega) only [aApp_nil, aApp_none, aApp_some, aApp_grw, simprocAttr, amset, tyset, Function.comp_apply, one1, lenV, calleeOf, lateOk, belowV, aop, AV.ofValue, AV.ofCell, AV.cells, AV.flat, AV.one, arep, aBin, aConv]
  repeat refine And.intro (by omega) ?_
  refine gd_split (fun h1 => ?_) (fun h1 => ?_)
  · have h1d := h1
    try simp only [boolset, beq_iff_eq, ne_eq] at h1d
    simp -implicitDefEqProofs (disch := omega) only [h1, h1d, aApp_nil, aApp_none, aApp_some, aApp_grw, simprocAttr, amset, tyset, Function.comp_apply, one1, lenV, calleeOf, lateOk, belowV, aop, AV.ofValue, AV.ofCell, AV.cells, AV.flat, AV.one, arep, aBin, aConv]
    repeat refine And.intro (by omega) ?_
    refine call_v (by kernel_rfl) (mnear_c _ y) ?_
    simp -implicitDefEqProofs (disch := omega) only [h1, h1d, aApp_nil, aApp_none, aApp_some, aApp_grw, simprocAttr, amset, tyset, Function.comp_apply, one1, lenV, calleeOf, lateOk, belowV, aop, AV.ofValue, AV.ofCell, AV.cells, AV.flat, AV.one, arep, aBin, aConv]
    repeat refine And.intro (by omega) ?_
    exact hQ _ _ (end_plain (.inl rfl) hbel (x := .bool (within y 1048576)) (ret_of Tryz.results95 (by simp -implicitDefEqProofs (disch := omega) only [simprocAttr, amset, tyset, Function.comp_apply, one1, lenV, calleeOf, lateOk, belowV, aop, AV.ofValue, AV.ofCell, AV.cells, AV.flat, AV.one, arep, aBin, aAppend, aConv])) rfl ⟨by simp [ptB, h1d], rfl⟩)
  · have h1d := h1
    try simp only [boolset, beq_iff_eq, ne_eq] at h1d
    simp -implicitDefEqProofs (disch := omega) only [h1, h1d, aApp_nil, aApp_none, aApp_some, aApp_grw, simprocAttr, amset, tyset, Function.comp_apply, one1, lenV, calleeOf, lateOk, belowV, aop, AV.ofValue, AV.ofCell, AV.cells, AV.flat, AV.one, arep, aBin, aConv]
    repeat refine And.intro (by omega) ?_
    exact hQ _ _ (end_plain (.inl rfl) hbel (x := .bool false) (ret_of Tryz.results95 (by simp -implicitDefEqProofs (disch := omega) only [simprocAttr, amset, tyset, Function.comp_apply, one1, lenV, calleeOf, lateOk, belowV, aop, AV.ofValue, AV.ofCell, AV.cells, AV.flat, AV.one, arep, aBin, aAppend, aConv])) rfl ⟨by simp [ptB, h1d], rfl⟩)
set_option maxHeartbeats 4000000 in
set_option maxRecDepth 100000 in
theorem mhalf_c (H : AHeap) (x : Int) (y : Int) : ACalls Tryz.prog 96 [.int .i64 x, .int .i64 y] H (fun v H' => v = .int .i64 (halfI x y) ∧ H' = H) := by
  (refine ACalls_run try_mixed Tryz.func96 true _ rfl (Nat.le_of_ble_eq_true (by kernel_rfl)) (by kernel_rfl) ?_; intro hbel Q hQ hQ' c hc; unfold Tryz.f96 at hc; simp only [Option.some.injEq] at hc; subst hc; clear hQ')
  simp -implicitDefEqProofs (disch := omega) only [aApp_nil, aApp_none, aApp_some, aApp_grw, simprocAttr, amset, tyset, Function.comp_apply, one1, lenV, calleeOf, lateOk, belowV, aop, AV.ofValue, AV.ofCell, AV.cells, AV.flat, AV.one, arep, aBin, aConv]
  repeat refine And.intro (by omega) ?_
  refine gd_split (fun h1 => ?_) (fun h1 => ?_)
  · have h1d := h1
    try simp only [boolset, beq_iff_eq, ne_eq] at h1d
    simp -implicitDefEqProofs (disch := omega) only [h1, h1d, aApp_nil, aApp_none, aApp_some, aApp_grw, simprocAttr, amset, tyset, Function.comp_apply, one1, lenV, calleeOf, lateOk, belowV, aop, AV.ofValue, AV.ofCell, AV.cells, AV.flat, AV.one, arep, aBin, aConv]
    repeat refine And.intro (by omega) ?_
    refine gd_split (fun h2 => ?_) (fun h2 => ?_)
    · have h2d := h2
      try simp only [boolset, beq_iff_eq, ne_eq] at h2d
      simp -implicitDefEqProofs (disch := omega) only [h1, h1d, h2, h2d, int_bne, int_beq, aApp_nil, aApp_none, aApp_some, aApp_grw, simprocAttr, amset, tyset, Function.comp_apply, one1, lenV, calleeOf, lateOk, belowV, aop, AV.ofValue, AV.ofCell, AV.cells, AV.flat, AV.one, arep, aBin, aConv]
      repeat refine And.intro (by omega) ?_
      refine cond_split (fun h3 => ?_) (fun h3 => ?_)
      · have h3d := h3
        try simp only [boolset, beq_iff_eq, ne_eq] at h3d
        simp -implicitDefEqProofs (disch := omega) only [h1, h1d, h2, h2d, int_bne, int_beq, h3, h3d, aApp_nil, aApp_none, aApp_some, aApp_grw, simprocAttr, amset, tyset, Function.comp_apply, one1, lenV, calleeOf, lateOk, belowV, aop, AV.ofValue, AV.ofCell, AV.cells, AV.flat, AV.one, arep, aBin, aConv]
        repeat refine And.intro (by omega) ?_
        exact hQ _ _ (end_plain0 (.inl rfl) hbel (x := .int .i64 0) (ret_of Tryz.results96 (by simp -implicitDefEqProofs (disch := omega) only [simprocAttr, amset, tyset, Function.comp_apply, one1, lenV, calleeOf, lateOk, belowV, aop, AV.ofValue, AV.ofCell, AV.cells, AV.flat, AV.one, arep, aBin, aAppend, aConv])) rfl ⟨congrArg (AV.int .i64) (by unfold halfI; first | rw [if_pos (by omega)] | rw [if_neg (by omega)]), rfl⟩)
      · have h3d := h3
        try simp only [boolset, beq_iff_eq, ne_eq] at h3d
        simp -implicitDefEqProofs (disch := omega) only [h1, h1d, h2, h2d, int_bne, int_beq, h3, h3d, aApp_nil, aApp_none, aApp_some, aApp_grw, simprocAttr, amset, tyset, Function.comp_apply, one1, lenV, calleeOf, lateOk, belowV, aop, AV.ofValue, AV.ofCell, AV.cells, AV.flat, AV.one, arep, aBin, aConv]
        repeat refine And.intro (by omega) ?_
        exact hQ _ _ (end_plain0 (.inl rfl) hbel (x := .int .i64 1) (ret_of Tryz.results96 (by simp -implicitDefEqProofs (disch := omega) only [simprocAttr, amset, tyset, Function.comp_apply, one1, lenV, calleeOf, lateOk, belowV, aop, AV.ofValue, AV.ofCell, AV.cells, AV.flat, AV.one, arep, aBin, aAppend, aConv])) rfl ⟨congrArg (AV.int .i64) (by unfold halfI; first | rw [if_pos (by omega)] | rw [if_neg (by omega)]), rfl⟩)
    · have h2d := h2
      try simp only [boolset, beq_iff_eq, ne_eq] at h2d
      simp -implicitDefEqProofs (disch := omega) only [h1, h1d, h2, h2d, int_bne, int_beq, aApp_nil, aApp_none, aApp_some, aApp_grw, simprocAttr, amset, tyset, Function.comp_apply, one1, lenV, calleeOf, lateOk, belowV, aop, AV.ofValue, AV.ofCell, AV.cells, AV.flat, AV.one, arep, aBin, aConv]
      repeat refine And.intro (by omega) ?_
      exact hQ _ _ (end_plain0 (.inl rfl) hbel (x := .int .i64 1) (ret_of Tryz.results96 (by simp -implicitDefEqProofs (disch := omega) only [simprocAttr, amset, tyset, Function.comp_apply, one1, lenV, calleeOf, lateOk, belowV, aop, AV.ofValue, AV.ofCell, AV.cells, AV.flat, AV.one, arep, aBin, aAppend, aConv])) rfl ⟨congrArg (AV.int .i64) (by unfold halfI; first | rw [if_pos (by omega)] | rw [if_neg (by omega)]), rfl⟩)
  · have h1d := h1
    try simp only [boolset, beq_iff_eq, ne_eq] at h1d
    simp -implicitDefEqProofs (disch := omega) only [h1, h1d, aApp_nil, aApp_none, aApp_some, aApp_grw, simprocAttr, amset, tyset, Function.comp_apply, one1, lenV, calleeOf, lateOk, belowV, aop, AV.ofValue, AV.ofCell, AV.cells, AV.flat, AV.one, arep, aBin, aConv]
    repeat refine And.intro (by omega) ?_
    exact hQ _ _ (end_plain0 (.inl rfl) hbel (x := .int .i64 0) (ret_of Tryz.results96 (by simp -implicitDefEqProofs (disch := omega) only [simprocAttr, amset, tyset, Function.comp_apply, one1, lenV, calleeOf, lateOk, belowV, aop, AV.ofValue, AV.ofCell, AV.cells, AV.flat, AV.one, arep, aBin, aAppend, aConv])) rfl ⟨congrArg (AV.int .i64) (by unfold halfI; first | rw [if_pos (by omega)] | rw [if_neg (by omega)]), rfl⟩)
set_option maxHeartbeats 4000000 in
set_option maxRecDepth 100000 in
theorem toward_c (H : AHeap) (fx : Int) (fy : Int) (tx : Int) (ty : Int) : ACalls Tryz.prog 36 [.agg [.int .i64 fx, .int .i64 fy], .agg [.int .i64 tx, .int .i64 ty]] H (fun v H' => v = .tup [.int .i64 (towI fx fy tx ty), .int .i64 (towE fx fy tx ty)] ∧ H' = H) := by
  (refine ACalls_run try_mixed Tryz.func36 true _ rfl (Nat.le_of_ble_eq_true (by kernel_rfl)) (by kernel_rfl) ?_; intro hbel Q hQ hQ' c hc; unfold Tryz.f36 at hc; simp only [Option.some.injEq] at hc; subst hc; clear hQ')
  simp -implicitDefEqProofs (disch := omega) only [aApp_nil, aApp_none, aApp_some, aApp_grw, simprocAttr, amset, tyset, Function.comp_apply, one1, lenV, calleeOf, lateOk, belowV, aop, AV.ofValue, AV.ofCell, AV.cells, AV.flat, AV.one, arep, aBin, aConv]
  repeat refine And.intro (by omega) ?_
  refine call_v (by kernel_rfl) (mvpt_c _ fx fy) ?_
  simp -implicitDefEqProofs (disch := omega) only [aApp_nil, aApp_none, aApp_some, aApp_grw, simprocAttr, amset, tyset, Function.comp_apply, one1, lenV, calleeOf, lateOk, belowV, aop, AV.ofValue, AV.ofCell, AV.cells, AV.flat, AV.one, arep, aBin, aConv]
  repeat refine And.intro (by omega) ?_
  refine gd_split (fun h1 => ?_) (fun h1 => ?_)
  · have h1d := h1
    try simp only [boolset, beq_iff_eq, ne_eq] at h1d
    have hp1 := h1d
    simp only [ptB, Bool.and_eq_true, within_iff] at hp1
    simp -implicitDefEqProofs (disch := omega) only [h1, h1d, aApp_nil, aApp_none, aApp_some, aApp_grw, simprocAttr, amset, tyset, Function.comp_apply, one1, lenV, calleeOf, lateOk, belowV, aop, AV.ofValue, AV.ofCell, AV.cells, AV.flat, AV.one, arep, aBin, aConv]
    repeat refine And.intro (by omega) ?_
    refine call_v (by kernel_rfl) (mvpt_c _ tx ty) ?_
    simp -implicitDefEqProofs (disch := omega) only [h1, h1d, aApp_nil, aApp_none, aApp_some, aApp_grw, simprocAttr, amset, tyset, Function.comp_apply, one1, lenV, calleeOf, lateOk, belowV, aop, AV.ofValue, AV.ofCell, AV.cells, AV.flat, AV.one, arep, aBin, aConv]
    repeat refine And.intro (by omega) ?_
    refine cond_split (fun h2 => ?_) (fun h2 => ?_)
    · have h2d := h2
      try simp only [boolset, beq_iff_eq, ne_eq] at h2d
      simp -implicitDefEqProofs (disch := omega) only [h1, h1d, h2, h2d, aApp_nil, aApp_none, aApp_some, aApp_grw, simprocAttr, amset, tyset, Function.comp_apply, one1, lenV, calleeOf, lateOk, belowV, aop, AV.ofValue, AV.ofCell, AV.cells, AV.flat, AV.one, arep, aBin, aConv]
      repeat refine And.intro (by omega) ?_
      exact hQ _ _ (end_plain (.inl rfl) hbel (x := .tup [.int .i64 0, .int .i64 1]) (ret_of Tryz.results36 (by simp -implicitDefEqProofs (disch := omega) only [simprocAttr, amset, tyset, Function.comp_apply, one1, lenV, calleeOf, lateOk, belowV, aop, AV.ofValue, AV.ofCell, AV.cells, AV.flat, AV.one, arep, aBin, aAppend, aConv])) rfl ⟨by first | (simp [towI, towE, h1d, h2d]; done) | (simp [towI, hfinE]; done) | (rw [show towI fx fy tx ty = ((towN (tx - fx) (ty - fy) 256 : Nat) : Int) from if_pos hfinE, hfinE]), rfl⟩)
    · have h2d := h2
      try simp only [boolset, beq_iff_eq, ne_eq] at h2d
      have hp2 := h2d
      simp only [ptB, Bool.and_eq_true, within_iff] at hp2
      simp -implicitDefEqProofs (disch := omega) only [h1, h1d, h2, h2d, aApp_nil, aApp_none, aApp_some, aApp_grw, simprocAttr, amset, tyset, Function.comp_apply, one1, lenV, calleeOf, lateOk, belowV, aop, AV.ofValue, AV.ofCell, AV.cells, AV.flat, AV.one, arep, aBin, aConv]
      repeat refine And.intro (by omega) ?_
      refine cond_split (fun h3 => ?_) (fun h3 => ?_)
      · have h3d := h3
        try simp only [boolset, beq_iff_eq, ne_eq] at h3d
        have h3n := h3
        try simp only [int_bne, int_beq] at h3n
        simp -implicitDefEqProofs (disch := omega) only [h1, h1d, h2, h2d, h3, h3d, h3n, int_bne, int_beq, aApp_nil, aApp_none, aApp_some, aApp_grw, simprocAttr, amset, tyset, Function.comp_apply, one1, lenV, calleeOf, lateOk, belowV, aop, AV.ofValue, AV.ofCell, AV.cells, AV.flat, AV.one, arep, aBin, aConv]
        repeat refine And.intro (by omega) ?_
        exact hQ _ _ (end_plain (.inl rfl) hbel (x := .tup [.int .i64 0, .int .i64 9]) (ret_of Tryz.results36 (by simp -implicitDefEqProofs (disch := omega) only [simprocAttr, amset, tyset, Function.comp_apply, one1, lenV, calleeOf, lateOk, belowV, aop, AV.ofValue, AV.ofCell, AV.cells, AV.flat, AV.one, arep, aBin, aAppend, aConv])) rfl ⟨by first | (simp [towI, towE, h1d, h2d, h3d]; done) | (simp [towI, hfinE]; done) | (rw [show towI fx fy tx ty = ((towN (tx - fx) (ty - fy) 256 : Nat) : Int) from if_pos hfinE, hfinE]), rfl⟩)
      · have h3d := h3
        try simp only [boolset, beq_iff_eq, ne_eq] at h3d
        have h3n := h3
        try simp only [int_bne, int_beq] at h3n
        have hfinE : towE fx fy tx ty = 0 := by unfold towE; simp_all
        simp -implicitDefEqProofs (disch := omega) only [h1, h1d, h2, h2d, h3, h3d, h3n, int_bne, int_beq, aApp_nil, aApp_none, aApp_some, aApp_grw, simprocAttr, amset, tyset, Function.comp_apply, one1, lenV, calleeOf, lateOk, belowV, aop, AV.ofValue, AV.ofCell, AV.cells, AV.flat, AV.one, arep, aBin, aConv]
        repeat refine And.intro (by omega) ?_
        refine go_loop try_mixed (by kernel_rfl) (fun k F Hx => ∃ n : Nat, n + k = 256 ∧ F = [(6, .int .i64 (tx - fx)), (7, .int .i64 (ty - fy)), (8, .int .i64 ((towN (tx - fx) (ty - fy) n : Nat) : Int)), (36, .int .i64 ((n : Nat) : Int))] ∧ H = Hx) (256) ?_ ?_
        · refine ⟨_, _, _, ⟨0, by omega, rfl, rfl⟩, Abs.byN hbel ?_⟩
          simp -implicitDefEqProofs (disch := omega) only [towN.eq_1, Int.natCast_zero, W_nil0, W_nil1, W_cap', Wc_nil0, Wc_nil1, Wc_cap', absF, absH, W_refl', W_any', W_agg, W_tup, Ws_cons, Ws_refl', Wc_refl', Wcs_cons, Wcs_nil, look, List.cons_append, List.nil_append, List.append_nil, List.length_cons, List.length_nil, Nat.zero_add, Nat.reduceAdd, AV.mv, AV.mvs, ABlk.mv, sig_new0, sig_newk, sig_lt, List.getElem?_cons_zero, List.getElem?_cons_succ, mvs_ints, mvs_bools, mvs_prs, mvs_append, cond_true, cond_false, beq_self_eq_true, Nat.reduceBEq, true_and, and_true, or_true, true_or, and_self, decide_true, Nat.add_zero, reduceCtorEq, false_or, or_false]
          repeat' (first | exact True.intro | exact Nat.add_lt_add_left (by decide) _ | exact Nat.lt_add_of_pos_right (by decide) | refine W_nils ?_ (Or.inr rfl) | refine W_nils ?_ (Or.inl rfl) | refine Wc_nils ?_ (Or.inr rfl) | refine Wc_nils ?_ (Or.inl rfl) | exact W_cap | rfl | refine And.intro ?_ ?_ | exact Or.inl rfl | exact Or.inr rfl | exact Or.inr (Or.inl rfl) | exact Or.inr (Or.inr BW.emp) | exact Or.inr BW.emp | exact BW.emp | exact Or.inr (Or.inr BW.pre) | exact Or.inr BW.pre | exact BW.pre | refine Or.inr (BW.cells ?_) | refine BW.cells ?_ | refine Or.inr (Or.inr (BW.cells ?_)) | exact Wc_cap)
        · rintro k0 F Hx ⟨n, hm0, rfl, rfl⟩ J0 hJ0
          simp -implicitDefEqProofs (disch := omega) only [h1, h1d, h2, h2d, h3, h3d, h3n, int_bne, int_beq, aApp_nil, aApp_none, aApp_some, aApp_grw, simprocAttr, amset, tyset, Function.comp_apply, one1, lenV, calleeOf, lateOk, belowV, aop, AV.ofValue, AV.ofCell, AV.cells, AV.flat, AV.one, arep, aBin, aConv]
          repeat refine And.intro (by omega) ?_
          refine cond_split (fun h4 => ?_) (fun h4 => ?_)
          · have h4d := h4
            try simp only [boolset, beq_iff_eq, ne_eq] at h4d
            have hdv := vecOK_iff.1 (dirV_ok ((n : Nat) : Int))
            have hdn := dirV_nat (n := n) (by omega)
            have hm1 := mul_bd (a := (dirV ((n : Nat) : Int)).1) (b := (ty - fy)) (A := 8065) (B := 2097152) (by omega) (by omega)
            have hm2 := mul_bd (a := (dirV ((n : Nat) : Int)).2.1) (b := (tx - fx)) (A := 8065) (B := 2097152) (by omega) (by omega)
            simp -implicitDefEqProofs (disch := omega) only [h1, h1d, h2, h2d, h3, h3d, h3n, int_bne, int_beq, h4, h4d, aApp_nil, aApp_none, aApp_some, aApp_grw, simprocAttr, amset, tyset, Function.comp_apply, one1, lenV, calleeOf, lateOk, belowV, aop, AV.ofValue, AV.ofCell, AV.cells, AV.flat, AV.one, arep, aBin, aConv]
            repeat refine And.intro (by omega) ?_
            refine call_v (by kernel_rfl) (dir_c _ ((n : Nat) : Int)) ?_
            simp -implicitDefEqProofs (disch := omega) only [h1, h1d, h2, h2d, h3, h3d, h3n, int_bne, int_beq, h4, h4d, aApp_nil, aApp_none, aApp_some, aApp_grw, simprocAttr, amset, tyset, Function.comp_apply, one1, lenV, calleeOf, lateOk, belowV, aop, AV.ofValue, AV.ofCell, AV.cells, AV.flat, AV.one, arep, aBin, aConv]
            repeat refine And.intro (by omega) ?_
            refine call_v (by kernel_rfl) (mhalf_c _ ((dirV ((n : Nat) : Int)).1) ((dirV ((n : Nat) : Int)).2.1)) ?_
            simp -implicitDefEqProofs (disch := omega) only [h1, h1d, h2, h2d, h3, h3d, h3n, int_bne, int_beq, h4, h4d, aApp_nil, aApp_none, aApp_some, aApp_grw, simprocAttr, amset, tyset, Function.comp_apply, one1, lenV, calleeOf, lateOk, belowV, aop, AV.ofValue, AV.ofCell, AV.cells, AV.flat, AV.one, arep, aBin, aConv]
            repeat refine And.intro (by omega) ?_
            refine call_v (by kernel_rfl) (mhalf_c _ (tx - fx) (ty - fy)) ?_
            simp -implicitDefEqProofs (disch := omega) only [h1, h1d, h2, h2d, h3, h3d, h3n, int_bne, int_beq, h4, h4d, aApp_nil, aApp_none, aApp_some, aApp_grw, simprocAttr, amset, tyset, Function.comp_apply, one1, lenV, calleeOf, lateOk, belowV, aop, AV.ofValue, AV.ofCell, AV.cells, AV.flat, AV.one, arep, aBin, aConv]
            repeat refine And.intro (by omega) ?_
            refine gd_split (fun h5 => ?_) (fun h5 => ?_)
            · have h5d := h5
              try simp only [boolset, beq_iff_eq, ne_eq] at h5d
              have hnl := h5d
              simp -implicitDefEqProofs (disch := omega) only [h1, h1d, h2, h2d, h3, h3d, h3n, int_bne, int_beq, h4, h4d, h5, h5d, aApp_nil, aApp_none, aApp_some, aApp_grw, simprocAttr, amset, tyset, Function.comp_apply, one1, lenV, calleeOf, lateOk, belowV, aop, AV.ofValue, AV.ofCell, AV.cells, AV.flat, AV.one, arep, aBin, aConv]
              repeat refine And.intro (by omega) ?_
              refine gd_split (fun h6 => ?_) (fun h6 => ?_)
              · have h6d := h6
                try simp only [boolset, beq_iff_eq, ne_eq] at h6d
                have heq := h6d
                simp -implicitDefEqProofs (disch := omega) only [h1, h1d, h2, h2d, h3, h3d, h3n, int_bne, int_beq, h4, h4d, h5, h5d, h6, h6d, aApp_nil, aApp_none, aApp_some, aApp_grw, simprocAttr, amset, tyset, Function.comp_apply, one1, lenV, calleeOf, lateOk, belowV, aop, AV.ofValue, AV.ofCell, AV.cells, AV.flat, AV.one, arep, aBin, aConv]
                repeat refine And.intro (by omega) ?_
                refine cond_split (fun h7 => ?_) (fun h7 => ?_)
                · have h7d := h7
                  try simp only [boolset, beq_iff_eq, ne_eq] at h7d
                  have hbey : beyB (dirN n) (tx - fx) (ty - fy) = false := by rw [← hdn, bey_eq heq]; exact decide_eq_false (by omega)
                  simp -implicitDefEqProofs (disch := omega) only [h1, h1d, h2, h2d, h3, h3d, h3n, int_bne, int_beq, h4, h4d, h5, h5d, h6, h6d, h7, h7d, aApp_nil, aApp_none, aApp_some, aApp_grw, simprocAttr, amset, tyset, Function.comp_apply, one1, lenV, calleeOf, lateOk, belowV, aop, AV.ofValue, AV.ofCell, AV.cells, AV.flat, AV.one, arep, aBin, aConv]
                  repeat refine And.intro (by omega) ?_
                  refine hJ0 _ _ ⟨k0 - 1, by omega, _, _, _, ⟨n + 1, by omega, rfl, rfl⟩, Abs.byN hbel ?_⟩
                  simp -implicitDefEqProofs (disch := omega) only [towN.eq_2, hbey, if_true, if_false, Bool.false_eq_true, h3d, h6d, W_nil0, W_nil1, W_cap', Wc_nil0, Wc_nil1, Wc_cap', absF, absH, W_refl', W_any', W_agg, W_tup, Ws_cons, Ws_refl', Wc_refl', Wcs_cons, Wcs_nil, look, List.cons_append, List.nil_append, List.append_nil, List.length_cons, List.length_nil, Nat.zero_add, Nat.reduceAdd, AV.mv, AV.mvs, ABlk.mv, sig_new0, sig_newk, sig_lt, List.getElem?_cons_zero, List.getElem?_cons_succ, mvs_ints, mvs_bools, mvs_prs, mvs_append, cond_true, cond_false, beq_self_eq_true, Nat.reduceBEq, true_and, and_true, or_true, true_or, and_self, decide_true, Nat.add_zero, reduceCtorEq, false_or, or_false]
                  repeat' (first | exact True.intro | exact Nat.add_lt_add_left (by decide) _ | exact Nat.lt_add_of_pos_right (by decide) | refine W_nils ?_ (Or.inr rfl) | refine W_nils ?_ (Or.inl rfl) | refine Wc_nils ?_ (Or.inr rfl) | refine Wc_nils ?_ (Or.inl rfl) | exact W_cap | rfl | refine And.intro ?_ ?_ | exact Or.inl rfl | exact Or.inr rfl | exact Or.inr (Or.inl rfl) | exact Or.inr (Or.inr BW.emp) | exact Or.inr BW.emp | exact BW.emp | exact Or.inr (Or.inr BW.pre) | exact Or.inr BW.pre | exact BW.pre | refine Or.inr (BW.cells ?_) | refine BW.cells ?_ | refine Or.inr (Or.inr (BW.cells ?_)) | exact Wc_cap)
                · have h7d := h7
                  try simp only [boolset, beq_iff_eq, ne_eq] at h7d
                  have hbey : beyB (dirN n) (tx - fx) (ty - fy) = true := by rw [← hdn, bey_eq heq]; exact decide_eq_true (by omega)
                  simp -implicitDefEqProofs (disch := omega) only [h1, h1d, h2, h2d, h3, h3d, h3n, int_bne, int_beq, h4, h4d, h5, h5d, h6, h6d, h7, h7d, aApp_nil, aApp_none, aApp_some, aApp_grw, simprocAttr, amset, tyset, Function.comp_apply, one1, lenV, calleeOf, lateOk, belowV, aop, AV.ofValue, AV.ofCell, AV.cells, AV.flat, AV.one, arep, aBin, aConv]
                  repeat refine And.intro (by omega) ?_
                  refine hJ0 _ _ ⟨k0 - 1, by omega, _, _, _, ⟨n + 1, by omega, rfl, rfl⟩, Abs.byN hbel ?_⟩
                  simp -implicitDefEqProofs (disch := omega) only [towN.eq_2, hbey, if_true, if_false, Bool.false_eq_true, h3d, h6d, W_nil0, W_nil1, W_cap', Wc_nil0, Wc_nil1, Wc_cap', absF, absH, W_refl', W_any', W_agg, W_tup, Ws_cons, Ws_refl', Wc_refl', Wcs_cons, Wcs_nil, look, List.cons_append, List.nil_append, List.append_nil, List.length_cons, List.length_nil, Nat.zero_add, Nat.reduceAdd, AV.mv, AV.mvs, ABlk.mv, sig_new0, sig_newk, sig_lt, List.getElem?_cons_zero, List.getElem?_cons_succ, mvs_ints, mvs_bools, mvs_prs, mvs_append, cond_true, cond_false, beq_self_eq_true, Nat.reduceBEq, true_and, and_true, or_true, true_or, and_self, decide_true, Nat.add_zero, reduceCtorEq, false_or, or_false]
                  repeat' (first | exact True.intro | exact Nat.add_lt_add_left (by decide) _ | exact Nat.lt_add_of_pos_right (by decide) | refine W_nils ?_ (Or.inr rfl) | refine W_nils ?_ (Or.inl rfl) | refine Wc_nils ?_ (Or.inr rfl) | refine Wc_nils ?_ (Or.inl rfl) | exact W_cap | rfl | refine And.intro ?_ ?_ | exact Or.inl rfl | exact Or.inr rfl | exact Or.inr (Or.inl rfl) | exact Or.inr (Or.inr BW.emp) | exact Or.inr BW.emp | exact BW.emp | exact Or.inr (Or.inr BW.pre) | exact Or.inr BW.pre | exact BW.pre | refine Or.inr (BW.cells ?_) | refine BW.cells ?_ | refine Or.inr (Or.inr (BW.cells ?_)) | exact Wc_cap)
              · have h6d := h6
                try simp only [boolset, beq_iff_eq, ne_eq] at h6d
                have hbey : beyB (dirN n) (tx - fx) (ty - fy) = true := by rw [← hdn]; exact bey_gt (by omega) h6d
                simp -implicitDefEqProofs (disch := omega) only [h1, h1d, h2, h2d, h3, h3d, h3n, int_bne, int_beq, h4, h4d, h5, h5d, h6, h6d, aApp_nil, aApp_none, aApp_some, aApp_grw, simprocAttr, amset, tyset, Function.comp_apply, one1, lenV, calleeOf, lateOk, belowV, aop, AV.ofValue, AV.ofCell, AV.cells, AV.flat, AV.one, arep, aBin, aConv]
                repeat refine And.intro (by omega) ?_
                refine hJ0 _ _ ⟨k0 - 1, by omega, _, _, _, ⟨n + 1, by omega, rfl, rfl⟩, Abs.byN hbel ?_⟩
                simp -implicitDefEqProofs (disch := omega) only [towN.eq_2, hbey, if_true, if_false, Bool.false_eq_true, h3d, h6d, W_nil0, W_nil1, W_cap', Wc_nil0, Wc_nil1, Wc_cap', absF, absH, W_refl', W_any', W_agg, W_tup, Ws_cons, Ws_refl', Wc_refl', Wcs_cons, Wcs_nil, look, List.cons_append, List.nil_append, List.append_nil, List.length_cons, List.length_nil, Nat.zero_add, Nat.reduceAdd, AV.mv, AV.mvs, ABlk.mv, sig_new0, sig_newk, sig_lt, List.getElem?_cons_zero, List.getElem?_cons_succ, mvs_ints, mvs_bools, mvs_prs, mvs_append, cond_true, cond_false, beq_self_eq_true, Nat.reduceBEq, true_and, and_true, or_true, true_or, and_self, decide_true, Nat.add_zero, reduceCtorEq, false_or, or_false]
                repeat' (first | exact True.intro | exact Nat.add_lt_add_left (by decide) _ | exact Nat.lt_add_of_pos_right (by decide) | refine W_nils ?_ (Or.inr rfl) | refine W_nils ?_ (Or.inl rfl) | refine Wc_nils ?_ (Or.inr rfl) | refine Wc_nils ?_ (Or.inl rfl) | exact W_cap | rfl | refine And.intro ?_ ?_ | exact Or.inl rfl | exact Or.inr rfl | exact Or.inr (Or.inl rfl) | exact Or.inr (Or.inr BW.emp) | exact Or.inr BW.emp | exact BW.emp | exact Or.inr (Or.inr BW.pre) | exact Or.inr BW.pre | exact BW.pre | refine Or.inr (BW.cells ?_) | refine BW.cells ?_ | refine Or.inr (Or.inr (BW.cells ?_)) | exact Wc_cap)
            · have h5d := h5
              try simp only [boolset, beq_iff_eq, ne_eq] at h5d
              have hbey : beyB (dirN n) (tx - fx) (ty - fy) = false := by rw [← hdn]; exact bey_lt h5d
              simp -implicitDefEqProofs (disch := omega) only [h1, h1d, h2, h2d, h3, h3d, h3n, int_bne, int_beq, h4, h4d, h5, h5d, aApp_nil, aApp_none, aApp_some, aApp_grw, simprocAttr, amset, tyset, Function.comp_apply, one1, lenV, calleeOf, lateOk, belowV, aop, AV.ofValue, AV.ofCell, AV.cells, AV.flat, AV.one, arep, aBin, aConv]
              repeat refine And.intro (by omega) ?_
              refine hJ0 _ _ ⟨k0 - 1, by omega, _, _, _, ⟨n + 1, by omega, rfl, rfl⟩, Abs.byN hbel ?_⟩
              simp -implicitDefEqProofs (disch := omega) only [towN.eq_2, hbey, if_true, if_false, Bool.false_eq_true, h3d, W_nil0, W_nil1, W_cap', Wc_nil0, Wc_nil1, Wc_cap', absF, absH, W_refl', W_any', W_agg, W_tup, Ws_cons, Ws_refl', Wc_refl', Wcs_cons, Wcs_nil, look, List.cons_append, List.nil_append, List.append_nil, List.length_cons, List.length_nil, Nat.zero_add, Nat.reduceAdd, AV.mv, AV.mvs, ABlk.mv, sig_new0, sig_newk, sig_lt, List.getElem?_cons_zero, List.getElem?_cons_succ, mvs_ints, mvs_bools, mvs_prs, mvs_append, cond_true, cond_false, beq_self_eq_true, Nat.reduceBEq, true_and, and_true, or_true, true_or, and_self, decide_true, Nat.add_zero, reduceCtorEq, false_or, or_false]
              repeat' (first | exact True.intro | exact Nat.add_lt_add_left (by decide) _ | exact Nat.lt_add_of_pos_right (by decide) | refine W_nils ?_ (Or.inr rfl) | refine W_nils ?_ (Or.inl rfl) | refine Wc_nils ?_ (Or.inr rfl) | refine Wc_nils ?_ (Or.inl rfl) | exact W_cap | rfl | refine And.intro ?_ ?_ | exact Or.inl rfl | exact Or.inr rfl | exact Or.inr (Or.inl rfl) | exact Or.inr (Or.inr BW.emp) | exact Or.inr BW.emp | exact BW.emp | exact Or.inr (Or.inr BW.pre) | exact Or.inr BW.pre | exact BW.pre | refine Or.inr (BW.cells ?_) | refine BW.cells ?_ | refine Or.inr (Or.inr (BW.cells ?_)) | exact Wc_cap)
          · have h4d := h4
            try simp only [boolset, beq_iff_eq, ne_eq] at h4d
            obtain rfl : n = 256 := by omega
            simp -implicitDefEqProofs (disch := omega) only [h1, h1d, h2, h2d, h3, h3d, h3n, int_bne, int_beq, h4, h4d, aApp_nil, aApp_none, aApp_some, aApp_grw, simprocAttr, amset, tyset, Function.comp_apply, one1, lenV, calleeOf, lateOk, belowV, aop, AV.ofValue, AV.ofCell, AV.cells, AV.flat, AV.one, arep, aBin, aConv]
            repeat refine And.intro (by omega) ?_
            exact hQ _ _ (end_plain0 (.inl rfl) hbel (x := .tup [.int .i64 ((towN (tx - fx) (ty - fy) 256 : Nat) : Int), .int .i64 0]) (ret_of Tryz.results36 (by simp -implicitDefEqProofs (disch := omega) only [simprocAttr, amset, tyset, Function.comp_apply, one1, lenV, calleeOf, lateOk, belowV, aop, AV.ofValue, AV.ofCell, AV.cells, AV.flat, AV.one, arep, aBin, aAppend, aConv])) rfl ⟨by first | (simp [towI, towE, h1d, h2d, h3d, h4d, hfinE]; done) | (simp [towI, hfinE]; done) | (rw [show towI fx fy tx ty = ((towN (tx - fx) (ty - fy) 256 : Nat) : Int) from if_pos hfinE, hfinE]), rfl⟩)
  · have h1d := h1
    try simp only [boolset, beq_iff_eq, ne_eq] at h1d
    simp -implicitDefEqProofs (disch := omega) only [h1, h1d, aApp_nil, aApp_none, aApp_some, aApp_grw, simprocAttr, amset, tyset, Function.comp_apply, one1, lenV, calleeOf, lateOk, belowV, aop, AV.ofValue, AV.ofCell, AV.cells, AV.flat, AV.one, arep, aBin, aConv]
    repeat refine And.intro (by omega) ?_
    exact hQ _ _ (end_plain (.inl rfl) hbel (x := .tup [.int .i64 0, .int .i64 1]) (ret_of Tryz.results36 (by simp -implicitDefEqProofs (disch := omega) only [simprocAttr, amset, tyset, Function.comp_apply, one1, lenV, calleeOf, lateOk, belowV, aop, AV.ofValue, AV.ofCell, AV.cells, AV.flat, AV.one, arep, aBin, aAppend, aConv])) rfl ⟨by first | (simp [towI, towE, h1d]; done) | (simp [towI, hfinE]; done) | (rw [show towI fx fy tx ty = ((towN (tx - fx) (ty - fy) 256 : Nat) : Int) from if_pos hfinE, hfinE]), rfl⟩)
end Go.Proofs.YtoimakfecmhjkaaGreat

/- Slices of points read off the memory. Conditions: none. -/
namespace Go.Proofs.YtoimakfecmhjkaaGreat
set_option linter.unusedSimpArgs false
set_option linter.unusedVariables false
open Go.RowKit
def prsOf : List AV → Option (List Pt)
  | [] => some []
  | .int .i64 x :: .int .i64 y :: r => (prsOf r).map ((x, y) :: ·)
  | _ => none
theorem prsOf_eq : ∀ (xs : List AV) (l : List Pt), prsOf xs = some l → xs = prs l
  | [], l, h => by simp [prsOf] at h; subst h; rfl
  | .int .i64 x :: .int .i64 y :: r, l, h => by
    simp only [prsOf, Option.map_eq_some_iff] at h
    obtain ⟨m, hm, rfl⟩ := h
    rw [prsOf_eq r m hm]; rfl
  | [x], l, h => by unfold prsOf at h; split at h <;> simp_all
  | x :: y :: r, l, h => by
    unfold prsOf at h
    split at h
    · simp_all
    · rename_i e
      injection e with e1 e2
      injection e2 with e2 e3
      subst e1 e2 e3
      simp only [Option.map_eq_some_iff] at h
      obtain ⟨m, hm, rfl⟩ := h
      rw [prsOf_eq _ m hm]; rfl
    · cases h
/-- The generators of a zonogon's slice. -/
def gensOf (H : AHeap) (s : AV) : Option (List Pt) :=
  match s with
  | .sl (some (b, 0)) n _ => match H[b]? with
    | some (.cells _ 2 xs) => (prsOf xs).bind fun l => bif Nat.beq l.length n then some l else none
    | _ => none
  | _ => none
theorem gensOf_isP {H : AHeap} {s : AV} {l : List Pt} (h : gensOf H s = some l) : SlP H s l := by
  unfold gensOf at h
  split at h
  · rename_i b n c
    split at h
    · rename_i own xs hb
      cases hp : prsOf xs with
      | none => rw [hp] at h; cases h
      | some m =>
        rw [hp, Option.bind_some] at h
        cases hn : Nat.beq m.length n
        · rw [hn] at h; cases h
        · rw [hn, cond_true] at h
          injection h with h
          subst h
          have := Nat.eq_of_beq_eq_true hn
          subst this
          exact ⟨b, own, c, rfl, by rw [hb, prsOf_eq _ _ hp]⟩
    · cases h
  · cases h
theorem TbOk.filter {P : Program} (p : Nat × Bool × Func → Bool) : ∀ {tb : List (Nat × Bool × Func)}, TbOk P tb → TbOk P (tb.filter p)
  | _, .nil => .nil
  | _, .cons (f := f) (q := q) (fn := fn) h1 h2 h3 hr => by
    rw [List.filter_cons]
    split
    · exact .cons h1 h2 h3 (TbOk.filter p hr)
    · exact TbOk.filter p hr
end Go.Proofs.YtoimakfecmhjkaaGreat

/- The functions that the run of chapter 40's awake takes by their contracts. Conditions: none. -/
namespace Go.Proofs.YtoimakfecmhjkaaGreat
set_option linter.unusedSimpArgs false
set_option linter.unusedVariables false
open Go.RowKit
def ext40 : Caller := fun f args H =>
  match args with
  | [.int .i64 h] => bif Nat.beq f 53 then some (.agg [.int .i64 (dirV h).1, .int .i64 (dirV h).2.1, .int .i64 (dirV h).2.2], none) else none
  | [.agg [.int .i64 x0, .int .i64 y0, .int .i64 x1, .int .i64 y1], .int .i64 h, .agg [.int .i64 t, .int .i64 g], .agg [.int .i64 tu, .int .i64 le, .int .i64 sl, .int .i64 ra]] =>
    bif Nat.beq f 13 then some (.tup [.agg [.int .i64 (mkX (sweE x0 y0 x1 y1 h t g tu le sl ra) (sweX x0 x1 h g le)), .int .i64 (mkX (sweE x0 y0 x1 y1 h t g tu le sl ra) (sweY y0 y1 h g le)), .sl (some (H.length, 0)) (mkL (sweE x0 y0 x1 y1 h t g tu le sl ra) (sweL x0 y0 x1 y1 h g le sl)).length (capG (mkL (sweE x0 y0 x1 y1 h t g tu le sl ra) (sweL x0 y0 x1 y1 h g le sl)).length)], .int .i64 (sweE x0 y0 x1 y1 h t g tu le sl ra)],
      some (H ++ [.cells (ownG (mkL (sweE x0 y0 x1 y1 h t g tu le sl ra) (sweL x0 y0 x1 y1 h g le sl)).length) 2 (prs (mkL (sweE x0 y0 x1 y1 h t g tu le sl ra) (sweL x0 y0 x1 y1 h g le sl)))])) else none
  | [.agg [.int .i64 fx, .int .i64 fy], .agg [.int .i64 tx, .int .i64 ty]] => bif Nat.beq f 36 then some (.tup [.int .i64 (towI fx fy tx ty), .int .i64 (towE fx fy tx ty)], none) else none
  | [.agg [.int .i64 x, .int .i64 y, s], .agg [.int .i64 x0, .int .i64 y0, .int .i64 x1, .int .i64 y1]] =>
    bif Nat.beq f 68 then (gensOf H s).map fun l => (.bool (apartB x y l x0 y0 x1 y1), none) else none
  | [.sl none 0 (some 0), .int .i64 n] =>
    bif Nat.beq f 163 && (decide (0 < n) && decide (n ≤ 1000)) then some (.sl (some (H.length, 0)) 0 none, some (H ++ [.cells true 2 []])) else none
  | _ => ext f args H
theorem ext40_ok : CallOk Tryz.prog ext40 := fun f args H x o h => by
  unfold ext40 at h
  split at h
  · rename_i z
    cases hf : Nat.beq f 53
    · rw [hf] at h; cases h
    · rw [hf, cond_true] at h
      have e := Nat.eq_of_beq_eq_true hf
      subst e
      simp only [Option.some.injEq, Prod.mk.injEq] at h
      obtain ⟨rfl, rfl⟩ := h
      exact ⟨by kernel_rfl, Nat.le_refl _, dir_c H z⟩
  · rename_i x0 y0 x1 y1 z t g tu le sl ra
    cases hf : Nat.beq f 13
    · rw [hf] at h; cases h
    · rw [hf, cond_true] at h
      have e := Nat.eq_of_beq_eq_true hf
      subst e
      simp only [Option.some.injEq, Prod.mk.injEq] at h
      obtain ⟨rfl, rfl⟩ := h
      exact ⟨by kernel_rfl, by simp, sweep_c H x0 y0 x1 y1 z t g tu le sl ra⟩
  · rename_i fx fy tx ty
    cases hf : Nat.beq f 36
    · rw [hf] at h; cases h
    · rw [hf, cond_true] at h
      have e := Nat.eq_of_beq_eq_true hf
      subst e
      simp only [Option.some.injEq, Prod.mk.injEq] at h
      obtain ⟨rfl, rfl⟩ := h
      exact ⟨by kernel_rfl, Nat.le_refl _, toward_c H fx fy tx ty⟩
  · rename_i x y s x0 y0 x1 y1
    cases hf : Nat.beq f 68
    · rw [hf] at h; cases h
    · rw [hf, cond_true] at h
      have e := Nat.eq_of_beq_eq_true hf
      subst e
      simp only [Option.map_eq_some_iff, Prod.mk.injEq] at h
      obtain ⟨l1, h1, rfl, rfl⟩ := h
      exact ⟨by kernel_rfl, Nat.le_refl _, apart_c H _ _ _ _ _ _ _ _ (gensOf_isP h1)⟩
  · rename_i n
    cases hf : Nat.beq f 163 && (decide (0 < n) && decide (n ≤ 1000))
    · rw [hf] at h; cases h
    · rw [hf, cond_true] at h
      simp only [Bool.and_eq_true, decide_eq_true_eq] at hf
      obtain ⟨h1, h2, h3⟩ := hf
      have e := Nat.eq_of_beq_eq_true h1
      subst e
      simp only [Option.some.injEq, Prod.mk.injEq] at h
      obtain ⟨rfl, rfl⟩ := h
      obtain ⟨m, rfl⟩ : ∃ m : Nat, n = m := ⟨n.toNat, by omega⟩
      exact ⟨by kernel_rfl, by simp, grow_a (by omega) (by omega)⟩
  · exact ext_ok f args H x o h
/-- The functions that the run enters: all but those. -/
noncomputable def tb40 : List (Nat × Bool × Func) := tb.filter fun p => !Nat.beq p.1 163 && !Nat.beq p.1 53 && !Nat.beq p.1 36
theorem tb40_ok : TbOk Tryz.prog tb40 := tb_ok.filter _
end Go.Proofs.YtoimakfecmhjkaaGreat

/- awake of law 40, by the kernel's own run. Conditions: none. -/
namespace Go.Proofs.YtoimakfecmhjkaaGreat
set_option linter.unusedSimpArgs false
set_option linter.unusedVariables false
open Go.RowKit
theorem awake_a (H : AHeap) : ACalls Tryz.prog 12 [] H (fun v H' => v = .bool true ∧ H' = H) :=
  ACalls.closed (ran try_mixed ext40_ok tb40 tb40_ok 20000 60 (x := .bool true) (o := none) (by kernel_rfl)) rfl rfl H
end Go.Proofs.YtoimakfecmhjkaaGreat

/- Walks by the abstract machine: MotionSweeps. Conditions: as each theorem states. -/
namespace Go.Proofs.YtoimakfecmhjkaaGreat
set_option linter.unusedSimpArgs false
set_option linter.unusedVariables false
open Go.RowKit
set_option maxHeartbeats 4000000 in
set_option maxRecDepth 100000 in
theorem lsweeps_c (H : AHeap) (x0 : Int) (y0 : Int) (x1 : Int) (y1 : Int) (h : Int) (t : Int) (f : Int) (bm : Bool) (sc : AV) (ev : List (Int × Int)) (tu : Int) (le : Int) (sl : Int) (ra : Int) (hsc : Sl H 2 sc ev.length (prs ev)) : ACalls Tryz.prog 3 [.agg [.int .i64 x0, .int .i64 y0, .int .i64 x1, .int .i64 y1], .agg [.int .i64 h, .int .i64 t, .int .i64 f, .bool bm, sc], .agg [.int .i64 tu, .int .i64 le, .int .i64 sl, .int .i64 ra]] H (fun v H' => v = .bool true ∧ H' = H) := by
  obtain ⟨bsc, osc, csc, rfl, hbsc⟩ := hsc
  have hblsc := getElem?_lt hbsc
  have hb0sc := fun l => get_app (l := l) hbsc
  (refine ACalls_run try_mixed Tryz.func3 true _ rfl (Nat.le_of_ble_eq_true (by kernel_rfl)) (by kernel_rfl) ?_; intro hbel Q hQ hQ' c hc; unfold Tryz.f3 at hc; simp only [Option.some.injEq] at hc; subst hc; clear hQ')
  simp -implicitDefEqProofs (disch := omega) only [hbsc, hb0sc, aApp_nil, aApp_none, aApp_some, aApp_grw, simprocAttr, amset, tyset, Function.comp_apply, one1, lenV, calleeOf, lateOk, belowV, aop, AV.ofValue, AV.ofCell, AV.cells, AV.flat, AV.one, arep, aBin, aConv]
  repeat refine And.intro (by omega) ?_
  refine call_v (by kernel_rfl) (awake_a _) ?_
  simp -implicitDefEqProofs (disch := omega) only [hbsc, hb0sc, aApp_nil, aApp_none, aApp_some, aApp_grw, simprocAttr, amset, tyset, Function.comp_apply, one1, lenV, calleeOf, lateOk, belowV, aop, AV.ofValue, AV.ofCell, AV.cells, AV.flat, AV.one, arep, aBin, aConv]
  repeat refine And.intro (by omega) ?_
  refine call_v (by kernel_rfl) (sweep_c _ x0 y0 x1 y1 h t f tu le sl ra) ?_
  simp -implicitDefEqProofs (disch := omega) only [hbsc, hb0sc, aApp_nil, aApp_none, aApp_some, aApp_grw, simprocAttr, amset, tyset, Function.comp_apply, one1, lenV, calleeOf, lateOk, belowV, aop, AV.ofValue, AV.ofCell, AV.cells, AV.flat, AV.one, arep, aBin, aConv]
  repeat refine And.intro (by omega) ?_
  refine call_v (by kernel_rfl) (rsweep_c _ x0 y0 x1 y1 h t f tu le sl ra) ?_
  simp -implicitDefEqProofs (disch := omega) only [hbsc, hb0sc, aApp_nil, aApp_none, aApp_some, aApp_grw, simprocAttr, amset, tyset, Function.comp_apply, one1, lenV, calleeOf, lateOk, belowV, aop, AV.ofValue, AV.ofCell, AV.cells, AV.flat, AV.one, arep, aBin, aConv]
  repeat refine And.intro (by omega) ?_
  have hmk : (mkL (sweE x0 y0 x1 y1 h t f tu le sl ra) (sweL x0 y0 x1 y1 h f le sl)).length ≤ 40 := Nat.le_trans (mkL_le _ _) (sweL_len _ _ _ _ _ _ _ _)
  refine call_v (by kernel_rfl) (zonogons_c _ (mkX (sweE x0 y0 x1 y1 h t f tu le sl ra) (sweX x0 x1 h f le)) (mkX (sweE x0 y0 x1 y1 h t f tu le sl ra) (sweY y0 y1 h f le)) (mkX (sweE x0 y0 x1 y1 h t f tu le sl ra) (sweX x0 x1 h f le)) (mkX (sweE x0 y0 x1 y1 h t f tu le sl ra) (sweY y0 y1 h f le)) _ _ (mkL (sweE x0 y0 x1 y1 h t f tu le sl ra) (sweL x0 y0 x1 y1 h f le sl)) (mkL (sweE x0 y0 x1 y1 h t f tu le sl ra) (sweL x0 y0 x1 y1 h f le sl)) (.inr ⟨_, _, _, by first | rfl | (rw [List.length_append]; done) | (rw [List.length_append]; rfl), by first | rfl | (rw [get_newk]; rfl) | (rw [get_new0]; rfl) | (rw [get_newk, prs_append]; rfl) | (rw [get_new0, prs_append]; rfl)⟩) (.inr ⟨_, _, _, by first | rfl | (rw [List.length_append]; done) | (rw [List.length_append]; rfl), by first | rfl | (rw [get_newk]; rfl) | (rw [get_new0]; rfl) | (rw [get_newk, prs_append]; rfl) | (rw [get_new0, prs_append]; rfl)⟩) (by first | omega | (simp only [List.length_cons, List.length_nil]; omega) | exact Nat.le_trans (mkL_len _ _) (by first | omega | simp) | exact Nat.le_trans (vL_len _ _) (by first | omega | simp) | exact Nat.le_trans corV_len (by omega) | exact Nat.le_trans (canonL_len _) (by first | omega | simp)) (by first | omega | (simp only [List.length_cons, List.length_nil]; omega) | exact Nat.le_trans (mkL_len _ _) (by first | omega | simp) | exact Nat.le_trans (vL_len _ _) (by first | omega | simp) | exact Nat.le_trans corV_len (by omega) | exact Nat.le_trans (canonL_len _) (by first | omega | simp))) ?_
  simp -implicitDefEqProofs (disch := omega) only [hbsc, hb0sc, aApp_nil, aApp_none, aApp_some, aApp_grw, simprocAttr, amset, tyset, Function.comp_apply, one1, lenV, calleeOf, lateOk, belowV, aop, AV.ofValue, AV.ofCell, AV.cells, AV.flat, AV.one, arep, aBin, aConv]
  repeat refine And.intro (by omega) ?_
  exact hQ _ _ (end_plain (.inl rfl) hbel (x := .bool true) (ret_of Tryz.results3 (by simp -implicitDefEqProofs (disch := omega) only [simprocAttr, amset, tyset, Function.comp_apply, one1, lenV, calleeOf, lateOk, belowV, aop, AV.ofValue, AV.ofCell, AV.cells, AV.flat, AV.one, arep, aBin, aAppend, aConv])) rfl ⟨by simp [true_and], rfl⟩)
end Go.Proofs.YtoimakfecmhjkaaGreat
namespace Go.Proofs.YtoimakfecmhjkaaGreat
set_option linter.unusedSimpArgs false
set_option linter.unusedVariables false
open Go.RowKit
set_option maxRecDepth 100000 in
theorem motionSweeps_top (H : AHeap) (xs : List AV) (hn : xs.length = 3) (hy : ∀ (j : Nat) (t : TypeId) (x : AV), [23, 28, 30][j]? = some t → xs[j]? = some x → ATy Tryz.prog H 9 t x) : ACalls Tryz.prog 3 xs H (fun v H' => v = .bool true ∧ H' = H) := by
  match xs, hn, hy with
  | [a0, a1, a2], _, hy =>
    obtain ⟨ys0, e0, r0_0⟩ := (hy 0 _ a0 rfl rfl).agg (ls := [3, 3, 3, 3]) (by kernel_rfl) (by kernel_rfl)
    obtain ⟨y0_0, q0_0, rfl, t0_0, r0_1⟩ := r0_0.cons
    obtain ⟨z1, rfl, w1⟩ := t0_0.int (k := .i64) (by kernel_rfl)
    obtain ⟨y0_1, q0_1, rfl, t0_1, r0_2⟩ := r0_1.cons
    obtain ⟨z2, rfl, w2⟩ := t0_1.int (k := .i64) (by kernel_rfl)
    obtain ⟨y0_2, q0_2, rfl, t0_2, r0_3⟩ := r0_2.cons
    obtain ⟨z3, rfl, w3⟩ := t0_2.int (k := .i64) (by kernel_rfl)
    obtain ⟨y0_3, q0_3, rfl, t0_3, r0_4⟩ := r0_3.cons
    obtain ⟨z4, rfl, w4⟩ := t0_3.int (k := .i64) (by kernel_rfl)
    obtain rfl := r0_4.nil
    subst e0
    obtain ⟨ys1, e1, r1_0⟩ := (hy 1 _ a1 rfl rfl).agg (ls := [3, 3, 3, 4, 26]) (by kernel_rfl) (by kernel_rfl)
    obtain ⟨y1_0, q1_0, rfl, t1_0, r1_1⟩ := r1_0.cons
    obtain ⟨z5, rfl, w5⟩ := t1_0.int (k := .i64) (by kernel_rfl)
    obtain ⟨y1_1, q1_1, rfl, t1_1, r1_2⟩ := r1_1.cons
    obtain ⟨z6, rfl, w6⟩ := t1_1.int (k := .i64) (by kernel_rfl)
    obtain ⟨y1_2, q1_2, rfl, t1_2, r1_3⟩ := r1_2.cons
    obtain ⟨z7, rfl, w7⟩ := t1_2.int (k := .i64) (by kernel_rfl)
    obtain ⟨y1_3, q1_3, rfl, t1_3, r1_4⟩ := r1_3.cons
    obtain ⟨z8, rfl⟩ := t1_3.bool (by kernel_rfl)
    obtain ⟨y1_4, q1_4, rfl, t1_4, r1_5⟩ := r1_4.cons
    obtain ⟨l9, s9, m9, w9⟩ := t1_4.pairsU (n := 7) (t := 26) (e := 216) (u := 3) (v := 3) (by kernel_rfl) (by kernel_rfl) (by kernel_rfl) (by kernel_rfl)
    obtain rfl := r1_5.nil
    subst e1
    obtain ⟨ys2, e2, r2_0⟩ := (hy 2 _ a2 rfl rfl).agg (ls := [3, 3, 3, 3]) (by kernel_rfl) (by kernel_rfl)
    obtain ⟨y2_0, q2_0, rfl, t2_0, r2_1⟩ := r2_0.cons
    obtain ⟨z10, rfl, w10⟩ := t2_0.int (k := .i64) (by kernel_rfl)
    obtain ⟨y2_1, q2_1, rfl, t2_1, r2_2⟩ := r2_1.cons
    obtain ⟨z11, rfl, w11⟩ := t2_1.int (k := .i64) (by kernel_rfl)
    obtain ⟨y2_2, q2_2, rfl, t2_2, r2_3⟩ := r2_2.cons
    obtain ⟨z12, rfl, w12⟩ := t2_2.int (k := .i64) (by kernel_rfl)
    obtain ⟨y2_3, q2_3, rfl, t2_3, r2_4⟩ := r2_3.cons
    obtain ⟨z13, rfl, w13⟩ := t2_3.int (k := .i64) (by kernel_rfl)
    obtain rfl := r2_4.nil
    subst e2
    exact lsweeps_c H z1 z2 z3 z4 z5 z6 z7 z8 _ l9 z10 z11 z12 z13 s9
section
open Go.ChangeShapes Go.WideShapes Go.ChangeAt Go.RowKit Go.Joins
open Go.ChangeMaps (open_string shut_string)
set_option maxRecDepth 100000 in
theorem motionSweeps_lifted (os : Os) (started : os.Started) (H : Type) (enc : TypeId × Value → H) :
    ReturnsInHanded {} Tryz.checked os 3 .any (Rows.motionSweepsSpec.pre6 enc Tryz.prog Tryz.f3 Rows.motionSweepsRow.domain false) (Rows.motionSweepsSpec.post enc Tryz.prog Tryz.f3 false true false false) := by
  refine returnsInHanded_of_change (C := Tryz.checked) own started (by kernel_rfl) Tryz.func3
    (ChangeSpec.witness6 (enc := enc) (C := Tryz.checked) false ⟨#[], #[.agg #[.int .i64 0, .int .i64 0, .int .i64 0, .int .i64 0], .agg #[.int .i64 0, .int .i64 0, .int .i64 0, .bool false, .slice none 0 0], .agg #[.int .i64 0, .int .i64 0, .int .i64 0, .int .i64 0]], []⟩ 8 (by kernel_rfl) (by kernel_rfl) (by kernel_rfl) (by kernel_rfl)) ?_
  intro W base args ds gs before hval0 hW hcnd _
  have hval : ∀ (j : Nat) t v, Tryz.f3.params[j]? = some t → args[j]? = some v → Value.okWide Tryz.prog W .any base t v := hval0
  have hW' := hW
  obtain ⟨p, q, hA0, hV, rfl, hfz, hnd⟩ := hW
  have hA : DataW.TrodAll enc Tryz.prog W 0 (fun _ => true) true Tryz.f3.params.toList args.toList ds p := hA0
  rw [Tryz.params3] at hA hval
  have hwalk := calls_top (n := 9) (f := 3) hA (fun j t v a b => hval j t v (by simpa using a) (by simpa using b)) (by kernel_rfl) (fun H xs hn hy => motionSweeps_top H xs hn hy)
  rw [Array.toArray_toList] at hwalk
  obtain ⟨v0, vs0, d0, ds0, p0, q0, hargs, rfl, rfl, h0, r0⟩ := trodAll_cons hA
  obtain ⟨v1, vs1, d1, ds1, p1, q1, rfl, rfl, rfl, h1, r1⟩ := trodAll_cons r0
  obtain ⟨v2, vs2, d2, ds2, p2, q2, rfl, rfl, rfl, h2, r2⟩ := trodAll_cons r1
  obtain ⟨rfl, rfl, rfl⟩ := trodAll_nil r2
  obtain rfl : args = #[v0, v1, v2] := by cases args; simp_all
  obtain ⟨rfl, rfl⟩ := trodVars_none hV
  have k0 := h0
  have lt0 : ∀ x ∈ p0, x.block < W.heap.size := by obtain ⟨m, hm⟩ := k0; exact DataW.trod_lt m _ _ _ hm
  have k1 := h1
  have lt1 : ∀ x ∈ p1, x.block < W.heap.size := by obtain ⟨m, hm⟩ := k1; exact DataW.trod_lt m _ _ _ hm
  have k2 := h2
  have lt2 : ∀ x ∈ p2, x.block < W.heap.size := by obtain ⟨m, hm⟩ := k2; exact DataW.trod_lt m _ _ _ hm
  clear hA0 hval0
  refine hwalk.mono fun e W' ⟨he, bel⟩ => ?_
  subst he
  exact ⟨_, rfl, _, _, _, [], _, [], hW', trodAll_mk1 (shut_bool Tryz.underlying4 _), (trodAll_cons_mk (Below.trod laidOut (by kernel_rfl) (of_decide_eq_true (by kernel_rfl)) k0 bel lt0) (trodAll_cons_mk (Below.trod laidOut (by kernel_rfl) (of_decide_eq_true (by kernel_rfl)) k1 bel lt1) (trodAll_cons_mk (Below.trod laidOut (by kernel_rfl) (of_decide_eq_true (by kernel_rfl)) k2 bel lt2) trodAll_mk0))), rfl, bel.frame _, fun h => by cases h⟩
theorem motionSweeps_over : Rows.motionSweepsRow.holds Tryz.pinned (OpenSpec.ofChange Rows.motionSweepsSpec) :=
  OpenClaim.holds_of_wide 3 Tryz.f3 rfl rfl rfl rfl rfl rfl rfl ⟨rfl, rfl, rfl, rfl, rfl⟩ rfl rfl rfl rfl rfl (by kernel_rfl) Tryz.func3 (by kernel_rfl)
    (of_decide_eq_true (by kernel_rfl)) (by unfold Func.isWrapper; rw [if_neg (by decide +kernel)]; exact ⟨rfl, rfl⟩)
    (fun os started H enc _ => motionSweeps_lifted os started H enc)
/-- The given statement. -/
theorem motionSweeps_proved : Rows.MotionSweepsSaid := motionSweeps_over
end
end Go.Proofs.YtoimakfecmhjkaaGreat
