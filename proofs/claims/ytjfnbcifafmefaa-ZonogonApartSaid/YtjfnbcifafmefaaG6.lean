/- Proved: the law ZonogonApart returns true on every input, and its arguments read afterwards as before. Conditions: none beyond the given row's. -/
import Derived.Test.YtjfnbcifafmefaaG5
import Derived.Test.YtjfnbcifafmefaaG2
import Derived.Test.YtjfnbcifafmefaaG4
import Derived.Test.YtjfnbcifafmefaaG3

/- Walks by the abstract machine: OfRect, OfSegment. Conditions: as each theorem states. -/
namespace Go.Proofs.Ytjfnbcifafmefaa
set_option linter.unusedSimpArgs false
set_option linter.unusedVariables false
open Go.RowKit
def ordR (x0 y0 x1 y1 : Int) : Bool := decide (x0 ≤ x1) && (decide (y0 ≤ y1) && far4 x0 y0 x1 y1)
set_option maxHeartbeats 4000000 in
set_option maxRecDepth 100000 in
theorem ofrect_c (H : AHeap) (x0 : Int) (y0 : Int) (x1 : Int) (y1 : Int) : ACalls Try.prog 27 [.agg [.int .i64 x0, .int .i64 y0, .int .i64 x1, .int .i64 y1]] H (fun v H' => v = .tup [.agg [.int .i64 (mkX (rectE x0 y0 x1 y1) (x0 + x1)), .int .i64 (mkX (rectE x0 y0 x1 y1) (y0 + y1)), .sl (some (H.length, 0)) ((mkL (rectE x0 y0 x1 y1) (canonL [(x1 - x0, 0), (0, y1 - y0)])).length) (capG (mkL (rectE x0 y0 x1 y1) (canonL [(x1 - x0, 0), (0, y1 - y0)])).length)], .int .i64 (rectE x0 y0 x1 y1)] ∧ H' = H ++ [.cells (ownG (mkL (rectE x0 y0 x1 y1) (canonL [(x1 - x0, 0), (0, y1 - y0)])).length) 2 (prs (mkL (rectE x0 y0 x1 y1) (canonL [(x1 - x0, 0), (0, y1 - y0)])))]) := by
  (refine ACalls_run try_mixed Try.func27 true _ rfl (Nat.le_of_ble_eq_true (by kernel_rfl)) (by kernel_rfl) ?_; intro hbel Q hQ hQ' c hc; unfold Try.f27 at hc; simp only [Option.some.injEq] at hc; subst hc; clear hQ')
  simp -implicitDefEqProofs (disch := omega) only [aApp_nil, aApp_none, aApp_some, aApp_grw, simprocAttr, amset, tyset, Function.comp_apply, one1, lenV, calleeOf, lateOk, belowV, aop, AV.ofValue, AV.ofCell, AV.cells, AV.flat, AV.one, arep, aBin, aConv]
  repeat refine And.intro (by omega) ?_
  refine call_v (by kernel_rfl) (near_c _ _ [x0, y0, x1, y1] (.inr ⟨_, _, _, by first | rfl | (rw [List.length_append]; rfl), by first | rfl | (rw [get_newk]; rfl) | (rw [get_new0]; rfl) | (rw [get_newk, prs_append]; rfl) | (rw [get_new0, prs_append]; rfl)⟩) (by simp)) ?_
  rw [far4_any]
  simp -implicitDefEqProofs (disch := omega) only [aApp_nil, aApp_none, aApp_some, aApp_grw, simprocAttr, amset, tyset, Function.comp_apply, one1, lenV, calleeOf, lateOk, belowV, aop, AV.ofValue, AV.ofCell, AV.cells, AV.flat, AV.one, arep, aBin, aConv]
  repeat refine And.intro (by omega) ?_
  refine gd_split (fun h1 => ?_) (fun h1 => ?_)
  · have h1d := h1
    try simp only [Bool.not_eq_true', Bool.not_eq_false', decide_eq_true_eq, decide_eq_false_iff_not, beq_iff_eq, bne_iff_ne, ne_eq, Bool.not_eq_true, Bool.not_eq_false, beq_eq_false_iff_ne, bne_eq_false_iff_eq, Classical.not_not, Bool.and_eq_true, Bool.and_eq_false_imp] at h1d
    have hfar := far4_bd h1d
    simp -implicitDefEqProofs (disch := omega) only [h1, h1d, aApp_nil, aApp_none, aApp_some, aApp_grw, simprocAttr, amset, tyset, Function.comp_apply, one1, lenV, calleeOf, lateOk, belowV, aop, AV.ofValue, AV.ofCell, AV.cells, AV.flat, AV.one, arep, aBin, aConv]
    repeat refine And.intro (by omega) ?_
    refine gd_split (fun h2 => ?_) (fun h2 => ?_)
    · have h2d := h2
      try simp only [Bool.not_eq_true', Bool.not_eq_false', decide_eq_true_eq, decide_eq_false_iff_not, beq_iff_eq, bne_iff_ne, ne_eq, Bool.not_eq_true, Bool.not_eq_false, beq_eq_false_iff_ne, bne_eq_false_iff_eq, Classical.not_not, Bool.and_eq_true, Bool.and_eq_false_imp] at h2d
      simp -implicitDefEqProofs (disch := omega) only [h1, h1d, h2, h2d, aApp_nil, aApp_none, aApp_some, aApp_grw, simprocAttr, amset, tyset, Function.comp_apply, one1, lenV, calleeOf, lateOk, belowV, aop, AV.ofValue, AV.ofCell, AV.cells, AV.flat, AV.one, arep, aBin, aConv]
      repeat refine And.intro (by omega) ?_
      refine gd_split (fun h3 => ?_) (fun h3 => ?_)
      · have h3d := h3
        try simp only [Bool.not_eq_true', Bool.not_eq_false', decide_eq_true_eq, decide_eq_false_iff_not, beq_iff_eq, bne_iff_ne, ne_eq, Bool.not_eq_true, Bool.not_eq_false, beq_eq_false_iff_ne, bne_eq_false_iff_eq, Classical.not_not, Bool.and_eq_true, Bool.and_eq_false_imp] at h3d
        simp -implicitDefEqProofs (disch := omega) only [h1, h1d, h2, h2d, h3, h3d, aApp_nil, aApp_none, aApp_some, aApp_grw, simprocAttr, amset, tyset, Function.comp_apply, one1, lenV, calleeOf, lateOk, belowV, aop, AV.ofValue, AV.ofCell, AV.cells, AV.flat, AV.one, arep, aBin, aConv]
        repeat refine And.intro (by omega) ?_
        refine gd_split (fun h4 => ?_) (fun h4 => ?_)
        · have h4d := h4
          try simp only [Bool.not_eq_true', Bool.not_eq_false', decide_eq_true_eq, decide_eq_false_iff_not, beq_iff_eq, bne_iff_ne, ne_eq, Bool.not_eq_true, Bool.not_eq_false, beq_eq_false_iff_ne, bne_eq_false_iff_eq, Classical.not_not, Bool.and_eq_true, Bool.and_eq_false_imp] at h4d
          simp -implicitDefEqProofs (disch := omega) only [h1, h1d, h2, h2d, h3, h3d, h4, h4d, aApp_nil, aApp_none, aApp_some, aApp_grw, simprocAttr, amset, tyset, Function.comp_apply, one1, lenV, calleeOf, lateOk, belowV, aop, AV.ofValue, AV.ofCell, AV.cells, AV.flat, AV.one, arep, aBin, aConv]
          repeat refine And.intro (by omega) ?_
          refine cond_split (fun h5 => ?_) (fun h5 => ?_)
          · have h5d := h5
            try simp only [Bool.not_eq_true', Bool.not_eq_false', decide_eq_true_eq, decide_eq_false_iff_not, beq_iff_eq, bne_iff_ne, ne_eq, Bool.not_eq_true, Bool.not_eq_false, beq_eq_false_iff_ne, bne_eq_false_iff_eq, Classical.not_not, Bool.and_eq_true, Bool.and_eq_false_imp] at h5d
            simp -implicitDefEqProofs (disch := omega) only [h1, h1d, h2, h2d, h3, h3d, h4, h4d, h5, h5d, aApp_nil, aApp_none, aApp_some, aApp_grw, simprocAttr, amset, tyset, Function.comp_apply, one1, lenV, calleeOf, lateOk, belowV, aop, AV.ofValue, AV.ofCell, AV.cells, AV.flat, AV.one, arep, aBin, aConv]
            repeat refine And.intro (by omega) ?_
            refine hQ _ _ (end_byG (.inl rfl) hbel (x1 := .tup [.agg [.int .i64 0, .int .i64 0, .sl none 0 (some 0)], .int .i64 1]) (l2 := [.cells false 2 []]) (.tup [.agg [.int .i64 0, .int .i64 0, .sl (some (H.length, 0)) 0 (some 0)], .int .i64 1]) (ret_of Try.results27 (by simp -implicitDefEqProofs (disch := omega) only [simprocAttr, amset, tyset, Function.comp_apply, one1, lenV, calleeOf, lateOk, belowV, aop, AV.ofValue, AV.ofCell, AV.cells, AV.flat, AV.one, arep, aBin, aAppend, aConv])) [.cells false 2 []] rfl [3] (by decide) ⟨(by first | (simp [mkX, mkL, rectE, capG_0, ownG_0, prs_nil, h1d, h2d, h3d, h4d, h5d]; done) | (rw [show rectE x0 y0 x1 y1 = 1 from if_neg (fun h => by omega)]; rfl) | rw [rectE_bad (fun h => by omega)]; rfl | rw [show rectE x0 y0 x1 y1 = 0 from if_pos ⟨by assumption, by omega, by omega, by omega, by omega⟩]; rfl | rw [rectE_bad (fun h => by simp_all)]; rfl), (by first | (simp [mkX, mkL, rectE, capG_0, ownG_0, prs_nil, h1d, h2d, h3d, h4d, h5d]; done) | (rw [show rectE x0 y0 x1 y1 = 1 from if_neg (fun h => by omega)]; rfl) | rw [rectE_bad (fun h => by omega)]; rfl | rw [show rectE x0 y0 x1 y1 = 0 from if_pos ⟨by assumption, by omega, by omega, by omega, by omega⟩]; rfl | rw [rectE_bad (fun h => by simp_all)]; rfl)⟩ ?_)
            simp -implicitDefEqProofs (disch := omega) only [W_nil0, W_nil1, W_cap', Wc_nil0, Wc_nil1, Wc_cap', absF, absH, W_refl', W_any', W_agg, W_tup, Ws_cons, Ws_refl', Wc_refl', Wcs_cons, Wcs_nil, look, List.cons_append, List.nil_append, List.append_nil, List.length_cons, List.length_nil, Nat.zero_add, Nat.reduceAdd, AV.mv, AV.mvs, ABlk.mv, sig_new0, sig_newk, sig_lt, List.getElem?_cons_zero, List.getElem?_cons_succ, mvs_ints, mvs_bools, mvs_prs, mvs_append, cond_true, cond_false, beq_self_eq_true, Nat.reduceBEq, true_and, and_true, or_true, true_or, and_self, decide_true, Nat.add_zero, reduceCtorEq, false_or, or_false]
            repeat' (first | exact True.intro | exact Nat.add_lt_add_left (by decide) _ | exact Nat.lt_add_of_pos_right (by decide) | refine W_nils ?_ (Or.inr rfl) | refine W_nils ?_ (Or.inl rfl) | refine Wc_nils ?_ (Or.inr rfl) | refine Wc_nils ?_ (Or.inl rfl) | exact W_cap | rfl | refine And.intro ?_ ?_ | exact Or.inl rfl | exact Or.inr rfl | exact Or.inr (Or.inl rfl) | exact Or.inr (Or.inr BW.emp) | exact Or.inr BW.emp | exact BW.emp | exact Or.inr (Or.inr BW.pre) | exact Or.inr BW.pre | exact BW.pre | refine Or.inr (BW.cells ?_) | refine BW.cells ?_ | refine Or.inr (Or.inr (BW.cells ?_)) | exact Wc_cap)
          · have h5d := h5
            try simp only [Bool.not_eq_true', Bool.not_eq_false', decide_eq_true_eq, decide_eq_false_iff_not, beq_iff_eq, bne_iff_ne, ne_eq, Bool.not_eq_true, Bool.not_eq_false, beq_eq_false_iff_ne, bne_eq_false_iff_eq, Classical.not_not, Bool.and_eq_true, Bool.and_eq_false_imp] at h5d
            simp -implicitDefEqProofs (disch := omega) only [h1, h1d, h2, h2d, h3, h3d, h4, h4d, h5, h5d, aApp_nil, aApp_none, aApp_some, aApp_grw, simprocAttr, amset, tyset, Function.comp_apply, one1, lenV, calleeOf, lateOk, belowV, aop, AV.ofValue, AV.ofCell, AV.cells, AV.flat, AV.one, arep, aBin, aConv]
            repeat refine And.intro (by omega) ?_
            have hB4 : ∀ e ∈ [((x1 - x0 : Int), (0 : Int)), (0, y1 - y0)], Bd 4194304 e := fun e he => by
              simp only [List.mem_cons, List.not_mem_nil, or_false] at he
              first | (rcases he with rfl | rfl <;> (unfold Bd; simp only; omega)) | (subst he; unfold Bd; simp only; omega)
            refine call_v (by kernel_rfl) (canonical_u _ (x0 + x1) (y0 + y1) _ [(x1 - x0, 0), (0, y1 - y0)] (.inr ⟨_, _, _, by first | rfl | (rw [List.length_append]; rfl), by first | rfl | (rw [get_newk]; rfl) | (rw [get_new0]; rfl) | (rw [get_newk, prs_append]; rfl) | (rw [get_new0, prs_append]; rfl)⟩) (by first | omega | (simp only [List.length_cons, List.length_nil]; omega) | exact Nat.le_trans (mkL_len _ _) (by first | omega | simp) | exact Nat.le_trans (vL_len _ _) (by first | omega | simp) | exact Nat.le_trans corV_len (by omega) | exact Nat.le_trans (canonL_len _) (by first | omega | simp)) (by assumption)) ?_
            simp -implicitDefEqProofs (disch := omega) only [h1, h1d, h2, h2d, h3, h3d, h4, h4d, h5, h5d, aApp_nil, aApp_none, aApp_some, aApp_grw, simprocAttr, amset, tyset, Function.comp_apply, one1, lenV, calleeOf, lateOk, belowV, aop, AV.ofValue, AV.ofCell, AV.cells, AV.flat, AV.one, arep, aBin, aConv]
            repeat refine And.intro (by omega) ?_
            refine hQ _ _ (end_byG (.inl rfl) hbel (x1 := .tup [.agg [.int .i64 (x0 + x1), .int .i64 (y0 + y1), .sl (some (H.length + 4, 0)) ((canonL [(x1 - x0, 0), (0, y1 - y0)]).length) (capG (canonL [(x1 - x0, 0), (0, y1 - y0)]).length)], .int .i64 0]) (l2 := [.cells (ownG (canonL [(x1 - x0, 0), (0, y1 - y0)]).length) 2 (prs (canonL [(x1 - x0, 0), (0, y1 - y0)]))]) (.tup [.agg [.int .i64 (x0 + x1), .int .i64 (y0 + y1), .sl (some (H.length, 0)) ((canonL [(x1 - x0, 0), (0, y1 - y0)]).length) (capG (canonL [(x1 - x0, 0), (0, y1 - y0)]).length)], .int .i64 0]) (ret_of Try.results27 (by simp -implicitDefEqProofs (disch := omega) only [simprocAttr, amset, tyset, Function.comp_apply, one1, lenV, calleeOf, lateOk, belowV, aop, AV.ofValue, AV.ofCell, AV.cells, AV.flat, AV.one, arep, aBin, aAppend, aConv])) [] rfl [4] (by decide) ⟨(by first | (simp [mkX, mkL, rectE, capG_0, ownG_0, prs_nil, h1d, h2d, h3d, h4d, h5d]; done) | (rw [show rectE x0 y0 x1 y1 = 1 from if_neg (fun h => by omega)]; rfl) | rw [rectE_bad (fun h => by omega)]; rfl | rw [show rectE x0 y0 x1 y1 = 0 from if_pos ⟨by assumption, by omega, by omega, by omega, by omega⟩]; rfl | rw [rectE_bad (fun h => by simp_all)]; rfl), (by first | (simp [mkX, mkL, rectE, capG_0, ownG_0, prs_nil, h1d, h2d, h3d, h4d, h5d]; done) | (rw [show rectE x0 y0 x1 y1 = 1 from if_neg (fun h => by omega)]; rfl) | rw [rectE_bad (fun h => by omega)]; rfl | rw [show rectE x0 y0 x1 y1 = 0 from if_pos ⟨by assumption, by omega, by omega, by omega, by omega⟩]; rfl | rw [rectE_bad (fun h => by simp_all)]; rfl)⟩ ?_)
            simp -implicitDefEqProofs (disch := omega) only [W_nil0, W_nil1, W_cap', Wc_nil0, Wc_nil1, Wc_cap', absF, absH, W_refl', W_any', W_agg, W_tup, Ws_cons, Ws_refl', Wc_refl', Wcs_cons, Wcs_nil, look, List.cons_append, List.nil_append, List.append_nil, List.length_cons, List.length_nil, Nat.zero_add, Nat.reduceAdd, AV.mv, AV.mvs, ABlk.mv, sig_new0, sig_newk, sig_lt, List.getElem?_cons_zero, List.getElem?_cons_succ, mvs_ints, mvs_bools, mvs_prs, mvs_append, cond_true, cond_false, beq_self_eq_true, Nat.reduceBEq, true_and, and_true, or_true, true_or, and_self, decide_true, Nat.add_zero, reduceCtorEq, false_or, or_false]
            repeat' (first | exact True.intro | exact Nat.add_lt_add_left (by decide) _ | exact Nat.lt_add_of_pos_right (by decide) | refine W_nils ?_ (Or.inr rfl) | refine W_nils ?_ (Or.inl rfl) | refine Wc_nils ?_ (Or.inr rfl) | refine Wc_nils ?_ (Or.inl rfl) | exact W_cap | rfl | refine And.intro ?_ ?_ | exact Or.inl rfl | exact Or.inr rfl | exact Or.inr (Or.inl rfl) | exact Or.inr (Or.inr BW.emp) | exact Or.inr BW.emp | exact BW.emp | exact Or.inr (Or.inr BW.pre) | exact Or.inr BW.pre | exact BW.pre | refine Or.inr (BW.cells ?_) | refine BW.cells ?_ | refine Or.inr (Or.inr (BW.cells ?_)) | exact Wc_cap)
        · have h4d := h4
          try simp only [Bool.not_eq_true', Bool.not_eq_false', decide_eq_true_eq, decide_eq_false_iff_not, beq_iff_eq, bne_iff_ne, ne_eq, Bool.not_eq_true, Bool.not_eq_false, beq_eq_false_iff_ne, bne_eq_false_iff_eq, Classical.not_not, Bool.and_eq_true, Bool.and_eq_false_imp] at h4d
          simp -implicitDefEqProofs (disch := omega) only [h1, h1d, h2, h2d, h3, h3d, h4, h4d, aApp_nil, aApp_none, aApp_some, aApp_grw, simprocAttr, amset, tyset, Function.comp_apply, one1, lenV, calleeOf, lateOk, belowV, aop, AV.ofValue, AV.ofCell, AV.cells, AV.flat, AV.one, arep, aBin, aConv]
          repeat refine And.intro (by omega) ?_
          refine hQ _ _ (end_byG (.inl rfl) hbel (x1 := .tup [.agg [.int .i64 0, .int .i64 0, .sl none 0 (some 0)], .int .i64 1]) (l2 := [.cells false 2 []]) (.tup [.agg [.int .i64 0, .int .i64 0, .sl (some (H.length, 0)) 0 (some 0)], .int .i64 1]) (ret_of Try.results27 (by simp -implicitDefEqProofs (disch := omega) only [simprocAttr, amset, tyset, Function.comp_apply, one1, lenV, calleeOf, lateOk, belowV, aop, AV.ofValue, AV.ofCell, AV.cells, AV.flat, AV.one, arep, aBin, aAppend, aConv])) [.cells false 2 []] rfl [3] (by decide) ⟨(by first | (simp [mkX, mkL, rectE, capG_0, ownG_0, prs_nil, h1d, h2d, h3d, h4d]; done) | (rw [show rectE x0 y0 x1 y1 = 1 from if_neg (fun h => by omega)]; rfl) | rw [rectE_bad (fun h => by omega)]; rfl | rw [show rectE x0 y0 x1 y1 = 0 from if_pos ⟨by assumption, by omega, by omega, by omega, by omega⟩]; rfl | rw [rectE_bad (fun h => by simp_all)]; rfl), (by first | (simp [mkX, mkL, rectE, capG_0, ownG_0, prs_nil, h1d, h2d, h3d, h4d]; done) | (rw [show rectE x0 y0 x1 y1 = 1 from if_neg (fun h => by omega)]; rfl) | rw [rectE_bad (fun h => by omega)]; rfl | rw [show rectE x0 y0 x1 y1 = 0 from if_pos ⟨by assumption, by omega, by omega, by omega, by omega⟩]; rfl | rw [rectE_bad (fun h => by simp_all)]; rfl)⟩ ?_)
          simp -implicitDefEqProofs (disch := omega) only [W_nil0, W_nil1, W_cap', Wc_nil0, Wc_nil1, Wc_cap', absF, absH, W_refl', W_any', W_agg, W_tup, Ws_cons, Ws_refl', Wc_refl', Wcs_cons, Wcs_nil, look, List.cons_append, List.nil_append, List.append_nil, List.length_cons, List.length_nil, Nat.zero_add, Nat.reduceAdd, AV.mv, AV.mvs, ABlk.mv, sig_new0, sig_newk, sig_lt, List.getElem?_cons_zero, List.getElem?_cons_succ, mvs_ints, mvs_bools, mvs_prs, mvs_append, cond_true, cond_false, beq_self_eq_true, Nat.reduceBEq, true_and, and_true, or_true, true_or, and_self, decide_true, Nat.add_zero, reduceCtorEq, false_or, or_false]
          repeat' (first | exact True.intro | exact Nat.add_lt_add_left (by decide) _ | exact Nat.lt_add_of_pos_right (by decide) | refine W_nils ?_ (Or.inr rfl) | refine W_nils ?_ (Or.inl rfl) | refine Wc_nils ?_ (Or.inr rfl) | refine Wc_nils ?_ (Or.inl rfl) | exact W_cap | rfl | refine And.intro ?_ ?_ | exact Or.inl rfl | exact Or.inr rfl | exact Or.inr (Or.inl rfl) | exact Or.inr (Or.inr BW.emp) | exact Or.inr BW.emp | exact BW.emp | exact Or.inr (Or.inr BW.pre) | exact Or.inr BW.pre | exact BW.pre | refine Or.inr (BW.cells ?_) | refine BW.cells ?_ | refine Or.inr (Or.inr (BW.cells ?_)) | exact Wc_cap)
      · have h3d := h3
        try simp only [Bool.not_eq_true', Bool.not_eq_false', decide_eq_true_eq, decide_eq_false_iff_not, beq_iff_eq, bne_iff_ne, ne_eq, Bool.not_eq_true, Bool.not_eq_false, beq_eq_false_iff_ne, bne_eq_false_iff_eq, Classical.not_not, Bool.and_eq_true, Bool.and_eq_false_imp] at h3d
        simp -implicitDefEqProofs (disch := omega) only [h1, h1d, h2, h2d, h3, h3d, aApp_nil, aApp_none, aApp_some, aApp_grw, simprocAttr, amset, tyset, Function.comp_apply, one1, lenV, calleeOf, lateOk, belowV, aop, AV.ofValue, AV.ofCell, AV.cells, AV.flat, AV.one, arep, aBin, aConv]
        repeat refine And.intro (by omega) ?_
        refine hQ _ _ (end_byG (.inl rfl) hbel (x1 := .tup [.agg [.int .i64 0, .int .i64 0, .sl none 0 (some 0)], .int .i64 1]) (l2 := [.cells false 2 []]) (.tup [.agg [.int .i64 0, .int .i64 0, .sl (some (H.length, 0)) 0 (some 0)], .int .i64 1]) (ret_of Try.results27 (by simp -implicitDefEqProofs (disch := omega) only [simprocAttr, amset, tyset, Function.comp_apply, one1, lenV, calleeOf, lateOk, belowV, aop, AV.ofValue, AV.ofCell, AV.cells, AV.flat, AV.one, arep, aBin, aAppend, aConv])) [.cells false 2 []] rfl [3] (by decide) ⟨(by first | (simp [mkX, mkL, rectE, capG_0, ownG_0, prs_nil, h1d, h2d, h3d]; done) | (rw [show rectE x0 y0 x1 y1 = 1 from if_neg (fun h => by omega)]; rfl) | rw [rectE_bad (fun h => by omega)]; rfl | rw [show rectE x0 y0 x1 y1 = 0 from if_pos ⟨by assumption, by omega, by omega, by omega, by omega⟩]; rfl | rw [rectE_bad (fun h => by simp_all)]; rfl), (by first | (simp [mkX, mkL, rectE, capG_0, ownG_0, prs_nil, h1d, h2d, h3d]; done) | (rw [show rectE x0 y0 x1 y1 = 1 from if_neg (fun h => by omega)]; rfl) | rw [rectE_bad (fun h => by omega)]; rfl | rw [show rectE x0 y0 x1 y1 = 0 from if_pos ⟨by assumption, by omega, by omega, by omega, by omega⟩]; rfl | rw [rectE_bad (fun h => by simp_all)]; rfl)⟩ ?_)
        simp -implicitDefEqProofs (disch := omega) only [W_nil0, W_nil1, W_cap', Wc_nil0, Wc_nil1, Wc_cap', absF, absH, W_refl', W_any', W_agg, W_tup, Ws_cons, Ws_refl', Wc_refl', Wcs_cons, Wcs_nil, look, List.cons_append, List.nil_append, List.append_nil, List.length_cons, List.length_nil, Nat.zero_add, Nat.reduceAdd, AV.mv, AV.mvs, ABlk.mv, sig_new0, sig_newk, sig_lt, List.getElem?_cons_zero, List.getElem?_cons_succ, mvs_ints, mvs_bools, mvs_prs, mvs_append, cond_true, cond_false, beq_self_eq_true, Nat.reduceBEq, true_and, and_true, or_true, true_or, and_self, decide_true, Nat.add_zero, reduceCtorEq, false_or, or_false]
        repeat' (first | exact True.intro | exact Nat.add_lt_add_left (by decide) _ | exact Nat.lt_add_of_pos_right (by decide) | refine W_nils ?_ (Or.inr rfl) | refine W_nils ?_ (Or.inl rfl) | refine Wc_nils ?_ (Or.inr rfl) | refine Wc_nils ?_ (Or.inl rfl) | exact W_cap | rfl | refine And.intro ?_ ?_ | exact Or.inl rfl | exact Or.inr rfl | exact Or.inr (Or.inl rfl) | exact Or.inr (Or.inr BW.emp) | exact Or.inr BW.emp | exact BW.emp | exact Or.inr (Or.inr BW.pre) | exact Or.inr BW.pre | exact BW.pre | refine Or.inr (BW.cells ?_) | refine BW.cells ?_ | refine Or.inr (Or.inr (BW.cells ?_)) | exact Wc_cap)
    · have h2d := h2
      try simp only [Bool.not_eq_true', Bool.not_eq_false', decide_eq_true_eq, decide_eq_false_iff_not, beq_iff_eq, bne_iff_ne, ne_eq, Bool.not_eq_true, Bool.not_eq_false, beq_eq_false_iff_ne, bne_eq_false_iff_eq, Classical.not_not, Bool.and_eq_true, Bool.and_eq_false_imp] at h2d
      simp -implicitDefEqProofs (disch := omega) only [h1, h1d, h2, h2d, aApp_nil, aApp_none, aApp_some, aApp_grw, simprocAttr, amset, tyset, Function.comp_apply, one1, lenV, calleeOf, lateOk, belowV, aop, AV.ofValue, AV.ofCell, AV.cells, AV.flat, AV.one, arep, aBin, aConv]
      repeat refine And.intro (by omega) ?_
      refine hQ _ _ (end_byG (.inl rfl) hbel (x1 := .tup [.agg [.int .i64 0, .int .i64 0, .sl none 0 (some 0)], .int .i64 1]) (l2 := [.cells false 2 []]) (.tup [.agg [.int .i64 0, .int .i64 0, .sl (some (H.length, 0)) 0 (some 0)], .int .i64 1]) (ret_of Try.results27 (by simp -implicitDefEqProofs (disch := omega) only [simprocAttr, amset, tyset, Function.comp_apply, one1, lenV, calleeOf, lateOk, belowV, aop, AV.ofValue, AV.ofCell, AV.cells, AV.flat, AV.one, arep, aBin, aAppend, aConv])) [.cells false 2 []] rfl [3] (by decide) ⟨(by first | (simp [mkX, mkL, rectE, capG_0, ownG_0, prs_nil, h1d, h2d]; done) | (rw [show rectE x0 y0 x1 y1 = 1 from if_neg (fun h => by omega)]; rfl) | rw [rectE_bad (fun h => by omega)]; rfl | rw [show rectE x0 y0 x1 y1 = 0 from if_pos ⟨by assumption, by omega, by omega, by omega, by omega⟩]; rfl | rw [rectE_bad (fun h => by simp_all)]; rfl), (by first | (simp [mkX, mkL, rectE, capG_0, ownG_0, prs_nil, h1d, h2d]; done) | (rw [show rectE x0 y0 x1 y1 = 1 from if_neg (fun h => by omega)]; rfl) | rw [rectE_bad (fun h => by omega)]; rfl | rw [show rectE x0 y0 x1 y1 = 0 from if_pos ⟨by assumption, by omega, by omega, by omega, by omega⟩]; rfl | rw [rectE_bad (fun h => by simp_all)]; rfl)⟩ ?_)
      simp -implicitDefEqProofs (disch := omega) only [W_nil0, W_nil1, W_cap', Wc_nil0, Wc_nil1, Wc_cap', absF, absH, W_refl', W_any', W_agg, W_tup, Ws_cons, Ws_refl', Wc_refl', Wcs_cons, Wcs_nil, look, List.cons_append, List.nil_append, List.append_nil, List.length_cons, List.length_nil, Nat.zero_add, Nat.reduceAdd, AV.mv, AV.mvs, ABlk.mv, sig_new0, sig_newk, sig_lt, List.getElem?_cons_zero, List.getElem?_cons_succ, mvs_ints, mvs_bools, mvs_prs, mvs_append, cond_true, cond_false, beq_self_eq_true, Nat.reduceBEq, true_and, and_true, or_true, true_or, and_self, decide_true, Nat.add_zero, reduceCtorEq, false_or, or_false]
      repeat' (first | exact True.intro | exact Nat.add_lt_add_left (by decide) _ | exact Nat.lt_add_of_pos_right (by decide) | refine W_nils ?_ (Or.inr rfl) | refine W_nils ?_ (Or.inl rfl) | refine Wc_nils ?_ (Or.inr rfl) | refine Wc_nils ?_ (Or.inl rfl) | exact W_cap | rfl | refine And.intro ?_ ?_ | exact Or.inl rfl | exact Or.inr rfl | exact Or.inr (Or.inl rfl) | exact Or.inr (Or.inr BW.emp) | exact Or.inr BW.emp | exact BW.emp | exact Or.inr (Or.inr BW.pre) | exact Or.inr BW.pre | exact BW.pre | refine Or.inr (BW.cells ?_) | refine BW.cells ?_ | refine Or.inr (Or.inr (BW.cells ?_)) | exact Wc_cap)
  · have h1d := h1
    try simp only [Bool.not_eq_true', Bool.not_eq_false', decide_eq_true_eq, decide_eq_false_iff_not, beq_iff_eq, bne_iff_ne, ne_eq, Bool.not_eq_true, Bool.not_eq_false, beq_eq_false_iff_ne, bne_eq_false_iff_eq, Classical.not_not, Bool.and_eq_true, Bool.and_eq_false_imp] at h1d
    simp -implicitDefEqProofs (disch := omega) only [h1, h1d, aApp_nil, aApp_none, aApp_some, aApp_grw, simprocAttr, amset, tyset, Function.comp_apply, one1, lenV, calleeOf, lateOk, belowV, aop, AV.ofValue, AV.ofCell, AV.cells, AV.flat, AV.one, arep, aBin, aConv]
    repeat refine And.intro (by omega) ?_
    refine hQ _ _ (end_byG (.inl rfl) hbel (x1 := .tup [.agg [.int .i64 0, .int .i64 0, .sl none 0 (some 0)], .int .i64 1]) (l2 := [.cells false 2 []]) (.tup [.agg [.int .i64 0, .int .i64 0, .sl (some (H.length, 0)) 0 (some 0)], .int .i64 1]) (ret_of Try.results27 (by simp -implicitDefEqProofs (disch := omega) only [simprocAttr, amset, tyset, Function.comp_apply, one1, lenV, calleeOf, lateOk, belowV, aop, AV.ofValue, AV.ofCell, AV.cells, AV.flat, AV.one, arep, aBin, aAppend, aConv])) [.cells false 2 []] rfl [3] (by decide) ⟨(by first | (simp [mkX, mkL, rectE, capG_0, ownG_0, prs_nil, h1d]; done) | (rw [show rectE x0 y0 x1 y1 = 1 from if_neg (fun h => by omega)]; rfl) | rw [rectE_bad (fun h => by omega)]; rfl | rw [show rectE x0 y0 x1 y1 = 0 from if_pos ⟨by assumption, by omega, by omega, by omega, by omega⟩]; rfl | rw [rectE_bad (fun h => by simp_all)]; rfl), (by first | (simp [mkX, mkL, rectE, capG_0, ownG_0, prs_nil, h1d]; done) | (rw [show rectE x0 y0 x1 y1 = 1 from if_neg (fun h => by omega)]; rfl) | rw [rectE_bad (fun h => by omega)]; rfl | rw [show rectE x0 y0 x1 y1 = 0 from if_pos ⟨by assumption, by omega, by omega, by omega, by omega⟩]; rfl | rw [rectE_bad (fun h => by simp_all)]; rfl)⟩ ?_)
    simp -implicitDefEqProofs (disch := omega) only [W_nil0, W_nil1, W_cap', Wc_nil0, Wc_nil1, Wc_cap', absF, absH, W_refl', W_any', W_agg, W_tup, Ws_cons, Ws_refl', Wc_refl', Wcs_cons, Wcs_nil, look, List.cons_append, List.nil_append, List.append_nil, List.length_cons, List.length_nil, Nat.zero_add, Nat.reduceAdd, AV.mv, AV.mvs, ABlk.mv, sig_new0, sig_newk, sig_lt, List.getElem?_cons_zero, List.getElem?_cons_succ, mvs_ints, mvs_bools, mvs_prs, mvs_append, cond_true, cond_false, beq_self_eq_true, Nat.reduceBEq, true_and, and_true, or_true, true_or, and_self, decide_true, Nat.add_zero, reduceCtorEq, false_or, or_false]
    repeat' (first | exact True.intro | exact Nat.add_lt_add_left (by decide) _ | exact Nat.lt_add_of_pos_right (by decide) | refine W_nils ?_ (Or.inr rfl) | refine W_nils ?_ (Or.inl rfl) | refine Wc_nils ?_ (Or.inr rfl) | refine Wc_nils ?_ (Or.inl rfl) | exact W_cap | rfl | refine And.intro ?_ ?_ | exact Or.inl rfl | exact Or.inr rfl | exact Or.inr (Or.inl rfl) | exact Or.inr (Or.inr BW.emp) | exact Or.inr BW.emp | exact BW.emp | exact Or.inr (Or.inr BW.pre) | exact Or.inr BW.pre | exact BW.pre | refine Or.inr (BW.cells ?_) | refine BW.cells ?_ | refine Or.inr (Or.inr (BW.cells ?_)) | exact Wc_cap)
set_option maxHeartbeats 4000000 in
set_option maxRecDepth 100000 in
theorem ofseg_c (H : AHeap) (x0 : Int) (y0 : Int) (x1 : Int) (y1 : Int) : ACalls Try.prog 29 [.agg [.int .i64 x0, .int .i64 y0], .agg [.int .i64 x1, .int .i64 y1]] H (fun v H' => v = .tup [.agg [.int .i64 (mkX (segE x0 y0 x1 y1) (x0 + x1)), .int .i64 (mkX (segE x0 y0 x1 y1) (y0 + y1)), .sl (some (H.length, 0)) ((mkL (segE x0 y0 x1 y1) (canonL [(x1 - x0, y1 - y0)])).length) (capG (mkL (segE x0 y0 x1 y1) (canonL [(x1 - x0, y1 - y0)])).length)], .int .i64 (segE x0 y0 x1 y1)] ∧ H' = H ++ [.cells (ownG (mkL (segE x0 y0 x1 y1) (canonL [(x1 - x0, y1 - y0)])).length) 2 (prs (mkL (segE x0 y0 x1 y1) (canonL [(x1 - x0, y1 - y0)])))]) := by
  (refine ACalls_run try_mixed Try.func29 true _ rfl (Nat.le_of_ble_eq_true (by kernel_rfl)) (by kernel_rfl) ?_; intro hbel Q hQ hQ' c hc; unfold Try.f29 at hc; simp only [Option.some.injEq] at hc; subst hc; clear hQ')
  simp -implicitDefEqProofs (disch := omega) only [aApp_nil, aApp_none, aApp_some, aApp_grw, simprocAttr, amset, tyset, Function.comp_apply, one1, lenV, calleeOf, lateOk, belowV, aop, AV.ofValue, AV.ofCell, AV.cells, AV.flat, AV.one, arep, aBin, aConv]
  repeat refine And.intro (by omega) ?_
  refine call_v (by kernel_rfl) (near_c _ _ [x0, y0, x1, y1] (.inr ⟨_, _, _, by first | rfl | (rw [List.length_append]; rfl), by first | rfl | (rw [get_newk]; rfl) | (rw [get_new0]; rfl) | (rw [get_newk, prs_append]; rfl) | (rw [get_new0, prs_append]; rfl)⟩) (by simp)) ?_
  rw [far4_any]
  simp -implicitDefEqProofs (disch := omega) only [aApp_nil, aApp_none, aApp_some, aApp_grw, simprocAttr, amset, tyset, Function.comp_apply, one1, lenV, calleeOf, lateOk, belowV, aop, AV.ofValue, AV.ofCell, AV.cells, AV.flat, AV.one, arep, aBin, aConv]
  repeat refine And.intro (by omega) ?_
  refine gd_split (fun h1 => ?_) (fun h1 => ?_)
  · have h1d := h1
    try simp only [Bool.not_eq_true', Bool.not_eq_false', decide_eq_true_eq, decide_eq_false_iff_not, beq_iff_eq, bne_iff_ne, ne_eq, Bool.not_eq_true, Bool.not_eq_false, beq_eq_false_iff_ne, bne_eq_false_iff_eq, Classical.not_not, Bool.and_eq_true, Bool.and_eq_false_imp] at h1d
    have hfar := far4_bd h1d
    simp -implicitDefEqProofs (disch := omega) only [h1, h1d, aApp_nil, aApp_none, aApp_some, aApp_grw, simprocAttr, amset, tyset, Function.comp_apply, one1, lenV, calleeOf, lateOk, belowV, aop, AV.ofValue, AV.ofCell, AV.cells, AV.flat, AV.one, arep, aBin, aConv]
    repeat refine And.intro (by omega) ?_
    refine call_v (by kernel_rfl) (size_c _ _ _ (by decide)) ?_
    simp -implicitDefEqProofs (disch := omega) only [h1, h1d, aApp_nil, aApp_none, aApp_some, aApp_grw, simprocAttr, amset, tyset, Function.comp_apply, one1, lenV, calleeOf, lateOk, belowV, aop, AV.ofValue, AV.ofCell, AV.cells, AV.flat, AV.one, arep, aBin, aConv]
    repeat refine And.intro (by omega) ?_
    refine gd_split (fun h2 => ?_) (fun h2 => ?_)
    · have h2d := h2
      try simp only [Bool.not_eq_true', Bool.not_eq_false', decide_eq_true_eq, decide_eq_false_iff_not, beq_iff_eq, bne_iff_ne, ne_eq, Bool.not_eq_true, Bool.not_eq_false, beq_eq_false_iff_ne, bne_eq_false_iff_eq, Classical.not_not, Bool.and_eq_true, Bool.and_eq_false_imp] at h2d
      simp -implicitDefEqProofs (disch := omega) only [h1, h1d, h2, h2d, aApp_nil, aApp_none, aApp_some, aApp_grw, simprocAttr, amset, tyset, Function.comp_apply, one1, lenV, calleeOf, lateOk, belowV, aop, AV.ofValue, AV.ofCell, AV.cells, AV.flat, AV.one, arep, aBin, aConv]
      repeat refine And.intro (by omega) ?_
      refine call_v (by kernel_rfl) (size_c _ _ _ (by decide)) ?_
      simp -implicitDefEqProofs (disch := omega) only [h1, h1d, h2, h2d, aApp_nil, aApp_none, aApp_some, aApp_grw, simprocAttr, amset, tyset, Function.comp_apply, one1, lenV, calleeOf, lateOk, belowV, aop, AV.ofValue, AV.ofCell, AV.cells, AV.flat, AV.one, arep, aBin, aConv]
      repeat refine And.intro (by omega) ?_
      refine cond_split (fun h3 => ?_) (fun h3 => ?_)
      · have h3d := h3
        try simp only [Bool.not_eq_true', Bool.not_eq_false', decide_eq_true_eq, decide_eq_false_iff_not, beq_iff_eq, bne_iff_ne, ne_eq, Bool.not_eq_true, Bool.not_eq_false, beq_eq_false_iff_ne, bne_eq_false_iff_eq, Classical.not_not, Bool.and_eq_true, Bool.and_eq_false_imp] at h3d
        simp -implicitDefEqProofs (disch := omega) only [h1, h1d, h2, h2d, h3, h3d, aApp_nil, aApp_none, aApp_some, aApp_grw, simprocAttr, amset, tyset, Function.comp_apply, one1, lenV, calleeOf, lateOk, belowV, aop, AV.ofValue, AV.ofCell, AV.cells, AV.flat, AV.one, arep, aBin, aConv]
        repeat refine And.intro (by omega) ?_
        refine hQ _ _ (end_byG (.inl rfl) hbel (x1 := .tup [.agg [.int .i64 0, .int .i64 0, .sl none 0 (some 0)], .int .i64 1]) (l2 := [.cells false 2 []]) (.tup [.agg [.int .i64 0, .int .i64 0, .sl (some (H.length, 0)) 0 (some 0)], .int .i64 1]) (ret_of Try.results29 (by simp -implicitDefEqProofs (disch := omega) only [simprocAttr, amset, tyset, Function.comp_apply, one1, lenV, calleeOf, lateOk, belowV, aop, AV.ofValue, AV.ofCell, AV.cells, AV.flat, AV.one, arep, aBin, aAppend, aConv])) [.cells false 2 []] rfl [4] (by decide) ⟨by simp [mkX, mkL, segE, capG_0, ownG_0, prs_nil, h1d, h2d, h3d], by simp [mkX, mkL, segE, capG_0, ownG_0, prs_nil, h1d, h2d, h3d]⟩ ?_)
        simp -implicitDefEqProofs (disch := omega) only [W_nil0, W_nil1, W_cap', Wc_nil0, Wc_nil1, Wc_cap', absF, absH, W_refl', W_any', W_agg, W_tup, Ws_cons, Ws_refl', Wc_refl', Wcs_cons, Wcs_nil, look, List.cons_append, List.nil_append, List.append_nil, List.length_cons, List.length_nil, Nat.zero_add, Nat.reduceAdd, AV.mv, AV.mvs, ABlk.mv, sig_new0, sig_newk, sig_lt, List.getElem?_cons_zero, List.getElem?_cons_succ, mvs_ints, mvs_bools, mvs_prs, mvs_append, cond_true, cond_false, beq_self_eq_true, Nat.reduceBEq, true_and, and_true, or_true, true_or, and_self, decide_true, Nat.add_zero, reduceCtorEq, false_or, or_false]
        repeat' (first | exact True.intro | exact Nat.add_lt_add_left (by decide) _ | exact Nat.lt_add_of_pos_right (by decide) | refine W_nils ?_ (Or.inr rfl) | refine W_nils ?_ (Or.inl rfl) | refine Wc_nils ?_ (Or.inr rfl) | refine Wc_nils ?_ (Or.inl rfl) | exact W_cap | rfl | refine And.intro ?_ ?_ | exact Or.inl rfl | exact Or.inr rfl | exact Or.inr (Or.inl rfl) | exact Or.inr (Or.inr BW.emp) | exact Or.inr BW.emp | exact BW.emp | exact Or.inr (Or.inr BW.pre) | exact Or.inr BW.pre | exact BW.pre | refine Or.inr (BW.cells ?_) | refine BW.cells ?_ | refine Or.inr (Or.inr (BW.cells ?_)) | exact Wc_cap)
      · have h3d := h3
        try simp only [Bool.not_eq_true', Bool.not_eq_false', decide_eq_true_eq, decide_eq_false_iff_not, beq_iff_eq, bne_iff_ne, ne_eq, Bool.not_eq_true, Bool.not_eq_false, beq_eq_false_iff_ne, bne_eq_false_iff_eq, Classical.not_not, Bool.and_eq_true, Bool.and_eq_false_imp] at h3d
        simp -implicitDefEqProofs (disch := omega) only [h1, h1d, h2, h2d, h3, h3d, aApp_nil, aApp_none, aApp_some, aApp_grw, simprocAttr, amset, tyset, Function.comp_apply, one1, lenV, calleeOf, lateOk, belowV, aop, AV.ofValue, AV.ofCell, AV.cells, AV.flat, AV.one, arep, aBin, aConv]
        repeat refine And.intro (by omega) ?_
        have hB4 : ∀ e ∈ [((x1 - x0 : Int), (y1 - y0 : Int))], Bd 4194304 e := fun e he => by
          simp only [List.mem_cons, List.not_mem_nil, or_false] at he
          first | (rcases he with rfl | rfl <;> (unfold Bd; simp only; omega)) | (subst he; unfold Bd; simp only; omega)
        refine call_v (by kernel_rfl) (canonical_u _ (x0 + x1) (y0 + y1) _ [(x1 - x0, y1 - y0)] (.inr ⟨_, _, _, by first | rfl | (rw [List.length_append]; rfl), by first | rfl | (rw [get_newk]; rfl) | (rw [get_new0]; rfl) | (rw [get_newk, prs_append]; rfl) | (rw [get_new0, prs_append]; rfl)⟩) (by first | omega | (simp only [List.length_cons, List.length_nil]; omega) | exact Nat.le_trans (mkL_len _ _) (by first | omega | simp) | exact Nat.le_trans (vL_len _ _) (by first | omega | simp) | exact Nat.le_trans corV_len (by omega) | exact Nat.le_trans (canonL_len _) (by first | omega | simp)) (by assumption)) ?_
        simp -implicitDefEqProofs (disch := omega) only [h1, h1d, h2, h2d, h3, h3d, aApp_nil, aApp_none, aApp_some, aApp_grw, simprocAttr, amset, tyset, Function.comp_apply, one1, lenV, calleeOf, lateOk, belowV, aop, AV.ofValue, AV.ofCell, AV.cells, AV.flat, AV.one, arep, aBin, aConv]
        repeat refine And.intro (by omega) ?_
        refine hQ _ _ (end_byG (.inl rfl) hbel (x1 := .tup [.agg [.int .i64 (x0 + x1), .int .i64 (y0 + y1), .sl (some (H.length + 5, 0)) ((canonL [(x1 - x0, y1 - y0)]).length) (capG (canonL [(x1 - x0, y1 - y0)]).length)], .int .i64 0]) (l2 := [.cells (ownG (canonL [(x1 - x0, y1 - y0)]).length) 2 (prs (canonL [(x1 - x0, y1 - y0)]))]) (.tup [.agg [.int .i64 (x0 + x1), .int .i64 (y0 + y1), .sl (some (H.length, 0)) ((canonL [(x1 - x0, y1 - y0)]).length) (capG (canonL [(x1 - x0, y1 - y0)]).length)], .int .i64 0]) (ret_of Try.results29 (by simp -implicitDefEqProofs (disch := omega) only [simprocAttr, amset, tyset, Function.comp_apply, one1, lenV, calleeOf, lateOk, belowV, aop, AV.ofValue, AV.ofCell, AV.cells, AV.flat, AV.one, arep, aBin, aAppend, aConv])) [] rfl [5] (by decide) ⟨by simp [mkX, mkL, segE, capG_0, ownG_0, prs_nil, h1d, h2d, h3d], by simp [mkX, mkL, segE, capG_0, ownG_0, prs_nil, h1d, h2d, h3d]⟩ ?_)
        simp -implicitDefEqProofs (disch := omega) only [W_nil0, W_nil1, W_cap', Wc_nil0, Wc_nil1, Wc_cap', absF, absH, W_refl', W_any', W_agg, W_tup, Ws_cons, Ws_refl', Wc_refl', Wcs_cons, Wcs_nil, look, List.cons_append, List.nil_append, List.append_nil, List.length_cons, List.length_nil, Nat.zero_add, Nat.reduceAdd, AV.mv, AV.mvs, ABlk.mv, sig_new0, sig_newk, sig_lt, List.getElem?_cons_zero, List.getElem?_cons_succ, mvs_ints, mvs_bools, mvs_prs, mvs_append, cond_true, cond_false, beq_self_eq_true, Nat.reduceBEq, true_and, and_true, or_true, true_or, and_self, decide_true, Nat.add_zero, reduceCtorEq, false_or, or_false]
        repeat' (first | exact True.intro | exact Nat.add_lt_add_left (by decide) _ | exact Nat.lt_add_of_pos_right (by decide) | refine W_nils ?_ (Or.inr rfl) | refine W_nils ?_ (Or.inl rfl) | refine Wc_nils ?_ (Or.inr rfl) | refine Wc_nils ?_ (Or.inl rfl) | exact W_cap | rfl | refine And.intro ?_ ?_ | exact Or.inl rfl | exact Or.inr rfl | exact Or.inr (Or.inl rfl) | exact Or.inr (Or.inr BW.emp) | exact Or.inr BW.emp | exact BW.emp | exact Or.inr (Or.inr BW.pre) | exact Or.inr BW.pre | exact BW.pre | refine Or.inr (BW.cells ?_) | refine BW.cells ?_ | refine Or.inr (Or.inr (BW.cells ?_)) | exact Wc_cap)
    · have h2d := h2
      try simp only [Bool.not_eq_true', Bool.not_eq_false', decide_eq_true_eq, decide_eq_false_iff_not, beq_iff_eq, bne_iff_ne, ne_eq, Bool.not_eq_true, Bool.not_eq_false, beq_eq_false_iff_ne, bne_eq_false_iff_eq, Classical.not_not, Bool.and_eq_true, Bool.and_eq_false_imp] at h2d
      simp -implicitDefEqProofs (disch := omega) only [h1, h1d, h2, h2d, aApp_nil, aApp_none, aApp_some, aApp_grw, simprocAttr, amset, tyset, Function.comp_apply, one1, lenV, calleeOf, lateOk, belowV, aop, AV.ofValue, AV.ofCell, AV.cells, AV.flat, AV.one, arep, aBin, aConv]
      repeat refine And.intro (by omega) ?_
      refine hQ _ _ (end_byG (.inl rfl) hbel (x1 := .tup [.agg [.int .i64 0, .int .i64 0, .sl none 0 (some 0)], .int .i64 1]) (l2 := [.cells false 2 []]) (.tup [.agg [.int .i64 0, .int .i64 0, .sl (some (H.length, 0)) 0 (some 0)], .int .i64 1]) (ret_of Try.results29 (by simp -implicitDefEqProofs (disch := omega) only [simprocAttr, amset, tyset, Function.comp_apply, one1, lenV, calleeOf, lateOk, belowV, aop, AV.ofValue, AV.ofCell, AV.cells, AV.flat, AV.one, arep, aBin, aAppend, aConv])) [.cells false 2 []] rfl [4] (by decide) ⟨by simp [mkX, mkL, segE, capG_0, ownG_0, prs_nil, h1d, h2d], by simp [mkX, mkL, segE, capG_0, ownG_0, prs_nil, h1d, h2d]⟩ ?_)
      simp -implicitDefEqProofs (disch := omega) only [W_nil0, W_nil1, W_cap', Wc_nil0, Wc_nil1, Wc_cap', absF, absH, W_refl', W_any', W_agg, W_tup, Ws_cons, Ws_refl', Wc_refl', Wcs_cons, Wcs_nil, look, List.cons_append, List.nil_append, List.append_nil, List.length_cons, List.length_nil, Nat.zero_add, Nat.reduceAdd, AV.mv, AV.mvs, ABlk.mv, sig_new0, sig_newk, sig_lt, List.getElem?_cons_zero, List.getElem?_cons_succ, mvs_ints, mvs_bools, mvs_prs, mvs_append, cond_true, cond_false, beq_self_eq_true, Nat.reduceBEq, true_and, and_true, or_true, true_or, and_self, decide_true, Nat.add_zero, reduceCtorEq, false_or, or_false]
      repeat' (first | exact True.intro | exact Nat.add_lt_add_left (by decide) _ | exact Nat.lt_add_of_pos_right (by decide) | refine W_nils ?_ (Or.inr rfl) | refine W_nils ?_ (Or.inl rfl) | refine Wc_nils ?_ (Or.inr rfl) | refine Wc_nils ?_ (Or.inl rfl) | exact W_cap | rfl | refine And.intro ?_ ?_ | exact Or.inl rfl | exact Or.inr rfl | exact Or.inr (Or.inl rfl) | exact Or.inr (Or.inr BW.emp) | exact Or.inr BW.emp | exact BW.emp | exact Or.inr (Or.inr BW.pre) | exact Or.inr BW.pre | exact BW.pre | refine Or.inr (BW.cells ?_) | refine BW.cells ?_ | refine Or.inr (Or.inr (BW.cells ?_)) | exact Wc_cap)
  · have h1d := h1
    try simp only [Bool.not_eq_true', Bool.not_eq_false', decide_eq_true_eq, decide_eq_false_iff_not, beq_iff_eq, bne_iff_ne, ne_eq, Bool.not_eq_true, Bool.not_eq_false, beq_eq_false_iff_ne, bne_eq_false_iff_eq, Classical.not_not, Bool.and_eq_true, Bool.and_eq_false_imp] at h1d
    simp -implicitDefEqProofs (disch := omega) only [h1, h1d, aApp_nil, aApp_none, aApp_some, aApp_grw, simprocAttr, amset, tyset, Function.comp_apply, one1, lenV, calleeOf, lateOk, belowV, aop, AV.ofValue, AV.ofCell, AV.cells, AV.flat, AV.one, arep, aBin, aConv]
    repeat refine And.intro (by omega) ?_
    refine hQ _ _ (end_byG (.inl rfl) hbel (x1 := .tup [.agg [.int .i64 0, .int .i64 0, .sl none 0 (some 0)], .int .i64 1]) (l2 := [.cells false 2 []]) (.tup [.agg [.int .i64 0, .int .i64 0, .sl (some (H.length, 0)) 0 (some 0)], .int .i64 1]) (ret_of Try.results29 (by simp -implicitDefEqProofs (disch := omega) only [simprocAttr, amset, tyset, Function.comp_apply, one1, lenV, calleeOf, lateOk, belowV, aop, AV.ofValue, AV.ofCell, AV.cells, AV.flat, AV.one, arep, aBin, aAppend, aConv])) [.cells false 2 []] rfl [4] (by decide) ⟨by simp [mkX, mkL, segE, capG_0, ownG_0, prs_nil, h1d], by simp [mkX, mkL, segE, capG_0, ownG_0, prs_nil, h1d]⟩ ?_)
    simp -implicitDefEqProofs (disch := omega) only [W_nil0, W_nil1, W_cap', Wc_nil0, Wc_nil1, Wc_cap', absF, absH, W_refl', W_any', W_agg, W_tup, Ws_cons, Ws_refl', Wc_refl', Wcs_cons, Wcs_nil, look, List.cons_append, List.nil_append, List.append_nil, List.length_cons, List.length_nil, Nat.zero_add, Nat.reduceAdd, AV.mv, AV.mvs, ABlk.mv, sig_new0, sig_newk, sig_lt, List.getElem?_cons_zero, List.getElem?_cons_succ, mvs_ints, mvs_bools, mvs_prs, mvs_append, cond_true, cond_false, beq_self_eq_true, Nat.reduceBEq, true_and, and_true, or_true, true_or, and_self, decide_true, Nat.add_zero, reduceCtorEq, false_or, or_false]
    repeat' (first | exact True.intro | exact Nat.add_lt_add_left (by decide) _ | exact Nat.lt_add_of_pos_right (by decide) | refine W_nils ?_ (Or.inr rfl) | refine W_nils ?_ (Or.inl rfl) | refine Wc_nils ?_ (Or.inr rfl) | refine Wc_nils ?_ (Or.inl rfl) | exact W_cap | rfl | refine And.intro ?_ ?_ | exact Or.inl rfl | exact Or.inr rfl | exact Or.inr (Or.inl rfl) | exact Or.inr (Or.inr BW.emp) | exact Or.inr BW.emp | exact BW.emp | exact Or.inr (Or.inr BW.pre) | exact Or.inr BW.pre | exact BW.pre | refine Or.inr (BW.cells ?_) | refine BW.cells ?_ | refine Or.inr (Or.inr (BW.cells ?_)) | exact Wc_cap)
set_option maxHeartbeats 4000000 in
set_option maxRecDepth 100000 in
theorem ordered_c (H : AHeap) (x0 : Int) (y0 : Int) (x1 : Int) (y1 : Int) : ACalls Try.prog 56 [.agg [.int .i64 x0, .int .i64 y0, .int .i64 x1, .int .i64 y1]] H (fun v H' => v = .bool (ordR x0 y0 x1 y1) ∧ H' = H) := by
  (refine ACalls_run try_mixed Try.func56 true _ rfl (Nat.le_of_ble_eq_true (by kernel_rfl)) (by kernel_rfl) ?_; intro hbel Q hQ hQ' c hc; unfold Try.f56 at hc; simp only [Option.some.injEq] at hc; subst hc; clear hQ')
  simp -implicitDefEqProofs (disch := omega) only [aApp_nil, aApp_none, aApp_some, aApp_grw, simprocAttr, amset, tyset, Function.comp_apply, one1, lenV, calleeOf, lateOk, belowV, aop, AV.ofValue, AV.ofCell, AV.cells, AV.flat, AV.one, arep, aBin, aConv]
  repeat refine And.intro (by omega) ?_
  refine gd_split (fun h1 => ?_) (fun h1 => ?_)
  · have h1d := h1
    try simp only [Bool.not_eq_true', Bool.not_eq_false', decide_eq_true_eq, decide_eq_false_iff_not, beq_iff_eq, bne_iff_ne, ne_eq, Bool.not_eq_true, Bool.not_eq_false, beq_eq_false_iff_ne, bne_eq_false_iff_eq, Classical.not_not, Bool.and_eq_true, Bool.and_eq_false_imp] at h1d
    simp -implicitDefEqProofs (disch := omega) only [h1, h1d, aApp_nil, aApp_none, aApp_some, aApp_grw, simprocAttr, amset, tyset, Function.comp_apply, one1, lenV, calleeOf, lateOk, belowV, aop, AV.ofValue, AV.ofCell, AV.cells, AV.flat, AV.one, arep, aBin, aConv]
    repeat refine And.intro (by omega) ?_
    refine gd_split (fun h2 => ?_) (fun h2 => ?_)
    · have h2d := h2
      try simp only [Bool.not_eq_true', Bool.not_eq_false', decide_eq_true_eq, decide_eq_false_iff_not, beq_iff_eq, bne_iff_ne, ne_eq, Bool.not_eq_true, Bool.not_eq_false, beq_eq_false_iff_ne, bne_eq_false_iff_eq, Classical.not_not, Bool.and_eq_true, Bool.and_eq_false_imp] at h2d
      simp -implicitDefEqProofs (disch := omega) only [h1, h1d, h2, h2d, aApp_nil, aApp_none, aApp_some, aApp_grw, simprocAttr, amset, tyset, Function.comp_apply, one1, lenV, calleeOf, lateOk, belowV, aop, AV.ofValue, AV.ofCell, AV.cells, AV.flat, AV.one, arep, aBin, aConv]
      repeat refine And.intro (by omega) ?_
      refine call_v (by kernel_rfl) (rwithin_c _ _ _ (by decide)) ?_
      simp -implicitDefEqProofs (disch := omega) only [h1, h1d, h2, h2d, aApp_nil, aApp_none, aApp_some, aApp_grw, simprocAttr, amset, tyset, Function.comp_apply, one1, lenV, calleeOf, lateOk, belowV, aop, AV.ofValue, AV.ofCell, AV.cells, AV.flat, AV.one, arep, aBin, aConv]
      repeat refine And.intro (by omega) ?_
      refine gd_split (fun h3 => ?_) (fun h3 => ?_)
      · have h3d := h3
        try simp only [Bool.not_eq_true', Bool.not_eq_false', decide_eq_true_eq, decide_eq_false_iff_not, beq_iff_eq, bne_iff_ne, ne_eq, Bool.not_eq_true, Bool.not_eq_false, beq_eq_false_iff_ne, bne_eq_false_iff_eq, Classical.not_not, Bool.and_eq_true, Bool.and_eq_false_imp] at h3d
        simp -implicitDefEqProofs (disch := omega) only [h1, h1d, h2, h2d, h3, h3d, aApp_nil, aApp_none, aApp_some, aApp_grw, simprocAttr, amset, tyset, Function.comp_apply, one1, lenV, calleeOf, lateOk, belowV, aop, AV.ofValue, AV.ofCell, AV.cells, AV.flat, AV.one, arep, aBin, aConv]
        repeat refine And.intro (by omega) ?_
        refine call_v (by kernel_rfl) (rwithin_c _ _ _ (by decide)) ?_
        simp -implicitDefEqProofs (disch := omega) only [h1, h1d, h2, h2d, h3, h3d, aApp_nil, aApp_none, aApp_some, aApp_grw, simprocAttr, amset, tyset, Function.comp_apply, one1, lenV, calleeOf, lateOk, belowV, aop, AV.ofValue, AV.ofCell, AV.cells, AV.flat, AV.one, arep, aBin, aConv]
        repeat refine And.intro (by omega) ?_
        refine gd_split (fun h4 => ?_) (fun h4 => ?_)
        · have h4d := h4
          try simp only [Bool.not_eq_true', Bool.not_eq_false', decide_eq_true_eq, decide_eq_false_iff_not, beq_iff_eq, bne_iff_ne, ne_eq, Bool.not_eq_true, Bool.not_eq_false, beq_eq_false_iff_ne, bne_eq_false_iff_eq, Classical.not_not, Bool.and_eq_true, Bool.and_eq_false_imp] at h4d
          simp -implicitDefEqProofs (disch := omega) only [h1, h1d, h2, h2d, h3, h3d, h4, h4d, aApp_nil, aApp_none, aApp_some, aApp_grw, simprocAttr, amset, tyset, Function.comp_apply, one1, lenV, calleeOf, lateOk, belowV, aop, AV.ofValue, AV.ofCell, AV.cells, AV.flat, AV.one, arep, aBin, aConv]
          repeat refine And.intro (by omega) ?_
          refine call_v (by kernel_rfl) (rwithin_c _ _ _ (by decide)) ?_
          simp -implicitDefEqProofs (disch := omega) only [h1, h1d, h2, h2d, h3, h3d, h4, h4d, aApp_nil, aApp_none, aApp_some, aApp_grw, simprocAttr, amset, tyset, Function.comp_apply, one1, lenV, calleeOf, lateOk, belowV, aop, AV.ofValue, AV.ofCell, AV.cells, AV.flat, AV.one, arep, aBin, aConv]
          repeat refine And.intro (by omega) ?_
          refine gd_split (fun h5 => ?_) (fun h5 => ?_)
          · have h5d := h5
            try simp only [Bool.not_eq_true', Bool.not_eq_false', decide_eq_true_eq, decide_eq_false_iff_not, beq_iff_eq, bne_iff_ne, ne_eq, Bool.not_eq_true, Bool.not_eq_false, beq_eq_false_iff_ne, bne_eq_false_iff_eq, Classical.not_not, Bool.and_eq_true, Bool.and_eq_false_imp] at h5d
            simp -implicitDefEqProofs (disch := omega) only [h1, h1d, h2, h2d, h3, h3d, h4, h4d, h5, h5d, aApp_nil, aApp_none, aApp_some, aApp_grw, simprocAttr, amset, tyset, Function.comp_apply, one1, lenV, calleeOf, lateOk, belowV, aop, AV.ofValue, AV.ofCell, AV.cells, AV.flat, AV.one, arep, aBin, aConv]
            repeat refine And.intro (by omega) ?_
            refine call_v (by kernel_rfl) (rwithin_c _ _ _ (by decide)) ?_
            simp -implicitDefEqProofs (disch := omega) only [h1, h1d, h2, h2d, h3, h3d, h4, h4d, h5, h5d, aApp_nil, aApp_none, aApp_some, aApp_grw, simprocAttr, amset, tyset, Function.comp_apply, one1, lenV, calleeOf, lateOk, belowV, aop, AV.ofValue, AV.ofCell, AV.cells, AV.flat, AV.one, arep, aBin, aConv]
            repeat refine And.intro (by omega) ?_
            exact hQ _ _ (end_plain (.inl rfl) hbel (x := .bool (within y1 2097152)) (ret_of Try.results56 (by simp -implicitDefEqProofs (disch := omega) only [simprocAttr, amset, tyset, Function.comp_apply, one1, lenV, calleeOf, lateOk, belowV, aop, AV.ofValue, AV.ofCell, AV.cells, AV.flat, AV.one, arep, aBin, aAppend, aConv])) rfl ⟨by simp [ordR, far4, h1d, h2d, h3d, h4d, h5d], rfl⟩)
          · have h5d := h5
            try simp only [Bool.not_eq_true', Bool.not_eq_false', decide_eq_true_eq, decide_eq_false_iff_not, beq_iff_eq, bne_iff_ne, ne_eq, Bool.not_eq_true, Bool.not_eq_false, beq_eq_false_iff_ne, bne_eq_false_iff_eq, Classical.not_not, Bool.and_eq_true, Bool.and_eq_false_imp] at h5d
            simp -implicitDefEqProofs (disch := omega) only [h1, h1d, h2, h2d, h3, h3d, h4, h4d, h5, h5d, aApp_nil, aApp_none, aApp_some, aApp_grw, simprocAttr, amset, tyset, Function.comp_apply, one1, lenV, calleeOf, lateOk, belowV, aop, AV.ofValue, AV.ofCell, AV.cells, AV.flat, AV.one, arep, aBin, aConv]
            repeat refine And.intro (by omega) ?_
            exact hQ _ _ (end_plain (.inl rfl) hbel (x := .bool false) (ret_of Try.results56 (by simp -implicitDefEqProofs (disch := omega) only [simprocAttr, amset, tyset, Function.comp_apply, one1, lenV, calleeOf, lateOk, belowV, aop, AV.ofValue, AV.ofCell, AV.cells, AV.flat, AV.one, arep, aBin, aAppend, aConv])) rfl ⟨by simp [ordR, far4, h1d, h2d, h3d, h4d, h5d], rfl⟩)
        · have h4d := h4
          try simp only [Bool.not_eq_true', Bool.not_eq_false', decide_eq_true_eq, decide_eq_false_iff_not, beq_iff_eq, bne_iff_ne, ne_eq, Bool.not_eq_true, Bool.not_eq_false, beq_eq_false_iff_ne, bne_eq_false_iff_eq, Classical.not_not, Bool.and_eq_true, Bool.and_eq_false_imp] at h4d
          simp -implicitDefEqProofs (disch := omega) only [h1, h1d, h2, h2d, h3, h3d, h4, h4d, aApp_nil, aApp_none, aApp_some, aApp_grw, simprocAttr, amset, tyset, Function.comp_apply, one1, lenV, calleeOf, lateOk, belowV, aop, AV.ofValue, AV.ofCell, AV.cells, AV.flat, AV.one, arep, aBin, aConv]
          repeat refine And.intro (by omega) ?_
          exact hQ _ _ (end_plain (.inl rfl) hbel (x := .bool false) (ret_of Try.results56 (by simp -implicitDefEqProofs (disch := omega) only [simprocAttr, amset, tyset, Function.comp_apply, one1, lenV, calleeOf, lateOk, belowV, aop, AV.ofValue, AV.ofCell, AV.cells, AV.flat, AV.one, arep, aBin, aAppend, aConv])) rfl ⟨by simp [ordR, far4, h1d, h2d, h3d, h4d], rfl⟩)
      · have h3d := h3
        try simp only [Bool.not_eq_true', Bool.not_eq_false', decide_eq_true_eq, decide_eq_false_iff_not, beq_iff_eq, bne_iff_ne, ne_eq, Bool.not_eq_true, Bool.not_eq_false, beq_eq_false_iff_ne, bne_eq_false_iff_eq, Classical.not_not, Bool.and_eq_true, Bool.and_eq_false_imp] at h3d
        simp -implicitDefEqProofs (disch := omega) only [h1, h1d, h2, h2d, h3, h3d, aApp_nil, aApp_none, aApp_some, aApp_grw, simprocAttr, amset, tyset, Function.comp_apply, one1, lenV, calleeOf, lateOk, belowV, aop, AV.ofValue, AV.ofCell, AV.cells, AV.flat, AV.one, arep, aBin, aConv]
        repeat refine And.intro (by omega) ?_
        exact hQ _ _ (end_plain (.inl rfl) hbel (x := .bool false) (ret_of Try.results56 (by simp -implicitDefEqProofs (disch := omega) only [simprocAttr, amset, tyset, Function.comp_apply, one1, lenV, calleeOf, lateOk, belowV, aop, AV.ofValue, AV.ofCell, AV.cells, AV.flat, AV.one, arep, aBin, aAppend, aConv])) rfl ⟨by simp [ordR, far4, h1d, h2d, h3d], rfl⟩)
    · have h2d := h2
      try simp only [Bool.not_eq_true', Bool.not_eq_false', decide_eq_true_eq, decide_eq_false_iff_not, beq_iff_eq, bne_iff_ne, ne_eq, Bool.not_eq_true, Bool.not_eq_false, beq_eq_false_iff_ne, bne_eq_false_iff_eq, Classical.not_not, Bool.and_eq_true, Bool.and_eq_false_imp] at h2d
      simp -implicitDefEqProofs (disch := omega) only [h1, h1d, h2, h2d, aApp_nil, aApp_none, aApp_some, aApp_grw, simprocAttr, amset, tyset, Function.comp_apply, one1, lenV, calleeOf, lateOk, belowV, aop, AV.ofValue, AV.ofCell, AV.cells, AV.flat, AV.one, arep, aBin, aConv]
      repeat refine And.intro (by omega) ?_
      exact hQ _ _ (end_plain (.inl rfl) hbel (x := .bool false) (ret_of Try.results56 (by simp -implicitDefEqProofs (disch := omega) only [simprocAttr, amset, tyset, Function.comp_apply, one1, lenV, calleeOf, lateOk, belowV, aop, AV.ofValue, AV.ofCell, AV.cells, AV.flat, AV.one, arep, aBin, aAppend, aConv])) rfl ⟨by simp [ordR, far4, h1d, h2d], rfl⟩)
  · have h1d := h1
    try simp only [Bool.not_eq_true', Bool.not_eq_false', decide_eq_true_eq, decide_eq_false_iff_not, beq_iff_eq, bne_iff_ne, ne_eq, Bool.not_eq_true, Bool.not_eq_false, beq_eq_false_iff_ne, bne_eq_false_iff_eq, Classical.not_not, Bool.and_eq_true, Bool.and_eq_false_imp] at h1d
    simp -implicitDefEqProofs (disch := omega) only [h1, h1d, aApp_nil, aApp_none, aApp_some, aApp_grw, simprocAttr, amset, tyset, Function.comp_apply, one1, lenV, calleeOf, lateOk, belowV, aop, AV.ofValue, AV.ofCell, AV.cells, AV.flat, AV.one, arep, aBin, aConv]
    repeat refine And.intro (by omega) ?_
    exact hQ _ _ (end_plain (.inl rfl) hbel (x := .bool false) (ret_of Try.results56 (by simp -implicitDefEqProofs (disch := omega) only [simprocAttr, amset, tyset, Function.comp_apply, one1, lenV, calleeOf, lateOk, belowV, aop, AV.ofValue, AV.ofCell, AV.cells, AV.flat, AV.one, arep, aBin, aAppend, aConv])) rfl ⟨by simp [ordR, far4, h1d], rfl⟩)
set_option maxHeartbeats 4000000 in
set_option maxRecDepth 100000 in
theorem rrect_c (H : AHeap) (x0 : Int) (y0 : Int) (x1 : Int) (y1 : Int) (hfar : (-2097152 ≤ x0 ∧ x0 ≤ 2097152) ∧ (-2097152 ≤ y0 ∧ y0 ≤ 2097152) ∧ (-2097152 ≤ x1 ∧ x1 ≤ 2097152) ∧ (-2097152 ≤ y1 ∧ y1 ≤ 2097152)) : ACalls Try.prog 57 [.agg [.int .i64 x0, .int .i64 y0, .int .i64 x1, .int .i64 y1]] H (fun v H' => v = .agg [.int .i64 (x0 + x1), .int .i64 (y0 + y1), .sl (some (H.length, 0)) ((canonL [(x1 - x0, 0), (0, y1 - y0)]).length) (capG (canonL [(x1 - x0, 0), (0, y1 - y0)]).length)] ∧ H' = H ++ [.cells (ownG (canonL [(x1 - x0, 0), (0, y1 - y0)]).length) 2 (prs (canonL [(x1 - x0, 0), (0, y1 - y0)]))]) := by
  (refine ACalls_run try_mixed Try.func57 true _ rfl (Nat.le_of_ble_eq_true (by kernel_rfl)) (by kernel_rfl) ?_; intro hbel Q hQ hQ' c hc; unfold Try.f57 at hc; simp only [Option.some.injEq] at hc; subst hc; clear hQ')
  simp -implicitDefEqProofs (disch := omega) only [aApp_nil, aApp_none, aApp_some, aApp_grw, simprocAttr, amset, tyset, Function.comp_apply, one1, lenV, calleeOf, lateOk, belowV, aop, AV.ofValue, AV.ofCell, AV.cells, AV.flat, AV.one, arep, aBin, aConv]
  repeat refine And.intro (by omega) ?_
  have hB4 : ∀ e ∈ [((x1 - x0 : Int), (0 : Int)), (0, y1 - y0)], Bd 4194304 e := fun e he => by
    simp only [List.mem_cons, List.not_mem_nil, or_false] at he
    first | (rcases he with rfl | rfl <;> (unfold Bd; simp only; omega)) | (subst he; unfold Bd; simp only; omega)
  refine call_v (by kernel_rfl) (rcanon_u _ (x0 + x1) (y0 + y1) _ [(x1 - x0, 0), (0, y1 - y0)] (.inr ⟨_, _, _, by first | rfl | (rw [List.length_append]; rfl), by first | rfl | (rw [get_newk]; rfl) | (rw [get_new0]; rfl) | (rw [get_newk, prs_append]; rfl) | (rw [get_new0, prs_append]; rfl)⟩) (by first | omega | (simp only [List.length_cons, List.length_nil]; omega) | exact Nat.le_trans (mkL_len _ _) (by first | omega | simp) | exact Nat.le_trans (vL_len _ _) (by first | omega | simp) | exact Nat.le_trans corV_len (by omega) | exact Nat.le_trans (canonL_len _) (by first | omega | simp)) (by assumption)) ?_
  simp -implicitDefEqProofs (disch := omega) only [aApp_nil, aApp_none, aApp_some, aApp_grw, simprocAttr, amset, tyset, Function.comp_apply, one1, lenV, calleeOf, lateOk, belowV, aop, AV.ofValue, AV.ofCell, AV.cells, AV.flat, AV.one, arep, aBin, aConv]
  repeat refine And.intro (by omega) ?_
  refine hQ _ _ (end_byG (.inl rfl) hbel (x1 := .agg [.int .i64 (x0 + x1), .int .i64 (y0 + y1), .sl (some (H.length + 3, 0)) ((canonL [(x1 - x0, 0), (0, y1 - y0)]).length) (capG (canonL [(x1 - x0, 0), (0, y1 - y0)]).length)]) (l2 := [.cells (ownG (canonL [(x1 - x0, 0), (0, y1 - y0)]).length) 2 (prs (canonL [(x1 - x0, 0), (0, y1 - y0)]))]) (.agg [.int .i64 (x0 + x1), .int .i64 (y0 + y1), .sl (some (H.length, 0)) ((canonL [(x1 - x0, 0), (0, y1 - y0)]).length) (capG (canonL [(x1 - x0, 0), (0, y1 - y0)]).length)]) (ret_of Try.results57 (by simp -implicitDefEqProofs (disch := omega) only [simprocAttr, amset, tyset, Function.comp_apply, one1, lenV, calleeOf, lateOk, belowV, aop, AV.ofValue, AV.ofCell, AV.cells, AV.flat, AV.one, arep, aBin, aAppend, aConv])) [] rfl [3] (by decide) ⟨rfl, rfl⟩ ?_)
  simp -implicitDefEqProofs (disch := omega) only [W_nil0, W_nil1, W_cap', Wc_nil0, Wc_nil1, Wc_cap', absF, absH, W_refl', W_any', W_agg, W_tup, Ws_cons, Ws_refl', Wc_refl', Wcs_cons, Wcs_nil, look, List.cons_append, List.nil_append, List.append_nil, List.length_cons, List.length_nil, Nat.zero_add, Nat.reduceAdd, AV.mv, AV.mvs, ABlk.mv, sig_new0, sig_newk, sig_lt, List.getElem?_cons_zero, List.getElem?_cons_succ, mvs_ints, mvs_bools, mvs_prs, mvs_append, cond_true, cond_false, beq_self_eq_true, Nat.reduceBEq, true_and, and_true, or_true, true_or, and_self, decide_true, Nat.add_zero, reduceCtorEq, false_or, or_false]
  repeat' (first | exact True.intro | exact Nat.add_lt_add_left (by decide) _ | exact Nat.lt_add_of_pos_right (by decide) | refine W_nils ?_ (Or.inr rfl) | refine W_nils ?_ (Or.inl rfl) | refine Wc_nils ?_ (Or.inr rfl) | refine Wc_nils ?_ (Or.inl rfl) | exact W_cap | rfl | refine And.intro ?_ ?_ | exact Or.inl rfl | exact Or.inr rfl | exact Or.inr (Or.inl rfl) | exact Or.inr (Or.inr BW.emp) | exact Or.inr BW.emp | exact BW.emp | exact Or.inr (Or.inr BW.pre) | exact Or.inr BW.pre | exact BW.pre | refine Or.inr (BW.cells ?_) | refine BW.cells ?_ | refine Or.inr (Or.inr (BW.cells ?_)) | exact Wc_cap)
set_option maxHeartbeats 4000000 in
set_option maxRecDepth 100000 in
theorem rofrect_c (H : AHeap) (x0 : Int) (y0 : Int) (x1 : Int) (y1 : Int) : ACalls Try.prog 28 [.agg [.int .i64 x0, .int .i64 y0, .int .i64 x1, .int .i64 y1]] H (fun v H' => v = .tup [.agg [.int .i64 (mkX (rectE x0 y0 x1 y1) (x0 + x1)), .int .i64 (mkX (rectE x0 y0 x1 y1) (y0 + y1)), .sl (some (H.length, 0)) ((mkL (rectE x0 y0 x1 y1) (canonL [(x1 - x0, 0), (0, y1 - y0)])).length) (capG (mkL (rectE x0 y0 x1 y1) (canonL [(x1 - x0, 0), (0, y1 - y0)])).length)], .int .i64 (rectE x0 y0 x1 y1)] ∧ H' = H ++ [.cells (ownG (mkL (rectE x0 y0 x1 y1) (canonL [(x1 - x0, 0), (0, y1 - y0)])).length) 2 (prs (mkL (rectE x0 y0 x1 y1) (canonL [(x1 - x0, 0), (0, y1 - y0)])))]) := by
  (refine ACalls_run try_mixed Try.func28 true _ rfl (Nat.le_of_ble_eq_true (by kernel_rfl)) (by kernel_rfl) ?_; intro hbel Q hQ hQ' c hc; unfold Try.f28 at hc; simp only [Option.some.injEq] at hc; subst hc; clear hQ')
  simp -implicitDefEqProofs (disch := omega) only [aApp_nil, aApp_none, aApp_some, aApp_grw, simprocAttr, amset, tyset, Function.comp_apply, one1, lenV, calleeOf, lateOk, belowV, aop, AV.ofValue, AV.ofCell, AV.cells, AV.flat, AV.one, arep, aBin, aConv]
  repeat refine And.intro (by omega) ?_
  refine call_v (by kernel_rfl) (ordered_c _ x0 y0 x1 y1) ?_
  simp -implicitDefEqProofs (disch := omega) only [aApp_nil, aApp_none, aApp_some, aApp_grw, simprocAttr, amset, tyset, Function.comp_apply, one1, lenV, calleeOf, lateOk, belowV, aop, AV.ofValue, AV.ofCell, AV.cells, AV.flat, AV.one, arep, aBin, aConv]
  repeat refine And.intro (by omega) ?_
  refine gd_split (fun h1 => ?_) (fun h1 => ?_)
  · have h1d := h1
    try simp only [Bool.not_eq_true', Bool.not_eq_false', decide_eq_true_eq, decide_eq_false_iff_not, beq_iff_eq, bne_iff_ne, ne_eq, Bool.not_eq_true, Bool.not_eq_false, beq_eq_false_iff_ne, bne_eq_false_iff_eq, Classical.not_not, Bool.and_eq_true, Bool.and_eq_false_imp] at h1d
    have hord := h1d
    simp only [ordR, Bool.and_eq_true, decide_eq_true_eq] at hord
    have hfar := far4_bd hord.2.2
    have hfin := hord
    simp -implicitDefEqProofs (disch := omega) only [h1, h1d, aApp_nil, aApp_none, aApp_some, aApp_grw, simprocAttr, amset, tyset, Function.comp_apply, one1, lenV, calleeOf, lateOk, belowV, aop, AV.ofValue, AV.ofCell, AV.cells, AV.flat, AV.one, arep, aBin, aConv]
    repeat refine And.intro (by omega) ?_
    refine gd_split (fun h2 => ?_) (fun h2 => ?_)
    · have h2d := h2
      try simp only [Bool.not_eq_true', Bool.not_eq_false', decide_eq_true_eq, decide_eq_false_iff_not, beq_iff_eq, bne_iff_ne, ne_eq, Bool.not_eq_true, Bool.not_eq_false, beq_eq_false_iff_ne, bne_eq_false_iff_eq, Classical.not_not, Bool.and_eq_true, Bool.and_eq_false_imp] at h2d
      simp -implicitDefEqProofs (disch := omega) only [h1, h1d, h2, h2d, aApp_nil, aApp_none, aApp_some, aApp_grw, simprocAttr, amset, tyset, Function.comp_apply, one1, lenV, calleeOf, lateOk, belowV, aop, AV.ofValue, AV.ofCell, AV.cells, AV.flat, AV.one, arep, aBin, aConv]
      repeat refine And.intro (by omega) ?_
      refine cond_split (fun h3 => ?_) (fun h3 => ?_)
      · have h3d := h3
        try simp only [Bool.not_eq_true', Bool.not_eq_false', decide_eq_true_eq, decide_eq_false_iff_not, beq_iff_eq, bne_iff_ne, ne_eq, Bool.not_eq_true, Bool.not_eq_false, beq_eq_false_iff_ne, bne_eq_false_iff_eq, Classical.not_not, Bool.and_eq_true, Bool.and_eq_false_imp] at h3d
        simp -implicitDefEqProofs (disch := omega) only [h1, h1d, h2, h2d, h3, h3d, aApp_nil, aApp_none, aApp_some, aApp_grw, simprocAttr, amset, tyset, Function.comp_apply, one1, lenV, calleeOf, lateOk, belowV, aop, AV.ofValue, AV.ofCell, AV.cells, AV.flat, AV.one, arep, aBin, aConv]
        repeat refine And.intro (by omega) ?_
        refine hQ _ _ (end_byG (.inl rfl) hbel (x1 := .tup [.agg [.int .i64 0, .int .i64 0, .sl none 0 (some 0)], .int .i64 1]) (l2 := [.cells false 2 []]) (.tup [.agg [.int .i64 0, .int .i64 0, .sl (some (H.length, 0)) 0 (some 0)], .int .i64 1]) (ret_of Try.results28 (by simp -implicitDefEqProofs (disch := omega) only [simprocAttr, amset, tyset, Function.comp_apply, one1, lenV, calleeOf, lateOk, belowV, aop, AV.ofValue, AV.ofCell, AV.cells, AV.flat, AV.one, arep, aBin, aAppend, aConv])) [.cells false 2 []] rfl [2] (by decide) ⟨by first | (simp [mkX, mkL, hfin, capG_0, ownG_0, prs_nil]; done) | (rw [show rectE x0 y0 x1 y1 = 1 from if_neg (fun h => by omega)]; rfl) | (rw [show rectE x0 y0 x1 y1 = 0 from if_pos ⟨hord.2.2, hord.1, hord.2.1, by omega, by omega⟩]; rfl), by first | (simp [mkX, mkL, hfin, capG_0, ownG_0, prs_nil]; done) | (rw [show rectE x0 y0 x1 y1 = 1 from if_neg (fun h => by omega)]; rfl) | (rw [show rectE x0 y0 x1 y1 = 0 from if_pos ⟨hord.2.2, hord.1, hord.2.1, by omega, by omega⟩]; rfl)⟩ ?_)
        simp -implicitDefEqProofs (disch := omega) only [W_nil0, W_nil1, W_cap', Wc_nil0, Wc_nil1, Wc_cap', absF, absH, W_refl', W_any', W_agg, W_tup, Ws_cons, Ws_refl', Wc_refl', Wcs_cons, Wcs_nil, look, List.cons_append, List.nil_append, List.append_nil, List.length_cons, List.length_nil, Nat.zero_add, Nat.reduceAdd, AV.mv, AV.mvs, ABlk.mv, sig_new0, sig_newk, sig_lt, List.getElem?_cons_zero, List.getElem?_cons_succ, mvs_ints, mvs_bools, mvs_prs, mvs_append, cond_true, cond_false, beq_self_eq_true, Nat.reduceBEq, true_and, and_true, or_true, true_or, and_self, decide_true, Nat.add_zero, reduceCtorEq, false_or, or_false]
        repeat' (first | exact True.intro | exact Nat.add_lt_add_left (by decide) _ | exact Nat.lt_add_of_pos_right (by decide) | refine W_nils ?_ (Or.inr rfl) | refine W_nils ?_ (Or.inl rfl) | refine Wc_nils ?_ (Or.inr rfl) | refine Wc_nils ?_ (Or.inl rfl) | exact W_cap | rfl | refine And.intro ?_ ?_ | exact Or.inl rfl | exact Or.inr rfl | exact Or.inr (Or.inl rfl) | exact Or.inr (Or.inr BW.emp) | exact Or.inr BW.emp | exact BW.emp | exact Or.inr (Or.inr BW.pre) | exact Or.inr BW.pre | exact BW.pre | refine Or.inr (BW.cells ?_) | refine BW.cells ?_ | refine Or.inr (Or.inr (BW.cells ?_)) | exact Wc_cap)
      · have h3d := h3
        try simp only [Bool.not_eq_true', Bool.not_eq_false', decide_eq_true_eq, decide_eq_false_iff_not, beq_iff_eq, bne_iff_ne, ne_eq, Bool.not_eq_true, Bool.not_eq_false, beq_eq_false_iff_ne, bne_eq_false_iff_eq, Classical.not_not, Bool.and_eq_true, Bool.and_eq_false_imp] at h3d
        simp -implicitDefEqProofs (disch := omega) only [h1, h1d, h2, h2d, h3, h3d, aApp_nil, aApp_none, aApp_some, aApp_grw, simprocAttr, amset, tyset, Function.comp_apply, one1, lenV, calleeOf, lateOk, belowV, aop, AV.ofValue, AV.ofCell, AV.cells, AV.flat, AV.one, arep, aBin, aConv]
        repeat refine And.intro (by omega) ?_
        refine call_v (by kernel_rfl) (rrect_c _ x0 y0 x1 y1 (by assumption)) ?_
        simp -implicitDefEqProofs (disch := omega) only [h1, h1d, h2, h2d, h3, h3d, aApp_nil, aApp_none, aApp_some, aApp_grw, simprocAttr, amset, tyset, Function.comp_apply, one1, lenV, calleeOf, lateOk, belowV, aop, AV.ofValue, AV.ofCell, AV.cells, AV.flat, AV.one, arep, aBin, aConv]
        repeat refine And.intro (by omega) ?_
        refine hQ _ _ (end_byG (.inl rfl) hbel (x1 := .tup [.agg [.int .i64 (x0 + x1), .int .i64 (y0 + y1), .sl (some (H.length + 2, 0)) ((canonL [(x1 - x0, 0), (0, y1 - y0)]).length) (capG (canonL [(x1 - x0, 0), (0, y1 - y0)]).length)], .int .i64 0]) (l2 := [.cells (ownG (canonL [(x1 - x0, 0), (0, y1 - y0)]).length) 2 (prs (canonL [(x1 - x0, 0), (0, y1 - y0)]))]) (.tup [.agg [.int .i64 (x0 + x1), .int .i64 (y0 + y1), .sl (some (H.length, 0)) ((canonL [(x1 - x0, 0), (0, y1 - y0)]).length) (capG (canonL [(x1 - x0, 0), (0, y1 - y0)]).length)], .int .i64 0]) (ret_of Try.results28 (by simp -implicitDefEqProofs (disch := omega) only [simprocAttr, amset, tyset, Function.comp_apply, one1, lenV, calleeOf, lateOk, belowV, aop, AV.ofValue, AV.ofCell, AV.cells, AV.flat, AV.one, arep, aBin, aAppend, aConv])) [] rfl [2] (by decide) ⟨by first | (simp [mkX, mkL, hfin, capG_0, ownG_0, prs_nil]; done) | (rw [show rectE x0 y0 x1 y1 = 1 from if_neg (fun h => by omega)]; rfl) | (rw [show rectE x0 y0 x1 y1 = 0 from if_pos ⟨hord.2.2, hord.1, hord.2.1, by omega, by omega⟩]; rfl), by first | (simp [mkX, mkL, hfin, capG_0, ownG_0, prs_nil]; done) | (rw [show rectE x0 y0 x1 y1 = 1 from if_neg (fun h => by omega)]; rfl) | (rw [show rectE x0 y0 x1 y1 = 0 from if_pos ⟨hord.2.2, hord.1, hord.2.1, by omega, by omega⟩]; rfl)⟩ ?_)
        simp -implicitDefEqProofs (disch := omega) only [W_nil0, W_nil1, W_cap', Wc_nil0, Wc_nil1, Wc_cap', absF, absH, W_refl', W_any', W_agg, W_tup, Ws_cons, Ws_refl', Wc_refl', Wcs_cons, Wcs_nil, look, List.cons_append, List.nil_append, List.append_nil, List.length_cons, List.length_nil, Nat.zero_add, Nat.reduceAdd, AV.mv, AV.mvs, ABlk.mv, sig_new0, sig_newk, sig_lt, List.getElem?_cons_zero, List.getElem?_cons_succ, mvs_ints, mvs_bools, mvs_prs, mvs_append, cond_true, cond_false, beq_self_eq_true, Nat.reduceBEq, true_and, and_true, or_true, true_or, and_self, decide_true, Nat.add_zero, reduceCtorEq, false_or, or_false]
        repeat' (first | exact True.intro | exact Nat.add_lt_add_left (by decide) _ | exact Nat.lt_add_of_pos_right (by decide) | refine W_nils ?_ (Or.inr rfl) | refine W_nils ?_ (Or.inl rfl) | refine Wc_nils ?_ (Or.inr rfl) | refine Wc_nils ?_ (Or.inl rfl) | exact W_cap | rfl | refine And.intro ?_ ?_ | exact Or.inl rfl | exact Or.inr rfl | exact Or.inr (Or.inl rfl) | exact Or.inr (Or.inr BW.emp) | exact Or.inr BW.emp | exact BW.emp | exact Or.inr (Or.inr BW.pre) | exact Or.inr BW.pre | exact BW.pre | refine Or.inr (BW.cells ?_) | refine BW.cells ?_ | refine Or.inr (Or.inr (BW.cells ?_)) | exact Wc_cap)
    · have h2d := h2
      try simp only [Bool.not_eq_true', Bool.not_eq_false', decide_eq_true_eq, decide_eq_false_iff_not, beq_iff_eq, bne_iff_ne, ne_eq, Bool.not_eq_true, Bool.not_eq_false, beq_eq_false_iff_ne, bne_eq_false_iff_eq, Classical.not_not, Bool.and_eq_true, Bool.and_eq_false_imp] at h2d
      simp -implicitDefEqProofs (disch := omega) only [h1, h1d, h2, h2d, aApp_nil, aApp_none, aApp_some, aApp_grw, simprocAttr, amset, tyset, Function.comp_apply, one1, lenV, calleeOf, lateOk, belowV, aop, AV.ofValue, AV.ofCell, AV.cells, AV.flat, AV.one, arep, aBin, aConv]
      repeat refine And.intro (by omega) ?_
      refine hQ _ _ (end_byG (.inl rfl) hbel (x1 := .tup [.agg [.int .i64 0, .int .i64 0, .sl none 0 (some 0)], .int .i64 1]) (l2 := [.cells false 2 []]) (.tup [.agg [.int .i64 0, .int .i64 0, .sl (some (H.length, 0)) 0 (some 0)], .int .i64 1]) (ret_of Try.results28 (by simp -implicitDefEqProofs (disch := omega) only [simprocAttr, amset, tyset, Function.comp_apply, one1, lenV, calleeOf, lateOk, belowV, aop, AV.ofValue, AV.ofCell, AV.cells, AV.flat, AV.one, arep, aBin, aAppend, aConv])) [.cells false 2 []] rfl [2] (by decide) ⟨by first | (simp [mkX, mkL, hfin, capG_0, ownG_0, prs_nil]; done) | (rw [show rectE x0 y0 x1 y1 = 1 from if_neg (fun h => by omega)]; rfl) | (rw [show rectE x0 y0 x1 y1 = 0 from if_pos ⟨hord.2.2, hord.1, hord.2.1, by omega, by omega⟩]; rfl), by first | (simp [mkX, mkL, hfin, capG_0, ownG_0, prs_nil]; done) | (rw [show rectE x0 y0 x1 y1 = 1 from if_neg (fun h => by omega)]; rfl) | (rw [show rectE x0 y0 x1 y1 = 0 from if_pos ⟨hord.2.2, hord.1, hord.2.1, by omega, by omega⟩]; rfl)⟩ ?_)
      simp -implicitDefEqProofs (disch := omega) only [W_nil0, W_nil1, W_cap', Wc_nil0, Wc_nil1, Wc_cap', absF, absH, W_refl', W_any', W_agg, W_tup, Ws_cons, Ws_refl', Wc_refl', Wcs_cons, Wcs_nil, look, List.cons_append, List.nil_append, List.append_nil, List.length_cons, List.length_nil, Nat.zero_add, Nat.reduceAdd, AV.mv, AV.mvs, ABlk.mv, sig_new0, sig_newk, sig_lt, List.getElem?_cons_zero, List.getElem?_cons_succ, mvs_ints, mvs_bools, mvs_prs, mvs_append, cond_true, cond_false, beq_self_eq_true, Nat.reduceBEq, true_and, and_true, or_true, true_or, and_self, decide_true, Nat.add_zero, reduceCtorEq, false_or, or_false]
      repeat' (first | exact True.intro | exact Nat.add_lt_add_left (by decide) _ | exact Nat.lt_add_of_pos_right (by decide) | refine W_nils ?_ (Or.inr rfl) | refine W_nils ?_ (Or.inl rfl) | refine Wc_nils ?_ (Or.inr rfl) | refine Wc_nils ?_ (Or.inl rfl) | exact W_cap | rfl | refine And.intro ?_ ?_ | exact Or.inl rfl | exact Or.inr rfl | exact Or.inr (Or.inl rfl) | exact Or.inr (Or.inr BW.emp) | exact Or.inr BW.emp | exact BW.emp | exact Or.inr (Or.inr BW.pre) | exact Or.inr BW.pre | exact BW.pre | refine Or.inr (BW.cells ?_) | refine BW.cells ?_ | refine Or.inr (Or.inr (BW.cells ?_)) | exact Wc_cap)
  · have h1d := h1
    try simp only [Bool.not_eq_true', Bool.not_eq_false', decide_eq_true_eq, decide_eq_false_iff_not, beq_iff_eq, bne_iff_ne, ne_eq, Bool.not_eq_true, Bool.not_eq_false, beq_eq_false_iff_ne, bne_eq_false_iff_eq, Classical.not_not, Bool.and_eq_true, Bool.and_eq_false_imp] at h1d
    have hfin : rectE x0 y0 x1 y1 = 1 := if_neg (fun hh => by have := h1d; simp [ordR, hh.1, hh.2.1, hh.2.2.1] at this)
    simp -implicitDefEqProofs (disch := omega) only [h1, h1d, aApp_nil, aApp_none, aApp_some, aApp_grw, simprocAttr, amset, tyset, Function.comp_apply, one1, lenV, calleeOf, lateOk, belowV, aop, AV.ofValue, AV.ofCell, AV.cells, AV.flat, AV.one, arep, aBin, aConv]
    repeat refine And.intro (by omega) ?_
    refine hQ _ _ (end_byG (.inl rfl) hbel (x1 := .tup [.agg [.int .i64 0, .int .i64 0, .sl none 0 (some 0)], .int .i64 1]) (l2 := [.cells false 2 []]) (.tup [.agg [.int .i64 0, .int .i64 0, .sl (some (H.length, 0)) 0 (some 0)], .int .i64 1]) (ret_of Try.results28 (by simp -implicitDefEqProofs (disch := omega) only [simprocAttr, amset, tyset, Function.comp_apply, one1, lenV, calleeOf, lateOk, belowV, aop, AV.ofValue, AV.ofCell, AV.cells, AV.flat, AV.one, arep, aBin, aAppend, aConv])) [.cells false 2 []] rfl [2] (by decide) ⟨by first | (simp [mkX, mkL, hfin, capG_0, ownG_0, prs_nil]; done) | (rw [show rectE x0 y0 x1 y1 = 1 from if_neg (fun h => by omega)]; rfl) | (rw [show rectE x0 y0 x1 y1 = 0 from if_pos ⟨hord.2.2, hord.1, hord.2.1, by omega, by omega⟩]; rfl), by first | (simp [mkX, mkL, hfin, capG_0, ownG_0, prs_nil]; done) | (rw [show rectE x0 y0 x1 y1 = 1 from if_neg (fun h => by omega)]; rfl) | (rw [show rectE x0 y0 x1 y1 = 0 from if_pos ⟨hord.2.2, hord.1, hord.2.1, by omega, by omega⟩]; rfl)⟩ ?_)
    simp -implicitDefEqProofs (disch := omega) only [W_nil0, W_nil1, W_cap', Wc_nil0, Wc_nil1, Wc_cap', absF, absH, W_refl', W_any', W_agg, W_tup, Ws_cons, Ws_refl', Wc_refl', Wcs_cons, Wcs_nil, look, List.cons_append, List.nil_append, List.append_nil, List.length_cons, List.length_nil, Nat.zero_add, Nat.reduceAdd, AV.mv, AV.mvs, ABlk.mv, sig_new0, sig_newk, sig_lt, List.getElem?_cons_zero, List.getElem?_cons_succ, mvs_ints, mvs_bools, mvs_prs, mvs_append, cond_true, cond_false, beq_self_eq_true, Nat.reduceBEq, true_and, and_true, or_true, true_or, and_self, decide_true, Nat.add_zero, reduceCtorEq, false_or, or_false]
    repeat' (first | exact True.intro | exact Nat.add_lt_add_left (by decide) _ | exact Nat.lt_add_of_pos_right (by decide) | refine W_nils ?_ (Or.inr rfl) | refine W_nils ?_ (Or.inl rfl) | refine Wc_nils ?_ (Or.inr rfl) | refine Wc_nils ?_ (Or.inl rfl) | exact W_cap | rfl | refine And.intro ?_ ?_ | exact Or.inl rfl | exact Or.inr rfl | exact Or.inr (Or.inl rfl) | exact Or.inr (Or.inr BW.emp) | exact Or.inr BW.emp | exact BW.emp | exact Or.inr (Or.inr BW.pre) | exact Or.inr BW.pre | exact BW.pre | refine Or.inr (BW.cells ?_) | refine BW.cells ?_ | refine Or.inr (Or.inr (BW.cells ?_)) | exact Wc_cap)
set_option maxHeartbeats 4000000 in
set_option maxRecDepth 100000 in
theorem rofseg_c (H : AHeap) (x0 : Int) (y0 : Int) (x1 : Int) (y1 : Int) : ACalls Try.prog 30 [.agg [.int .i64 x0, .int .i64 y0], .agg [.int .i64 x1, .int .i64 y1]] H (fun v H' => v = .tup [.agg [.int .i64 (mkX (segE x0 y0 x1 y1) (x0 + x1)), .int .i64 (mkX (segE x0 y0 x1 y1) (y0 + y1)), .sl (some (H.length, 0)) ((mkL (segE x0 y0 x1 y1) (canonL [(x1 - x0, y1 - y0)])).length) (capG (mkL (segE x0 y0 x1 y1) (canonL [(x1 - x0, y1 - y0)])).length)], .int .i64 (segE x0 y0 x1 y1)] ∧ H' = H ++ [.cells (ownG (mkL (segE x0 y0 x1 y1) (canonL [(x1 - x0, y1 - y0)])).length) 2 (prs (mkL (segE x0 y0 x1 y1) (canonL [(x1 - x0, y1 - y0)])))]) := by
  (refine ACalls_run try_mixed Try.func30 true _ rfl (Nat.le_of_ble_eq_true (by kernel_rfl)) (by kernel_rfl) ?_; intro hbel Q hQ hQ' c hc; unfold Try.f30 at hc; simp only [Option.some.injEq] at hc; subst hc; clear hQ')
  simp -implicitDefEqProofs (disch := omega) only [aApp_nil, aApp_none, aApp_some, aApp_grw, simprocAttr, amset, tyset, Function.comp_apply, one1, lenV, calleeOf, lateOk, belowV, aop, AV.ofValue, AV.ofCell, AV.cells, AV.flat, AV.one, arep, aBin, aConv]
  repeat refine And.intro (by omega) ?_
  refine call_v (by kernel_rfl) (rwithin_c _ _ _ (by decide)) ?_
  simp -implicitDefEqProofs (disch := omega) only [aApp_nil, aApp_none, aApp_some, aApp_grw, simprocAttr, amset, tyset, Function.comp_apply, one1, lenV, calleeOf, lateOk, belowV, aop, AV.ofValue, AV.ofCell, AV.cells, AV.flat, AV.one, arep, aBin, aConv]
  repeat refine And.intro (by omega) ?_
  refine gd_split (fun h1 => ?_) (fun h1 => ?_)
  · have h1d := h1
    try simp only [Bool.not_eq_true', Bool.not_eq_false', decide_eq_true_eq, decide_eq_false_iff_not, beq_iff_eq, bne_iff_ne, ne_eq, Bool.not_eq_true, Bool.not_eq_false, beq_eq_false_iff_ne, bne_eq_false_iff_eq, Classical.not_not, Bool.and_eq_true, Bool.and_eq_false_imp] at h1d
    simp -implicitDefEqProofs (disch := omega) only [h1, h1d, aApp_nil, aApp_none, aApp_some, aApp_grw, simprocAttr, amset, tyset, Function.comp_apply, one1, lenV, calleeOf, lateOk, belowV, aop, AV.ofValue, AV.ofCell, AV.cells, AV.flat, AV.one, arep, aBin, aConv]
    repeat refine And.intro (by omega) ?_
    refine call_v (by kernel_rfl) (rwithin_c _ _ _ (by decide)) ?_
    simp -implicitDefEqProofs (disch := omega) only [h1, h1d, aApp_nil, aApp_none, aApp_some, aApp_grw, simprocAttr, amset, tyset, Function.comp_apply, one1, lenV, calleeOf, lateOk, belowV, aop, AV.ofValue, AV.ofCell, AV.cells, AV.flat, AV.one, arep, aBin, aConv]
    repeat refine And.intro (by omega) ?_
    refine gd_split (fun h2 => ?_) (fun h2 => ?_)
    · have h2d := h2
      try simp only [Bool.not_eq_true', Bool.not_eq_false', decide_eq_true_eq, decide_eq_false_iff_not, beq_iff_eq, bne_iff_ne, ne_eq, Bool.not_eq_true, Bool.not_eq_false, beq_eq_false_iff_ne, bne_eq_false_iff_eq, Classical.not_not, Bool.and_eq_true, Bool.and_eq_false_imp] at h2d
      simp -implicitDefEqProofs (disch := omega) only [h1, h1d, h2, h2d, aApp_nil, aApp_none, aApp_some, aApp_grw, simprocAttr, amset, tyset, Function.comp_apply, one1, lenV, calleeOf, lateOk, belowV, aop, AV.ofValue, AV.ofCell, AV.cells, AV.flat, AV.one, arep, aBin, aConv]
      repeat refine And.intro (by omega) ?_
      refine call_v (by kernel_rfl) (rwithin_c _ _ _ (by decide)) ?_
      simp -implicitDefEqProofs (disch := omega) only [h1, h1d, h2, h2d, aApp_nil, aApp_none, aApp_some, aApp_grw, simprocAttr, amset, tyset, Function.comp_apply, one1, lenV, calleeOf, lateOk, belowV, aop, AV.ofValue, AV.ofCell, AV.cells, AV.flat, AV.one, arep, aBin, aConv]
      repeat refine And.intro (by omega) ?_
      refine gd_split (fun h3 => ?_) (fun h3 => ?_)
      · have h3d := h3
        try simp only [Bool.not_eq_true', Bool.not_eq_false', decide_eq_true_eq, decide_eq_false_iff_not, beq_iff_eq, bne_iff_ne, ne_eq, Bool.not_eq_true, Bool.not_eq_false, beq_eq_false_iff_ne, bne_eq_false_iff_eq, Classical.not_not, Bool.and_eq_true, Bool.and_eq_false_imp] at h3d
        simp -implicitDefEqProofs (disch := omega) only [h1, h1d, h2, h2d, h3, h3d, aApp_nil, aApp_none, aApp_some, aApp_grw, simprocAttr, amset, tyset, Function.comp_apply, one1, lenV, calleeOf, lateOk, belowV, aop, AV.ofValue, AV.ofCell, AV.cells, AV.flat, AV.one, arep, aBin, aConv]
        repeat refine And.intro (by omega) ?_
        refine call_v (by kernel_rfl) (rwithin_c _ _ _ (by decide)) ?_
        simp -implicitDefEqProofs (disch := omega) only [h1, h1d, h2, h2d, h3, h3d, aApp_nil, aApp_none, aApp_some, aApp_grw, simprocAttr, amset, tyset, Function.comp_apply, one1, lenV, calleeOf, lateOk, belowV, aop, AV.ofValue, AV.ofCell, AV.cells, AV.flat, AV.one, arep, aBin, aConv]
        repeat refine And.intro (by omega) ?_
        refine gd_split (fun h4 => ?_) (fun h4 => ?_)
        · have h4d := h4
          try simp only [Bool.not_eq_true', Bool.not_eq_false', decide_eq_true_eq, decide_eq_false_iff_not, beq_iff_eq, bne_iff_ne, ne_eq, Bool.not_eq_true, Bool.not_eq_false, beq_eq_false_iff_ne, bne_eq_false_iff_eq, Classical.not_not, Bool.and_eq_true, Bool.and_eq_false_imp] at h4d
          simp -implicitDefEqProofs (disch := omega) only [h1, h1d, h2, h2d, h3, h3d, h4, h4d, aApp_nil, aApp_none, aApp_some, aApp_grw, simprocAttr, amset, tyset, Function.comp_apply, one1, lenV, calleeOf, lateOk, belowV, aop, AV.ofValue, AV.ofCell, AV.cells, AV.flat, AV.one, arep, aBin, aConv]
          repeat refine And.intro (by omega) ?_
          have hfar := far4_bd (a := x0) (b := y0) (c := x1) (d := y1) (by simp [far4, *])
          refine call_v (by kernel_rfl) (rwithin_c _ _ _ (by decide)) ?_
          simp -implicitDefEqProofs (disch := omega) only [h1, h1d, h2, h2d, h3, h3d, h4, h4d, aApp_nil, aApp_none, aApp_some, aApp_grw, simprocAttr, amset, tyset, Function.comp_apply, one1, lenV, calleeOf, lateOk, belowV, aop, AV.ofValue, AV.ofCell, AV.cells, AV.flat, AV.one, arep, aBin, aConv]
          repeat refine And.intro (by omega) ?_
          refine gd_split (fun h5 => ?_) (fun h5 => ?_)
          · have h5d := h5
            try simp only [Bool.not_eq_true', Bool.not_eq_false', decide_eq_true_eq, decide_eq_false_iff_not, beq_iff_eq, bne_iff_ne, ne_eq, Bool.not_eq_true, Bool.not_eq_false, beq_eq_false_iff_ne, bne_eq_false_iff_eq, Classical.not_not, Bool.and_eq_true, Bool.and_eq_false_imp] at h5d
            simp -implicitDefEqProofs (disch := omega) only [h1, h1d, h2, h2d, h3, h3d, h4, h4d, h5, h5d, aApp_nil, aApp_none, aApp_some, aApp_grw, simprocAttr, amset, tyset, Function.comp_apply, one1, lenV, calleeOf, lateOk, belowV, aop, AV.ofValue, AV.ofCell, AV.cells, AV.flat, AV.one, arep, aBin, aConv]
            repeat refine And.intro (by omega) ?_
            refine call_v (by kernel_rfl) (rwithin_c _ _ _ (by decide)) ?_
            simp -implicitDefEqProofs (disch := omega) only [h1, h1d, h2, h2d, h3, h3d, h4, h4d, h5, h5d, aApp_nil, aApp_none, aApp_some, aApp_grw, simprocAttr, amset, tyset, Function.comp_apply, one1, lenV, calleeOf, lateOk, belowV, aop, AV.ofValue, AV.ofCell, AV.cells, AV.flat, AV.one, arep, aBin, aConv]
            repeat refine And.intro (by omega) ?_
            refine cond_split (fun h6 => ?_) (fun h6 => ?_)
            · have h6d := h6
              try simp only [Bool.not_eq_true', Bool.not_eq_false', decide_eq_true_eq, decide_eq_false_iff_not, beq_iff_eq, bne_iff_ne, ne_eq, Bool.not_eq_true, Bool.not_eq_false, beq_eq_false_iff_ne, bne_eq_false_iff_eq, Classical.not_not, Bool.and_eq_true, Bool.and_eq_false_imp] at h6d
              simp -implicitDefEqProofs (disch := omega) only [h1, h1d, h2, h2d, h3, h3d, h4, h4d, h5, h5d, h6, h6d, aApp_nil, aApp_none, aApp_some, aApp_grw, simprocAttr, amset, tyset, Function.comp_apply, one1, lenV, calleeOf, lateOk, belowV, aop, AV.ofValue, AV.ofCell, AV.cells, AV.flat, AV.one, arep, aBin, aConv]
              repeat refine And.intro (by omega) ?_
              refine hQ _ _ (end_byG (.inl rfl) hbel (x1 := .tup [.agg [.int .i64 0, .int .i64 0, .sl none 0 (some 0)], .int .i64 1]) (l2 := [.cells false 2 []]) (.tup [.agg [.int .i64 0, .int .i64 0, .sl (some (H.length, 0)) 0 (some 0)], .int .i64 1]) (ret_of Try.results30 (by simp -implicitDefEqProofs (disch := omega) only [simprocAttr, amset, tyset, Function.comp_apply, one1, lenV, calleeOf, lateOk, belowV, aop, AV.ofValue, AV.ofCell, AV.cells, AV.flat, AV.one, arep, aBin, aAppend, aConv])) [.cells false 2 []] rfl [3] (by decide) ⟨by simp [mkX, mkL, segE, far4, capG_0, ownG_0, prs_nil, h1d, h2d, h3d, h4d, h5d, h6d], by simp [mkX, mkL, segE, far4, capG_0, ownG_0, prs_nil, h1d, h2d, h3d, h4d, h5d, h6d]⟩ ?_)
              simp -implicitDefEqProofs (disch := omega) only [W_nil0, W_nil1, W_cap', Wc_nil0, Wc_nil1, Wc_cap', absF, absH, W_refl', W_any', W_agg, W_tup, Ws_cons, Ws_refl', Wc_refl', Wcs_cons, Wcs_nil, look, List.cons_append, List.nil_append, List.append_nil, List.length_cons, List.length_nil, Nat.zero_add, Nat.reduceAdd, AV.mv, AV.mvs, ABlk.mv, sig_new0, sig_newk, sig_lt, List.getElem?_cons_zero, List.getElem?_cons_succ, mvs_ints, mvs_bools, mvs_prs, mvs_append, cond_true, cond_false, beq_self_eq_true, Nat.reduceBEq, true_and, and_true, or_true, true_or, and_self, decide_true, Nat.add_zero, reduceCtorEq, false_or, or_false]
              repeat' (first | exact True.intro | exact Nat.add_lt_add_left (by decide) _ | exact Nat.lt_add_of_pos_right (by decide) | refine W_nils ?_ (Or.inr rfl) | refine W_nils ?_ (Or.inl rfl) | refine Wc_nils ?_ (Or.inr rfl) | refine Wc_nils ?_ (Or.inl rfl) | exact W_cap | rfl | refine And.intro ?_ ?_ | exact Or.inl rfl | exact Or.inr rfl | exact Or.inr (Or.inl rfl) | exact Or.inr (Or.inr BW.emp) | exact Or.inr BW.emp | exact BW.emp | exact Or.inr (Or.inr BW.pre) | exact Or.inr BW.pre | exact BW.pre | refine Or.inr (BW.cells ?_) | refine BW.cells ?_ | refine Or.inr (Or.inr (BW.cells ?_)) | exact Wc_cap)
            · have h6d := h6
              try simp only [Bool.not_eq_true', Bool.not_eq_false', decide_eq_true_eq, decide_eq_false_iff_not, beq_iff_eq, bne_iff_ne, ne_eq, Bool.not_eq_true, Bool.not_eq_false, beq_eq_false_iff_ne, bne_eq_false_iff_eq, Classical.not_not, Bool.and_eq_true, Bool.and_eq_false_imp] at h6d
              simp -implicitDefEqProofs (disch := omega) only [h1, h1d, h2, h2d, h3, h3d, h4, h4d, h5, h5d, h6, h6d, aApp_nil, aApp_none, aApp_some, aApp_grw, simprocAttr, amset, tyset, Function.comp_apply, one1, lenV, calleeOf, lateOk, belowV, aop, AV.ofValue, AV.ofCell, AV.cells, AV.flat, AV.one, arep, aBin, aConv]
              repeat refine And.intro (by omega) ?_
              have hB4 : ∀ e ∈ [((x1 - x0 : Int), (y1 - y0 : Int))], Bd 4194304 e := fun e he => by
                simp only [List.mem_cons, List.not_mem_nil, or_false] at he
                first | (rcases he with rfl | rfl <;> (unfold Bd; simp only; omega)) | (subst he; unfold Bd; simp only; omega)
              refine call_v (by kernel_rfl) (rcanon_u _ (x0 + x1) (y0 + y1) _ [(x1 - x0, y1 - y0)] (.inr ⟨_, _, _, by first | rfl | (rw [List.length_append]; rfl), by first | rfl | (rw [get_newk]; rfl) | (rw [get_new0]; rfl) | (rw [get_newk, prs_append]; rfl) | (rw [get_new0, prs_append]; rfl)⟩) (by first | omega | (simp only [List.length_cons, List.length_nil]; omega) | exact Nat.le_trans (mkL_len _ _) (by first | omega | simp) | exact Nat.le_trans (vL_len _ _) (by first | omega | simp) | exact Nat.le_trans corV_len (by omega) | exact Nat.le_trans (canonL_len _) (by first | omega | simp)) (by assumption)) ?_
              simp -implicitDefEqProofs (disch := omega) only [h1, h1d, h2, h2d, h3, h3d, h4, h4d, h5, h5d, h6, h6d, aApp_nil, aApp_none, aApp_some, aApp_grw, simprocAttr, amset, tyset, Function.comp_apply, one1, lenV, calleeOf, lateOk, belowV, aop, AV.ofValue, AV.ofCell, AV.cells, AV.flat, AV.one, arep, aBin, aConv]
              repeat refine And.intro (by omega) ?_
              refine hQ _ _ (end_byG (.inl rfl) hbel (x1 := .tup [.agg [.int .i64 (x0 + x1), .int .i64 (y0 + y1), .sl (some (H.length + 4, 0)) ((canonL [(x1 - x0, y1 - y0)]).length) (capG (canonL [(x1 - x0, y1 - y0)]).length)], .int .i64 0]) (l2 := [.cells (ownG (canonL [(x1 - x0, y1 - y0)]).length) 2 (prs (canonL [(x1 - x0, y1 - y0)]))]) (.tup [.agg [.int .i64 (x0 + x1), .int .i64 (y0 + y1), .sl (some (H.length, 0)) ((canonL [(x1 - x0, y1 - y0)]).length) (capG (canonL [(x1 - x0, y1 - y0)]).length)], .int .i64 0]) (ret_of Try.results30 (by simp -implicitDefEqProofs (disch := omega) only [simprocAttr, amset, tyset, Function.comp_apply, one1, lenV, calleeOf, lateOk, belowV, aop, AV.ofValue, AV.ofCell, AV.cells, AV.flat, AV.one, arep, aBin, aAppend, aConv])) [] rfl [4] (by decide) ⟨by simp [mkX, mkL, segE, far4, capG_0, ownG_0, prs_nil, h1d, h2d, h3d, h4d, h5d, h6d], by simp [mkX, mkL, segE, far4, capG_0, ownG_0, prs_nil, h1d, h2d, h3d, h4d, h5d, h6d]⟩ ?_)
              simp -implicitDefEqProofs (disch := omega) only [W_nil0, W_nil1, W_cap', Wc_nil0, Wc_nil1, Wc_cap', absF, absH, W_refl', W_any', W_agg, W_tup, Ws_cons, Ws_refl', Wc_refl', Wcs_cons, Wcs_nil, look, List.cons_append, List.nil_append, List.append_nil, List.length_cons, List.length_nil, Nat.zero_add, Nat.reduceAdd, AV.mv, AV.mvs, ABlk.mv, sig_new0, sig_newk, sig_lt, List.getElem?_cons_zero, List.getElem?_cons_succ, mvs_ints, mvs_bools, mvs_prs, mvs_append, cond_true, cond_false, beq_self_eq_true, Nat.reduceBEq, true_and, and_true, or_true, true_or, and_self, decide_true, Nat.add_zero, reduceCtorEq, false_or, or_false]
              repeat' (first | exact True.intro | exact Nat.add_lt_add_left (by decide) _ | exact Nat.lt_add_of_pos_right (by decide) | refine W_nils ?_ (Or.inr rfl) | refine W_nils ?_ (Or.inl rfl) | refine Wc_nils ?_ (Or.inr rfl) | refine Wc_nils ?_ (Or.inl rfl) | exact W_cap | rfl | refine And.intro ?_ ?_ | exact Or.inl rfl | exact Or.inr rfl | exact Or.inr (Or.inl rfl) | exact Or.inr (Or.inr BW.emp) | exact Or.inr BW.emp | exact BW.emp | exact Or.inr (Or.inr BW.pre) | exact Or.inr BW.pre | exact BW.pre | refine Or.inr (BW.cells ?_) | refine BW.cells ?_ | refine Or.inr (Or.inr (BW.cells ?_)) | exact Wc_cap)
          · have h5d := h5
            try simp only [Bool.not_eq_true', Bool.not_eq_false', decide_eq_true_eq, decide_eq_false_iff_not, beq_iff_eq, bne_iff_ne, ne_eq, Bool.not_eq_true, Bool.not_eq_false, beq_eq_false_iff_ne, bne_eq_false_iff_eq, Classical.not_not, Bool.and_eq_true, Bool.and_eq_false_imp] at h5d
            simp -implicitDefEqProofs (disch := omega) only [h1, h1d, h2, h2d, h3, h3d, h4, h4d, h5, h5d, aApp_nil, aApp_none, aApp_some, aApp_grw, simprocAttr, amset, tyset, Function.comp_apply, one1, lenV, calleeOf, lateOk, belowV, aop, AV.ofValue, AV.ofCell, AV.cells, AV.flat, AV.one, arep, aBin, aConv]
            repeat refine And.intro (by omega) ?_
            refine hQ _ _ (end_byG (.inl rfl) hbel (x1 := .tup [.agg [.int .i64 0, .int .i64 0, .sl none 0 (some 0)], .int .i64 1]) (l2 := [.cells false 2 []]) (.tup [.agg [.int .i64 0, .int .i64 0, .sl (some (H.length, 0)) 0 (some 0)], .int .i64 1]) (ret_of Try.results30 (by simp -implicitDefEqProofs (disch := omega) only [simprocAttr, amset, tyset, Function.comp_apply, one1, lenV, calleeOf, lateOk, belowV, aop, AV.ofValue, AV.ofCell, AV.cells, AV.flat, AV.one, arep, aBin, aAppend, aConv])) [.cells false 2 []] rfl [3] (by decide) ⟨by simp [mkX, mkL, segE, far4, capG_0, ownG_0, prs_nil, h1d, h2d, h3d, h4d, h5d], by simp [mkX, mkL, segE, far4, capG_0, ownG_0, prs_nil, h1d, h2d, h3d, h4d, h5d]⟩ ?_)
            simp -implicitDefEqProofs (disch := omega) only [W_nil0, W_nil1, W_cap', Wc_nil0, Wc_nil1, Wc_cap', absF, absH, W_refl', W_any', W_agg, W_tup, Ws_cons, Ws_refl', Wc_refl', Wcs_cons, Wcs_nil, look, List.cons_append, List.nil_append, List.append_nil, List.length_cons, List.length_nil, Nat.zero_add, Nat.reduceAdd, AV.mv, AV.mvs, ABlk.mv, sig_new0, sig_newk, sig_lt, List.getElem?_cons_zero, List.getElem?_cons_succ, mvs_ints, mvs_bools, mvs_prs, mvs_append, cond_true, cond_false, beq_self_eq_true, Nat.reduceBEq, true_and, and_true, or_true, true_or, and_self, decide_true, Nat.add_zero, reduceCtorEq, false_or, or_false]
            repeat' (first | exact True.intro | exact Nat.add_lt_add_left (by decide) _ | exact Nat.lt_add_of_pos_right (by decide) | refine W_nils ?_ (Or.inr rfl) | refine W_nils ?_ (Or.inl rfl) | refine Wc_nils ?_ (Or.inr rfl) | refine Wc_nils ?_ (Or.inl rfl) | exact W_cap | rfl | refine And.intro ?_ ?_ | exact Or.inl rfl | exact Or.inr rfl | exact Or.inr (Or.inl rfl) | exact Or.inr (Or.inr BW.emp) | exact Or.inr BW.emp | exact BW.emp | exact Or.inr (Or.inr BW.pre) | exact Or.inr BW.pre | exact BW.pre | refine Or.inr (BW.cells ?_) | refine BW.cells ?_ | refine Or.inr (Or.inr (BW.cells ?_)) | exact Wc_cap)
        · have h4d := h4
          try simp only [Bool.not_eq_true', Bool.not_eq_false', decide_eq_true_eq, decide_eq_false_iff_not, beq_iff_eq, bne_iff_ne, ne_eq, Bool.not_eq_true, Bool.not_eq_false, beq_eq_false_iff_ne, bne_eq_false_iff_eq, Classical.not_not, Bool.and_eq_true, Bool.and_eq_false_imp] at h4d
          simp -implicitDefEqProofs (disch := omega) only [h1, h1d, h2, h2d, h3, h3d, h4, h4d, aApp_nil, aApp_none, aApp_some, aApp_grw, simprocAttr, amset, tyset, Function.comp_apply, one1, lenV, calleeOf, lateOk, belowV, aop, AV.ofValue, AV.ofCell, AV.cells, AV.flat, AV.one, arep, aBin, aConv]
          repeat refine And.intro (by omega) ?_
          refine hQ _ _ (end_byG (.inl rfl) hbel (x1 := .tup [.agg [.int .i64 0, .int .i64 0, .sl none 0 (some 0)], .int .i64 1]) (l2 := [.cells false 2 []]) (.tup [.agg [.int .i64 0, .int .i64 0, .sl (some (H.length, 0)) 0 (some 0)], .int .i64 1]) (ret_of Try.results30 (by simp -implicitDefEqProofs (disch := omega) only [simprocAttr, amset, tyset, Function.comp_apply, one1, lenV, calleeOf, lateOk, belowV, aop, AV.ofValue, AV.ofCell, AV.cells, AV.flat, AV.one, arep, aBin, aAppend, aConv])) [.cells false 2 []] rfl [3] (by decide) ⟨by simp [mkX, mkL, segE, far4, capG_0, ownG_0, prs_nil, h1d, h2d, h3d, h4d], by simp [mkX, mkL, segE, far4, capG_0, ownG_0, prs_nil, h1d, h2d, h3d, h4d]⟩ ?_)
          simp -implicitDefEqProofs (disch := omega) only [W_nil0, W_nil1, W_cap', Wc_nil0, Wc_nil1, Wc_cap', absF, absH, W_refl', W_any', W_agg, W_tup, Ws_cons, Ws_refl', Wc_refl', Wcs_cons, Wcs_nil, look, List.cons_append, List.nil_append, List.append_nil, List.length_cons, List.length_nil, Nat.zero_add, Nat.reduceAdd, AV.mv, AV.mvs, ABlk.mv, sig_new0, sig_newk, sig_lt, List.getElem?_cons_zero, List.getElem?_cons_succ, mvs_ints, mvs_bools, mvs_prs, mvs_append, cond_true, cond_false, beq_self_eq_true, Nat.reduceBEq, true_and, and_true, or_true, true_or, and_self, decide_true, Nat.add_zero, reduceCtorEq, false_or, or_false]
          repeat' (first | exact True.intro | exact Nat.add_lt_add_left (by decide) _ | exact Nat.lt_add_of_pos_right (by decide) | refine W_nils ?_ (Or.inr rfl) | refine W_nils ?_ (Or.inl rfl) | refine Wc_nils ?_ (Or.inr rfl) | refine Wc_nils ?_ (Or.inl rfl) | exact W_cap | rfl | refine And.intro ?_ ?_ | exact Or.inl rfl | exact Or.inr rfl | exact Or.inr (Or.inl rfl) | exact Or.inr (Or.inr BW.emp) | exact Or.inr BW.emp | exact BW.emp | exact Or.inr (Or.inr BW.pre) | exact Or.inr BW.pre | exact BW.pre | refine Or.inr (BW.cells ?_) | refine BW.cells ?_ | refine Or.inr (Or.inr (BW.cells ?_)) | exact Wc_cap)
      · have h3d := h3
        try simp only [Bool.not_eq_true', Bool.not_eq_false', decide_eq_true_eq, decide_eq_false_iff_not, beq_iff_eq, bne_iff_ne, ne_eq, Bool.not_eq_true, Bool.not_eq_false, beq_eq_false_iff_ne, bne_eq_false_iff_eq, Classical.not_not, Bool.and_eq_true, Bool.and_eq_false_imp] at h3d
        simp -implicitDefEqProofs (disch := omega) only [h1, h1d, h2, h2d, h3, h3d, aApp_nil, aApp_none, aApp_some, aApp_grw, simprocAttr, amset, tyset, Function.comp_apply, one1, lenV, calleeOf, lateOk, belowV, aop, AV.ofValue, AV.ofCell, AV.cells, AV.flat, AV.one, arep, aBin, aConv]
        repeat refine And.intro (by omega) ?_
        refine hQ _ _ (end_byG (.inl rfl) hbel (x1 := .tup [.agg [.int .i64 0, .int .i64 0, .sl none 0 (some 0)], .int .i64 1]) (l2 := [.cells false 2 []]) (.tup [.agg [.int .i64 0, .int .i64 0, .sl (some (H.length, 0)) 0 (some 0)], .int .i64 1]) (ret_of Try.results30 (by simp -implicitDefEqProofs (disch := omega) only [simprocAttr, amset, tyset, Function.comp_apply, one1, lenV, calleeOf, lateOk, belowV, aop, AV.ofValue, AV.ofCell, AV.cells, AV.flat, AV.one, arep, aBin, aAppend, aConv])) [.cells false 2 []] rfl [3] (by decide) ⟨by simp [mkX, mkL, segE, far4, capG_0, ownG_0, prs_nil, h1d, h2d, h3d], by simp [mkX, mkL, segE, far4, capG_0, ownG_0, prs_nil, h1d, h2d, h3d]⟩ ?_)
        simp -implicitDefEqProofs (disch := omega) only [W_nil0, W_nil1, W_cap', Wc_nil0, Wc_nil1, Wc_cap', absF, absH, W_refl', W_any', W_agg, W_tup, Ws_cons, Ws_refl', Wc_refl', Wcs_cons, Wcs_nil, look, List.cons_append, List.nil_append, List.append_nil, List.length_cons, List.length_nil, Nat.zero_add, Nat.reduceAdd, AV.mv, AV.mvs, ABlk.mv, sig_new0, sig_newk, sig_lt, List.getElem?_cons_zero, List.getElem?_cons_succ, mvs_ints, mvs_bools, mvs_prs, mvs_append, cond_true, cond_false, beq_self_eq_true, Nat.reduceBEq, true_and, and_true, or_true, true_or, and_self, decide_true, Nat.add_zero, reduceCtorEq, false_or, or_false]
        repeat' (first | exact True.intro | exact Nat.add_lt_add_left (by decide) _ | exact Nat.lt_add_of_pos_right (by decide) | refine W_nils ?_ (Or.inr rfl) | refine W_nils ?_ (Or.inl rfl) | refine Wc_nils ?_ (Or.inr rfl) | refine Wc_nils ?_ (Or.inl rfl) | exact W_cap | rfl | refine And.intro ?_ ?_ | exact Or.inl rfl | exact Or.inr rfl | exact Or.inr (Or.inl rfl) | exact Or.inr (Or.inr BW.emp) | exact Or.inr BW.emp | exact BW.emp | exact Or.inr (Or.inr BW.pre) | exact Or.inr BW.pre | exact BW.pre | refine Or.inr (BW.cells ?_) | refine BW.cells ?_ | refine Or.inr (Or.inr (BW.cells ?_)) | exact Wc_cap)
    · have h2d := h2
      try simp only [Bool.not_eq_true', Bool.not_eq_false', decide_eq_true_eq, decide_eq_false_iff_not, beq_iff_eq, bne_iff_ne, ne_eq, Bool.not_eq_true, Bool.not_eq_false, beq_eq_false_iff_ne, bne_eq_false_iff_eq, Classical.not_not, Bool.and_eq_true, Bool.and_eq_false_imp] at h2d
      simp -implicitDefEqProofs (disch := omega) only [h1, h1d, h2, h2d, aApp_nil, aApp_none, aApp_some, aApp_grw, simprocAttr, amset, tyset, Function.comp_apply, one1, lenV, calleeOf, lateOk, belowV, aop, AV.ofValue, AV.ofCell, AV.cells, AV.flat, AV.one, arep, aBin, aConv]
      repeat refine And.intro (by omega) ?_
      refine hQ _ _ (end_byG (.inl rfl) hbel (x1 := .tup [.agg [.int .i64 0, .int .i64 0, .sl none 0 (some 0)], .int .i64 1]) (l2 := [.cells false 2 []]) (.tup [.agg [.int .i64 0, .int .i64 0, .sl (some (H.length, 0)) 0 (some 0)], .int .i64 1]) (ret_of Try.results30 (by simp -implicitDefEqProofs (disch := omega) only [simprocAttr, amset, tyset, Function.comp_apply, one1, lenV, calleeOf, lateOk, belowV, aop, AV.ofValue, AV.ofCell, AV.cells, AV.flat, AV.one, arep, aBin, aAppend, aConv])) [.cells false 2 []] rfl [3] (by decide) ⟨by simp [mkX, mkL, segE, far4, capG_0, ownG_0, prs_nil, h1d, h2d], by simp [mkX, mkL, segE, far4, capG_0, ownG_0, prs_nil, h1d, h2d]⟩ ?_)
      simp -implicitDefEqProofs (disch := omega) only [W_nil0, W_nil1, W_cap', Wc_nil0, Wc_nil1, Wc_cap', absF, absH, W_refl', W_any', W_agg, W_tup, Ws_cons, Ws_refl', Wc_refl', Wcs_cons, Wcs_nil, look, List.cons_append, List.nil_append, List.append_nil, List.length_cons, List.length_nil, Nat.zero_add, Nat.reduceAdd, AV.mv, AV.mvs, ABlk.mv, sig_new0, sig_newk, sig_lt, List.getElem?_cons_zero, List.getElem?_cons_succ, mvs_ints, mvs_bools, mvs_prs, mvs_append, cond_true, cond_false, beq_self_eq_true, Nat.reduceBEq, true_and, and_true, or_true, true_or, and_self, decide_true, Nat.add_zero, reduceCtorEq, false_or, or_false]
      repeat' (first | exact True.intro | exact Nat.add_lt_add_left (by decide) _ | exact Nat.lt_add_of_pos_right (by decide) | refine W_nils ?_ (Or.inr rfl) | refine W_nils ?_ (Or.inl rfl) | refine Wc_nils ?_ (Or.inr rfl) | refine Wc_nils ?_ (Or.inl rfl) | exact W_cap | rfl | refine And.intro ?_ ?_ | exact Or.inl rfl | exact Or.inr rfl | exact Or.inr (Or.inl rfl) | exact Or.inr (Or.inr BW.emp) | exact Or.inr BW.emp | exact BW.emp | exact Or.inr (Or.inr BW.pre) | exact Or.inr BW.pre | exact BW.pre | refine Or.inr (BW.cells ?_) | refine BW.cells ?_ | refine Or.inr (Or.inr (BW.cells ?_)) | exact Wc_cap)
  · have h1d := h1
    try simp only [Bool.not_eq_true', Bool.not_eq_false', decide_eq_true_eq, decide_eq_false_iff_not, beq_iff_eq, bne_iff_ne, ne_eq, Bool.not_eq_true, Bool.not_eq_false, beq_eq_false_iff_ne, bne_eq_false_iff_eq, Classical.not_not, Bool.and_eq_true, Bool.and_eq_false_imp] at h1d
    simp -implicitDefEqProofs (disch := omega) only [h1, h1d, aApp_nil, aApp_none, aApp_some, aApp_grw, simprocAttr, amset, tyset, Function.comp_apply, one1, lenV, calleeOf, lateOk, belowV, aop, AV.ofValue, AV.ofCell, AV.cells, AV.flat, AV.one, arep, aBin, aConv]
    repeat refine And.intro (by omega) ?_
    refine hQ _ _ (end_byG (.inl rfl) hbel (x1 := .tup [.agg [.int .i64 0, .int .i64 0, .sl none 0 (some 0)], .int .i64 1]) (l2 := [.cells false 2 []]) (.tup [.agg [.int .i64 0, .int .i64 0, .sl (some (H.length, 0)) 0 (some 0)], .int .i64 1]) (ret_of Try.results30 (by simp -implicitDefEqProofs (disch := omega) only [simprocAttr, amset, tyset, Function.comp_apply, one1, lenV, calleeOf, lateOk, belowV, aop, AV.ofValue, AV.ofCell, AV.cells, AV.flat, AV.one, arep, aBin, aAppend, aConv])) [.cells false 2 []] rfl [3] (by decide) ⟨by simp [mkX, mkL, segE, far4, capG_0, ownG_0, prs_nil, h1d], by simp [mkX, mkL, segE, far4, capG_0, ownG_0, prs_nil, h1d]⟩ ?_)
    simp -implicitDefEqProofs (disch := omega) only [W_nil0, W_nil1, W_cap', Wc_nil0, Wc_nil1, Wc_cap', absF, absH, W_refl', W_any', W_agg, W_tup, Ws_cons, Ws_refl', Wc_refl', Wcs_cons, Wcs_nil, look, List.cons_append, List.nil_append, List.append_nil, List.length_cons, List.length_nil, Nat.zero_add, Nat.reduceAdd, AV.mv, AV.mvs, ABlk.mv, sig_new0, sig_newk, sig_lt, List.getElem?_cons_zero, List.getElem?_cons_succ, mvs_ints, mvs_bools, mvs_prs, mvs_append, cond_true, cond_false, beq_self_eq_true, Nat.reduceBEq, true_and, and_true, or_true, true_or, and_self, decide_true, Nat.add_zero, reduceCtorEq, false_or, or_false]
    repeat' (first | exact True.intro | exact Nat.add_lt_add_left (by decide) _ | exact Nat.lt_add_of_pos_right (by decide) | refine W_nils ?_ (Or.inr rfl) | refine W_nils ?_ (Or.inl rfl) | refine Wc_nils ?_ (Or.inr rfl) | refine Wc_nils ?_ (Or.inl rfl) | exact W_cap | rfl | refine And.intro ?_ ?_ | exact Or.inl rfl | exact Or.inr rfl | exact Or.inr (Or.inl rfl) | exact Or.inr (Or.inr BW.emp) | exact Or.inr BW.emp | exact BW.emp | exact Or.inr (Or.inr BW.pre) | exact Or.inr BW.pre | exact BW.pre | refine Or.inr (BW.cells ?_) | refine BW.cells ?_ | refine Or.inr (Or.inr (BW.cells ?_)) | exact Wc_cap)
end Go.Proofs.Ytjfnbcifafmefaa

/- The library's Grow of nothing at points, for the abstract machine. Conditions: as each theorem states. -/
namespace Go.Proofs.Ytjfnbcifafmefaa
set_option linter.unusedSimpArgs false
set_option linter.unusedVariables false
open Go.RowKit Go.Sort
set_option maxRecDepth 100000 in
theorem grow_a {H : AHeap} {n : Nat} (h0 : 0 < n) (h1 : n ≤ 1000) : ACalls Try.prog 75 [.sl none 0 (some 0), .int .i64 n] H
    (fun v H' => v = .sl (some (H.length, 0)) 0 none ∧ H' = H ++ [.cells true 2 []]) := fun E w vs hE hv => by
  obtain ⟨v1, l1, rfl, k1, h1'⟩ := rels_cons hv
  obtain ⟨v2, l2, rfl, k2, h2'⟩ := rels_cons h1'
  obtain rfl := rels_nil h2'
  obtain rfl := rel_int k2
  obtain rfl : v1 = .slice none 0 0 := by cases k1; rfl
  have hby : Try.prog.types[Try.grow75_ren.t 25].bytes = 16 := by kernel_rfl
  have h := Any8.slices_Grow_grow Try.grow75 _ _ rfl rfl (by decide) none 0 0 n [] w (Nat.le_refl _) (by omega) (by rw [hby]; omega) (by omega) rfl (fun _ => rfl) (fun a ha => by cases ha)
  refine Calls.mono h ?_
  rintro e w' ⟨rfl, rfl⟩
  have g1 := grownCap_ge w (0 + n) 0 (Try.grow75_ren.t 25)
  have g2 := grownCap_le_maxLen w (0 + n) 0 (Try.grow75_ren.t 25) (by unfold maxLen; omega)
  generalize grownCap w (0 + n) 0 (Try.grow75_ren.t 25) = G at *
  clear hby h
  generalize ht : Try.grow75_ren.t 25 = t at *
  have hsz : (#[] ++ Builtin.zeroCells (Value.agg #[Value.int .i64 0, Value.int .i64 0]).cells (0 + n - 0) ++ Builtin.zeroCells (Value.agg #[Value.int .i64 0, Value.int .i64 0]).cells (G - (0 + n))).size = G * 2 := by
    have e : (Value.agg #[Value.int .i64 0, Value.int .i64 0]).cells.size = 2 := rfl
    rw [Array.size_append, Array.size_append, size_zeroCells, size_zeroCells, e]
    simp; omega
  generalize (#[] ++ Builtin.zeroCells (Value.agg #[Value.int .i64 0, Value.int .i64 0]).cells (0 + n - 0) ++ Builtin.zeroCells (Value.agg #[Value.int .i64 0, Value.int .i64 0]).cells (G - (0 + n))) = arr at *
  have hb : Below w.heap.size w (w.drew.alloc (.cells arr t)) := (below_drewN (Below.refl _ _) 1).alloc (Nat.le_refl _) _
  refine ⟨E.push ⟨w.heap.size, 0, G * 2, 2⟩, _, _, .sl (some (H.length, 0)) 0 none, rfl, ⟨rfl, rfl⟩, E.le_push _, ?_, ?_⟩
  · have e1 : (E.push ⟨w.heap.size, 0, G * 2, 2⟩).loc H.length = ⟨w.heap.size, 0, G * 2, 2⟩ := by rw [← hE.n]; exact Env.push_new _ _
    refine .sl _ _ _ _ _ _ (by simp [Env.push, hE.n]) (Nat.zero_le _) g2 (.inl rfl) (.inr (by rw [e1])) ?_
    rw [e1]; simp
  · refine hE.grow (row := none) ⟨hb.os, hb.tape, hb.output, hb.size, fun k hk _ => hb.block k hk⟩ (fun k hk => by cases hk) rfl (fun c x hx => .inr ⟨hx, fun _ => by simp⟩) _ _ ?_ (fun c x hx ho => ?_)
    · refine ⟨fun j x hj => by simp at hj, fun _ => ⟨hE.base, ?_, rfl, Nat.zero_le _, fun j hj => ?_⟩, (fun hf => by cases hf), rfl⟩
      · show w.heap.size < (w.drew.heap.push _).size
        rw [Array.size_push]; exact Nat.lt_succ_self _
      · have e1 := World.cell?_alloc_at (w := w.drew) arr t w.heap.size (0 + j) rfl
        have e2 := World.frozen?_alloc_at (w := w.drew) arr t w.heap.size (0 + j) rfl
        refine ⟨?_, e2⟩
        have hj' : j < G * 2 := hj
        rw [e1, Array.getElem?_eq_getElem (by rw [hsz]; omega)]; rfl
    · have := hE.ownLt hx ho
      show (E.loc c).blk ≠ w.heap.size
      omega
end Go.Proofs.Ytjfnbcifafmefaa

/- Walks by the abstract machine: slices.Concat. Conditions: as each theorem states. -/
namespace Go.Proofs.Ytjfnbcifafmefaa
set_option linter.unusedSimpArgs false
set_option linter.unusedVariables false
open Go.RowKit
theorem prs_all {l : List Pt} : (prs l).take (l.length * 2) = prs l := by rw [prs_take, List.take_length]
def pre2 (a b : Nat) : Nat → Nat
  | 0 => 0
  | 1 => a
  | _ + 2 => a + b
def appL (l m : List Pt) : Nat → List Pt
  | 0 => []
  | 1 => l
  | _ + 2 => l ++ m
theorem grow_0 {H : AHeap} {n : Int} (hn : n = 0) : ACalls Try.prog 75 [.sl none 0 (some 0), .int .i64 n] H
    (fun v H' => v = .sl none 0 (some 0) ∧ H' = H) := fun E w vs hE hv => by
  obtain ⟨v1, l1, rfl, k1, h1'⟩ := rels_cons hv
  obtain ⟨v2, l2, rfl, k2, h2'⟩ := rels_cons h1'
  obtain rfl := rels_nil h2'
  obtain rfl := rel_int k2
  subst hn
  obtain rfl : v1 = .slice none 0 0 := by cases k1; rfl
  have h := Any8.slices_Grow_room Try.grow75 none 0 0 0 w (Nat.le_refl _) (by omega) (by omega) (by omega)
  refine Calls.mono h ?_
  rintro e w' ⟨rfl, rfl⟩
  exact ⟨E, _, _, _, rfl, ⟨rfl, rfl⟩, Env.le.refl E, .nilsl, hE⟩
set_option maxHeartbeats 4000000 in
set_option maxRecDepth 100000 in
theorem concat_0m (H : AHeap) (s : AV) (t : AV) (m : List (Int × Int)) (w : AV) (hs : Sl H 2 s 0 []) (ht : Sl H 2 t m.length (prs m)) (hw : Sl H 1 w 2 [s, t]) (hl0 : 0 < m.length) (hl1 : m.length ≤ 500) : ACalls Try.prog 59 [w] H (fun v H' => v = .sl (some (H.length, 0)) m.length (capG m.length) ∧ H' = H ++ [.cells (ownG m.length) 2 (prs m)]) := by
  obtain ⟨bs, os, cs, rfl, hbs⟩ := hs
  have hbls := getElem?_lt hbs
  have hb0s := fun l => get_app (l := l) hbs
  obtain ⟨bt, ot, ct, rfl, hbt⟩ := ht
  have hblt := getElem?_lt hbt
  have hb0t := fun l => get_app (l := l) hbt
  obtain ⟨bw, ow, cw, rfl, hbw⟩ := hw
  have hblw := getElem?_lt hbw
  have hb0w := fun l => get_app (l := l) hbw
  have hz : (m.length == 0) = false := beq_eq_false_iff_ne.2 (by omega)
  have hs0 : (((pre2 0 m.length 0) : Nat) : Int) + 0 = (((pre2 0 m.length 1) : Nat) : Int) := by simp [pre2]
  have hs1 : (((pre2 0 m.length 1) : Nat) : Int) + ((m.length : Nat) : Int) = (((pre2 0 m.length 2) : Nat) : Int) := by simp [pre2]
  have hb1 : (pre2 0 m.length 1) ≤ 500 := by simp only [pre2]; omega
  have hb2 : (pre2 0 m.length 2) ≤ 1000 := by simp only [pre2]; omega
  have hn1 : (((pre2 0 m.length 1) : Nat) : Int) < 0 ↔ False := ⟨fun h => by omega, fun h => h.elim⟩
  have hn2 : (((pre2 0 m.length 2) : Nat) : Int) < 0 ↔ False := ⟨fun h => by omega, fun h => h.elim⟩
  (refine ACalls_run try_mixed Try.func59 true _ rfl (Nat.le_of_ble_eq_true (by kernel_rfl)) (by kernel_rfl) ?_; intro hbel Q hQ hQ' c hc; unfold Try.f59 at hc; simp only [Option.some.injEq] at hc; subst hc; clear hQ')
  simp -implicitDefEqProofs (disch := omega) only [hbs, hb0s, hbt, hb0t, hbw, hb0w, hs0, hs1, hn1, hn2, decide_false, hz, appL.eq_1, appL.eq_2, appL.eq_3, prs_nil, List.length_nil, Nat.zero_add, List.nil_append, aApp_nil, aApp_none, aApp_some, aApp_grw, simprocAttr, amset, tyset, Function.comp_apply, one1, lenV, calleeOf, lateOk, belowV, aop, AV.ofValue, AV.ofCell, AV.cells, AV.flat, AV.one, arep, aBin, aConv]
  repeat refine And.intro (by omega) ?_
  refine go_loop try_mixed (by kernel_rfl) (fun k F Hx => ∃ j : Nat, j + k = 2 ∧ F = [(0, .sl (some (bw, 0)) 2 cw), (3, .int .i64 (((pre2 0 m.length j) : Nat) : Int)), (9, .sl (some (bw, 0)) 2 cw), (10, .int .i64 2), (11, .int .i64 ((j : Nat) : Int))] ∧ H = Hx) (2) ?_ ?_
  · refine ⟨_, _, _, ⟨0, by omega, rfl, rfl⟩, Abs.by0 hbel ?_⟩
    simp -implicitDefEqProofs (disch := omega) only [pre2.eq_1, Int.natCast_zero, Int.ofNat_zero, W_nil0, W_nil1, W_cap', Wc_nil0, Wc_nil1, Wc_cap', absF, absH, W_refl', W_any', W_agg, W_tup, Ws_cons, Ws_refl', Wc_refl', Wcs_cons, Wcs_nil, look, List.cons_append, List.nil_append, List.append_nil, List.length_cons, List.length_nil, Nat.zero_add, Nat.reduceAdd, AV.mv, AV.mvs, ABlk.mv, sig_new0, sig_newk, sig_lt, List.getElem?_cons_zero, List.getElem?_cons_succ, mvs_ints, mvs_bools, mvs_prs, mvs_append, cond_true, cond_false, beq_self_eq_true, Nat.reduceBEq, true_and, and_true, or_true, true_or, and_self, decide_true, Nat.add_zero, reduceCtorEq, false_or, or_false]
    repeat' (first | exact True.intro | exact Nat.add_lt_add_left (by decide) _ | exact Nat.lt_add_of_pos_right (by decide) | refine W_nils ?_ (Or.inr rfl) | refine W_nils ?_ (Or.inl rfl) | refine Wc_nils ?_ (Or.inr rfl) | refine Wc_nils ?_ (Or.inl rfl) | exact W_cap | rfl | refine And.intro ?_ ?_ | exact Or.inl rfl | exact Or.inr rfl | exact Or.inr (Or.inl rfl) | exact Or.inr (Or.inr BW.emp) | exact Or.inr BW.emp | exact BW.emp | exact Or.inr (Or.inr BW.pre) | exact Or.inr BW.pre | exact BW.pre | refine Or.inr (BW.cells ?_) | refine BW.cells ?_ | refine Or.inr (Or.inr (BW.cells ?_)) | exact Wc_cap)
  · rintro k0 F Hx ⟨j, hm0, rfl, rfl⟩ J0 hJ0
    simp -implicitDefEqProofs (disch := omega) only [hbs, hb0s, hbt, hb0t, hbw, hb0w, hs0, hs1, hn1, hn2, decide_false, hz, appL.eq_1, appL.eq_2, appL.eq_3, prs_nil, List.length_nil, Nat.zero_add, List.nil_append, aApp_nil, aApp_none, aApp_some, aApp_grw, simprocAttr, amset, tyset, Function.comp_apply, one1, lenV, calleeOf, lateOk, belowV, aop, AV.ofValue, AV.ofCell, AV.cells, AV.flat, AV.one, arep, aBin, aConv]
    repeat refine And.intro (by omega) ?_
    refine cond_split (fun h1 => ?_) (fun h1 => ?_)
    · have h1d := h1
      try simp only [Bool.not_eq_true', Bool.not_eq_false', decide_eq_true_eq, decide_eq_false_iff_not, beq_iff_eq, bne_iff_ne, ne_eq, Bool.not_eq_true, Bool.not_eq_false, beq_eq_false_iff_ne, bne_eq_false_iff_eq, Classical.not_not, Bool.and_eq_true, Bool.and_eq_false_imp] at h1d
      obtain rfl | rfl := (by omega : j = 0 ∨ j = 1)
      · skip
        simp -implicitDefEqProofs (disch := omega) only [hbs, hb0s, hbt, hb0t, hbw, hb0w, h1, h1d, hs0, hs1, hn1, hn2, decide_false, hz, appL.eq_1, appL.eq_2, appL.eq_3, prs_nil, List.length_nil, Nat.zero_add, List.nil_append, aApp_nil, aApp_none, aApp_some, aApp_grw, simprocAttr, amset, tyset, Function.comp_apply, one1, lenV, calleeOf, lateOk, belowV, aop, AV.ofValue, AV.ofCell, AV.cells, AV.flat, AV.one, arep, aBin, aConv]
        repeat refine And.intro (by omega) ?_
        refine hJ0 _ _ ⟨k0 - 1, by omega, _, _, _, ⟨0 + 1, by omega, rfl, rfl⟩, Abs.by0 hbel ?_⟩
        simp -implicitDefEqProofs (disch := omega) only [hs0, hs1, W_nil0, W_nil1, W_cap', Wc_nil0, Wc_nil1, Wc_cap', absF, absH, W_refl', W_any', W_agg, W_tup, Ws_cons, Ws_refl', Wc_refl', Wcs_cons, Wcs_nil, look, List.cons_append, List.nil_append, List.append_nil, List.length_cons, List.length_nil, Nat.zero_add, Nat.reduceAdd, AV.mv, AV.mvs, ABlk.mv, sig_new0, sig_newk, sig_lt, List.getElem?_cons_zero, List.getElem?_cons_succ, mvs_ints, mvs_bools, mvs_prs, mvs_append, cond_true, cond_false, beq_self_eq_true, Nat.reduceBEq, true_and, and_true, or_true, true_or, and_self, decide_true, Nat.add_zero, reduceCtorEq, false_or, or_false]
        repeat' (first | exact True.intro | exact Nat.add_lt_add_left (by decide) _ | exact Nat.lt_add_of_pos_right (by decide) | refine W_nils ?_ (Or.inr rfl) | refine W_nils ?_ (Or.inl rfl) | refine Wc_nils ?_ (Or.inr rfl) | refine Wc_nils ?_ (Or.inl rfl) | exact W_cap | rfl | refine And.intro ?_ ?_ | exact Or.inl rfl | exact Or.inr rfl | exact Or.inr (Or.inl rfl) | exact Or.inr (Or.inr BW.emp) | exact Or.inr BW.emp | exact BW.emp | exact Or.inr (Or.inr BW.pre) | exact Or.inr BW.pre | exact BW.pre | refine Or.inr (BW.cells ?_) | refine BW.cells ?_ | refine Or.inr (Or.inr (BW.cells ?_)) | exact Wc_cap)
      · skip
        simp -implicitDefEqProofs (disch := omega) only [hbs, hb0s, hbt, hb0t, hbw, hb0w, h1, h1d, hs0, hs1, hn1, hn2, decide_false, hz, appL.eq_1, appL.eq_2, appL.eq_3, prs_nil, List.length_nil, Nat.zero_add, List.nil_append, aApp_nil, aApp_none, aApp_some, aApp_grw, simprocAttr, amset, tyset, Function.comp_apply, one1, lenV, calleeOf, lateOk, belowV, aop, AV.ofValue, AV.ofCell, AV.cells, AV.flat, AV.one, arep, aBin, aConv]
        repeat refine And.intro (by omega) ?_
        refine hJ0 _ _ ⟨k0 - 1, by omega, _, _, _, ⟨1 + 1, by omega, rfl, rfl⟩, Abs.by0 hbel ?_⟩
        simp -implicitDefEqProofs (disch := omega) only [hs0, hs1, W_nil0, W_nil1, W_cap', Wc_nil0, Wc_nil1, Wc_cap', absF, absH, W_refl', W_any', W_agg, W_tup, Ws_cons, Ws_refl', Wc_refl', Wcs_cons, Wcs_nil, look, List.cons_append, List.nil_append, List.append_nil, List.length_cons, List.length_nil, Nat.zero_add, Nat.reduceAdd, AV.mv, AV.mvs, ABlk.mv, sig_new0, sig_newk, sig_lt, List.getElem?_cons_zero, List.getElem?_cons_succ, mvs_ints, mvs_bools, mvs_prs, mvs_append, cond_true, cond_false, beq_self_eq_true, Nat.reduceBEq, true_and, and_true, or_true, true_or, and_self, decide_true, Nat.add_zero, reduceCtorEq, false_or, or_false]
        repeat' (first | exact True.intro | exact Nat.add_lt_add_left (by decide) _ | exact Nat.lt_add_of_pos_right (by decide) | refine W_nils ?_ (Or.inr rfl) | refine W_nils ?_ (Or.inl rfl) | refine Wc_nils ?_ (Or.inr rfl) | refine Wc_nils ?_ (Or.inl rfl) | exact W_cap | rfl | refine And.intro ?_ ?_ | exact Or.inl rfl | exact Or.inr rfl | exact Or.inr (Or.inl rfl) | exact Or.inr (Or.inr BW.emp) | exact Or.inr BW.emp | exact BW.emp | exact Or.inr (Or.inr BW.pre) | exact Or.inr BW.pre | exact BW.pre | refine Or.inr (BW.cells ?_) | refine BW.cells ?_ | refine Or.inr (Or.inr (BW.cells ?_)) | exact Wc_cap)
    · have h1d := h1
      try simp only [Bool.not_eq_true', Bool.not_eq_false', decide_eq_true_eq, decide_eq_false_iff_not, beq_iff_eq, bne_iff_ne, ne_eq, Bool.not_eq_true, Bool.not_eq_false, beq_eq_false_iff_ne, bne_eq_false_iff_eq, Classical.not_not, Bool.and_eq_true, Bool.and_eq_false_imp] at h1d
      obtain rfl : j = 2 := by omega
      simp -implicitDefEqProofs (disch := omega) only [hbs, hb0s, hbt, hb0t, hbw, hb0w, h1, h1d, hs0, hs1, hn1, hn2, decide_false, hz, appL.eq_1, appL.eq_2, appL.eq_3, prs_nil, List.length_nil, Nat.zero_add, List.nil_append, aApp_nil, aApp_none, aApp_some, aApp_grw, simprocAttr, amset, tyset, Function.comp_apply, one1, lenV, calleeOf, lateOk, belowV, aop, AV.ofValue, AV.ofCell, AV.cells, AV.flat, AV.one, arep, aBin, aConv]
      repeat refine And.intro (by omega) ?_
      refine call_v (by kernel_rfl) (grow_a (n := (pre2 0 m.length 2)) (by simp [pre2]; omega) (by omega)) ?_
      simp -implicitDefEqProofs (disch := omega) only [hbs, hb0s, hbt, hb0t, hbw, hb0w, h1, h1d, hs0, hs1, hn1, hn2, decide_false, hz, appL.eq_1, appL.eq_2, appL.eq_3, prs_nil, List.length_nil, Nat.zero_add, List.nil_append, aApp_nil, aApp_none, aApp_some, aApp_grw, simprocAttr, amset, tyset, Function.comp_apply, one1, lenV, calleeOf, lateOk, belowV, aop, AV.ofValue, AV.ofCell, AV.cells, AV.flat, AV.one, arep, aBin, aConv]
      repeat refine And.intro (by omega) ?_
      refine go_loop try_mixed (by kernel_rfl) (fun k F Hx => ∃ j : Nat, j + k = 2 ∧ F = [(6, .sl (some (H.length, 0)) ((appL [] m j).length) none), (25, .sl (some (bw, 0)) 2 cw), (26, .int .i64 2), (27, .int .i64 ((j : Nat) : Int))] ∧ Hx = H ++ [.cells true 2 (prs (appL [] m j))]) (2) ?_ ?_
      · refine ⟨_, _, _, ⟨0, by omega, rfl, rfl⟩, Abs.byG hbel [] rfl [0] (by decide) ?_⟩
        simp -implicitDefEqProofs (disch := omega) only [appL.eq_1, prs_nil, List.length_nil, List.length_append, List.length_cons, capG_s, ownG_s, capG_0, ownG_0, prs_append, prs_cons, W_nil0, W_nil1, W_cap', Wc_nil0, Wc_nil1, Wc_cap', absF, absH, W_refl', W_any', W_agg, W_tup, Ws_cons, Ws_refl', Wc_refl', Wcs_cons, Wcs_nil, look, List.cons_append, List.nil_append, List.append_nil, List.length_cons, List.length_nil, Nat.zero_add, Nat.reduceAdd, AV.mv, AV.mvs, ABlk.mv, sig_new0, sig_newk, sig_lt, List.getElem?_cons_zero, List.getElem?_cons_succ, mvs_ints, mvs_bools, mvs_prs, mvs_append, cond_true, cond_false, beq_self_eq_true, Nat.reduceBEq, true_and, and_true, or_true, true_or, and_self, decide_true, Nat.add_zero, reduceCtorEq, false_or, or_false]
        repeat' (first | exact True.intro | exact Nat.add_lt_add_left (by decide) _ | exact Nat.lt_add_of_pos_right (by decide) | refine W_nils ?_ (Or.inr rfl) | refine W_nils ?_ (Or.inl rfl) | refine Wc_nils ?_ (Or.inr rfl) | refine Wc_nils ?_ (Or.inl rfl) | exact W_cap | rfl | refine And.intro ?_ ?_ | exact Or.inl rfl | exact Or.inr rfl | exact Or.inr (Or.inl rfl) | exact Or.inr (Or.inr BW.emp) | exact Or.inr BW.emp | exact BW.emp | exact Or.inr (Or.inr BW.pre) | exact Or.inr BW.pre | exact BW.pre | refine Or.inr (BW.cells ?_) | refine BW.cells ?_ | refine Or.inr (Or.inr (BW.cells ?_)) | exact Wc_cap)
      · rintro k1 F Hx ⟨j, hm1, rfl, rfl⟩ J1 hJ1
        simp -implicitDefEqProofs (disch := omega) only [hbs, hb0s, hbt, hb0t, hbw, hb0w, h1, h1d, prs_len, prs_one, hs0, hs1, hn1, hn2, decide_false, hz, appL.eq_1, appL.eq_2, appL.eq_3, prs_nil, List.length_nil, Nat.zero_add, List.nil_append, aApp_nil, aApp_none, aApp_some, aApp_grw, simprocAttr, amset, tyset, Function.comp_apply, one1, lenV, calleeOf, lateOk, belowV, aop, AV.ofValue, AV.ofCell, AV.cells, AV.flat, AV.one, arep, aBin, aConv]
        repeat refine And.intro (by omega) ?_
        refine cond_split (fun h2 => ?_) (fun h2 => ?_)
        · have h2d := h2
          try simp only [Bool.not_eq_true', Bool.not_eq_false', decide_eq_true_eq, decide_eq_false_iff_not, beq_iff_eq, bne_iff_ne, ne_eq, Bool.not_eq_true, Bool.not_eq_false, beq_eq_false_iff_ne, bne_eq_false_iff_eq, Classical.not_not, Bool.and_eq_true, Bool.and_eq_false_imp] at h2d
          obtain rfl | rfl := (by omega : j = 0 ∨ j = 1)
          · skip
            simp -implicitDefEqProofs (disch := omega) only [hbs, hb0s, hbt, hb0t, hbw, hb0w, h1, h1d, prs_len, prs_one, h2, h2d, hs0, hs1, hn1, hn2, decide_false, hz, appL.eq_1, appL.eq_2, appL.eq_3, prs_nil, List.length_nil, Nat.zero_add, List.nil_append, aApp_nil, aApp_none, aApp_some, aApp_grw, simprocAttr, amset, tyset, Function.comp_apply, one1, lenV, calleeOf, lateOk, belowV, aop, AV.ofValue, AV.ofCell, AV.cells, AV.flat, AV.one, arep, aBin, aConv]
            repeat refine And.intro (by omega) ?_
            refine hJ1 _ _ ⟨k1 - 1, by omega, _, _, _, ⟨0 + 1, by omega, rfl, rfl⟩, Abs.byG hbel [] rfl [0] (by decide) ?_⟩
            simp -implicitDefEqProofs (disch := omega) only [appL.eq_1, appL.eq_2, appL.eq_3, prs_nil, List.length_nil, prs_append, List.length_append, List.length_cons, capG_s, ownG_s, capG_0, ownG_0, prs_cons, W_nil0, W_nil1, W_cap', Wc_nil0, Wc_nil1, Wc_cap', absF, absH, W_refl', W_any', W_agg, W_tup, Ws_cons, Ws_refl', Wc_refl', Wcs_cons, Wcs_nil, look, List.cons_append, List.nil_append, List.append_nil, List.length_cons, List.length_nil, Nat.zero_add, Nat.reduceAdd, AV.mv, AV.mvs, ABlk.mv, sig_new0, sig_newk, sig_lt, List.getElem?_cons_zero, List.getElem?_cons_succ, mvs_ints, mvs_bools, mvs_prs, mvs_append, cond_true, cond_false, beq_self_eq_true, Nat.reduceBEq, true_and, and_true, or_true, true_or, and_self, decide_true, Nat.add_zero, reduceCtorEq, false_or, or_false]
            repeat' (first | exact True.intro | exact Nat.add_lt_add_left (by decide) _ | exact Nat.lt_add_of_pos_right (by decide) | refine W_nils ?_ (Or.inr rfl) | refine W_nils ?_ (Or.inl rfl) | refine Wc_nils ?_ (Or.inr rfl) | refine Wc_nils ?_ (Or.inl rfl) | exact W_cap | rfl | refine And.intro ?_ ?_ | exact Or.inl rfl | exact Or.inr rfl | exact Or.inr (Or.inl rfl) | exact Or.inr (Or.inr BW.emp) | exact Or.inr BW.emp | exact BW.emp | exact Or.inr (Or.inr BW.pre) | exact Or.inr BW.pre | exact BW.pre | refine Or.inr (BW.cells ?_) | refine BW.cells ?_ | refine Or.inr (Or.inr (BW.cells ?_)) | exact Wc_cap)
          · skip
            simp -implicitDefEqProofs (disch := omega) only [hbs, hb0s, hbt, hb0t, hbw, hb0w, h1, h1d, prs_len, prs_one, h2, h2d, prs_all, hs0, hs1, hn1, hn2, decide_false, hz, appL.eq_1, appL.eq_2, appL.eq_3, prs_nil, List.length_nil, Nat.zero_add, List.nil_append, aApp_nil, aApp_none, aApp_some, aApp_grw, simprocAttr, amset, tyset, Function.comp_apply, one1, lenV, calleeOf, lateOk, belowV, aop, AV.ofValue, AV.ofCell, AV.cells, AV.flat, AV.one, arep, aBin, aConv]
            repeat refine And.intro (by omega) ?_
            refine hJ1 _ _ ⟨k1 - 1, by omega, _, _, _, ⟨1 + 1, by omega, rfl, rfl⟩, Abs.byG hbel [] rfl [1] (by decide) ?_⟩
            simp -implicitDefEqProofs (disch := omega) only [appL.eq_1, appL.eq_2, appL.eq_3, prs_nil, List.length_nil, prs_append, List.length_append, List.length_cons, capG_s, ownG_s, capG_0, ownG_0, prs_cons, W_nil0, W_nil1, W_cap', Wc_nil0, Wc_nil1, Wc_cap', absF, absH, W_refl', W_any', W_agg, W_tup, Ws_cons, Ws_refl', Wc_refl', Wcs_cons, Wcs_nil, look, List.cons_append, List.nil_append, List.append_nil, List.length_cons, List.length_nil, Nat.zero_add, Nat.reduceAdd, AV.mv, AV.mvs, ABlk.mv, sig_new0, sig_newk, sig_lt, List.getElem?_cons_zero, List.getElem?_cons_succ, mvs_ints, mvs_bools, mvs_prs, mvs_append, cond_true, cond_false, beq_self_eq_true, Nat.reduceBEq, true_and, and_true, or_true, true_or, and_self, decide_true, Nat.add_zero, reduceCtorEq, false_or, or_false]
            repeat' (first | exact True.intro | exact Nat.add_lt_add_left (by decide) _ | exact Nat.lt_add_of_pos_right (by decide) | refine W_nils ?_ (Or.inr rfl) | refine W_nils ?_ (Or.inl rfl) | refine Wc_nils ?_ (Or.inr rfl) | refine Wc_nils ?_ (Or.inl rfl) | exact W_cap | rfl | refine And.intro ?_ ?_ | exact Or.inl rfl | exact Or.inr rfl | exact Or.inr (Or.inl rfl) | exact Or.inr (Or.inr BW.emp) | exact Or.inr BW.emp | exact BW.emp | exact Or.inr (Or.inr BW.pre) | exact Or.inr BW.pre | exact BW.pre | refine Or.inr (BW.cells ?_) | refine BW.cells ?_ | refine Or.inr (Or.inr (BW.cells ?_)) | exact Wc_cap)
        · have h2d := h2
          try simp only [Bool.not_eq_true', Bool.not_eq_false', decide_eq_true_eq, decide_eq_false_iff_not, beq_iff_eq, bne_iff_ne, ne_eq, Bool.not_eq_true, Bool.not_eq_false, beq_eq_false_iff_ne, bne_eq_false_iff_eq, Classical.not_not, Bool.and_eq_true, Bool.and_eq_false_imp] at h2d
          obtain rfl : j = 2 := by omega
          simp -implicitDefEqProofs (disch := omega) only [hbs, hb0s, hbt, hb0t, hbw, hb0w, h1, h1d, prs_len, prs_one, h2, h2d, hs0, hs1, hn1, hn2, decide_false, hz, appL.eq_1, appL.eq_2, appL.eq_3, prs_nil, List.length_nil, Nat.zero_add, List.nil_append, aApp_nil, aApp_none, aApp_some, aApp_grw, simprocAttr, amset, tyset, Function.comp_apply, one1, lenV, calleeOf, lateOk, belowV, aop, AV.ofValue, AV.ofCell, AV.cells, AV.flat, AV.one, arep, aBin, aConv]
          repeat refine And.intro (by omega) ?_
          refine hQ _ _ (end_byG (.inl rfl) hbel (x1 := .sl (some (H.length, 0)) ((appL [] m 2).length) none) (l2 := [.cells true 2 (prs (appL [] m 2))]) (.sl (some (H.length, 0)) ((appL [] m 2).length) none) (ret_of Try.results59 (by simp -implicitDefEqProofs (disch := omega) only [appL.eq_3, List.nil_append, simprocAttr, amset, tyset, Function.comp_apply, one1, lenV, calleeOf, lateOk, belowV, aop, AV.ofValue, AV.ofCell, AV.cells, AV.flat, AV.one, arep, aBin, aAppend, aConv])) [] rfl [0] (by decide) ⟨by simp [appL, capG_p hl0, ownG_p hl0], by simp [appL, capG_p hl0, ownG_p hl0]⟩ ?_)
          simp -implicitDefEqProofs (disch := omega) only [W_nil0, W_nil1, W_cap', Wc_nil0, Wc_nil1, Wc_cap', absF, absH, W_refl', W_any', W_agg, W_tup, Ws_cons, Ws_refl', Wc_refl', Wcs_cons, Wcs_nil, look, List.cons_append, List.nil_append, List.append_nil, List.length_cons, List.length_nil, Nat.zero_add, Nat.reduceAdd, AV.mv, AV.mvs, ABlk.mv, sig_new0, sig_newk, sig_lt, List.getElem?_cons_zero, List.getElem?_cons_succ, mvs_ints, mvs_bools, mvs_prs, mvs_append, cond_true, cond_false, beq_self_eq_true, Nat.reduceBEq, true_and, and_true, or_true, true_or, and_self, decide_true, Nat.add_zero, reduceCtorEq, false_or, or_false]
          repeat' (first | exact True.intro | exact Nat.add_lt_add_left (by decide) _ | exact Nat.lt_add_of_pos_right (by decide) | refine W_nils ?_ (Or.inr rfl) | refine W_nils ?_ (Or.inl rfl) | refine Wc_nils ?_ (Or.inr rfl) | refine Wc_nils ?_ (Or.inl rfl) | exact W_cap | rfl | refine And.intro ?_ ?_ | exact Or.inl rfl | exact Or.inr rfl | exact Or.inr (Or.inl rfl) | exact Or.inr (Or.inr BW.emp) | exact Or.inr BW.emp | exact BW.emp | exact Or.inr (Or.inr BW.pre) | exact Or.inr BW.pre | exact BW.pre | refine Or.inr (BW.cells ?_) | refine BW.cells ?_ | refine Or.inr (Or.inr (BW.cells ?_)) | exact Wc_cap)
set_option maxHeartbeats 4000000 in
set_option maxRecDepth 100000 in
theorem concat_lm (H : AHeap) (s : AV) (l : List (Int × Int)) (t : AV) (m : List (Int × Int)) (w : AV) (hs : Sl H 2 s l.length (prs l)) (ht : Sl H 2 t m.length (prs m)) (hw : Sl H 1 w 2 [s, t]) (hl0 : 0 < l.length) (hl1 : l.length ≤ 500) (hl2 : m.length ≤ 500) : ACalls Try.prog 59 [w] H (fun v H' => v = .sl (some (H.length, 0)) ((l ++ m).length) (capG (l ++ m).length) ∧ H' = H ++ [.cells (ownG (l ++ m).length) 2 (prs (l ++ m))]) := by
  obtain ⟨bs, os, cs, rfl, hbs⟩ := hs
  have hbls := getElem?_lt hbs
  have hb0s := fun l => get_app (l := l) hbs
  obtain ⟨bt, ot, ct, rfl, hbt⟩ := ht
  have hblt := getElem?_lt hbt
  have hb0t := fun l => get_app (l := l) hbt
  obtain ⟨bw, ow, cw, rfl, hbw⟩ := hw
  have hblw := getElem?_lt hbw
  have hb0w := fun l => get_app (l := l) hbw
  have hz : (l.length == 0) = false := beq_eq_false_iff_ne.2 (by omega)
  have hz2 : (l.length + m.length == 0) = false := beq_eq_false_iff_ne.2 (by omega)
  have hs0 : (((pre2 l.length m.length 0) : Nat) : Int) + ((l.length : Nat) : Int) = (((pre2 l.length m.length 1) : Nat) : Int) := by simp [pre2]
  have hs1 : (((pre2 l.length m.length 1) : Nat) : Int) + ((m.length : Nat) : Int) = (((pre2 l.length m.length 2) : Nat) : Int) := by simp [pre2]
  have hb1 : (pre2 l.length m.length 1) ≤ 500 := by simp only [pre2]; omega
  have hb2 : (pre2 l.length m.length 2) ≤ 1000 := by simp only [pre2]; omega
  have hn1 : (((pre2 l.length m.length 1) : Nat) : Int) < 0 ↔ False := ⟨fun h => by omega, fun h => h.elim⟩
  have hn2 : (((pre2 l.length m.length 2) : Nat) : Int) < 0 ↔ False := ⟨fun h => by omega, fun h => h.elim⟩
  (refine ACalls_run try_mixed Try.func59 true _ rfl (Nat.le_of_ble_eq_true (by kernel_rfl)) (by kernel_rfl) ?_; intro hbel Q hQ hQ' c hc; unfold Try.f59 at hc; simp only [Option.some.injEq] at hc; subst hc; clear hQ')
  simp -implicitDefEqProofs (disch := omega) only [hbs, hb0s, hbt, hb0t, hbw, hb0w, hs0, hs1, hn1, hn2, decide_false, hz, hz2, appL.eq_1, appL.eq_2, appL.eq_3, prs_nil, List.length_nil, Nat.zero_add, List.nil_append, aApp_nil, aApp_none, aApp_some, aApp_grw, simprocAttr, amset, tyset, Function.comp_apply, one1, lenV, calleeOf, lateOk, belowV, aop, AV.ofValue, AV.ofCell, AV.cells, AV.flat, AV.one, arep, aBin, aConv]
  repeat refine And.intro (by omega) ?_
  refine go_loop try_mixed (by kernel_rfl) (fun k F Hx => ∃ j : Nat, j + k = 2 ∧ F = [(0, .sl (some (bw, 0)) 2 cw), (3, .int .i64 (((pre2 l.length m.length j) : Nat) : Int)), (9, .sl (some (bw, 0)) 2 cw), (10, .int .i64 2), (11, .int .i64 ((j : Nat) : Int))] ∧ H = Hx) (2) ?_ ?_
  · refine ⟨_, _, _, ⟨0, by omega, rfl, rfl⟩, Abs.by0 hbel ?_⟩
    simp -implicitDefEqProofs (disch := omega) only [pre2.eq_1, Int.natCast_zero, Int.ofNat_zero, W_nil0, W_nil1, W_cap', Wc_nil0, Wc_nil1, Wc_cap', absF, absH, W_refl', W_any', W_agg, W_tup, Ws_cons, Ws_refl', Wc_refl', Wcs_cons, Wcs_nil, look, List.cons_append, List.nil_append, List.append_nil, List.length_cons, List.length_nil, Nat.zero_add, Nat.reduceAdd, AV.mv, AV.mvs, ABlk.mv, sig_new0, sig_newk, sig_lt, List.getElem?_cons_zero, List.getElem?_cons_succ, mvs_ints, mvs_bools, mvs_prs, mvs_append, cond_true, cond_false, beq_self_eq_true, Nat.reduceBEq, true_and, and_true, or_true, true_or, and_self, decide_true, Nat.add_zero, reduceCtorEq, false_or, or_false]
    repeat' (first | exact True.intro | exact Nat.add_lt_add_left (by decide) _ | exact Nat.lt_add_of_pos_right (by decide) | refine W_nils ?_ (Or.inr rfl) | refine W_nils ?_ (Or.inl rfl) | refine Wc_nils ?_ (Or.inr rfl) | refine Wc_nils ?_ (Or.inl rfl) | exact W_cap | rfl | refine And.intro ?_ ?_ | exact Or.inl rfl | exact Or.inr rfl | exact Or.inr (Or.inl rfl) | exact Or.inr (Or.inr BW.emp) | exact Or.inr BW.emp | exact BW.emp | exact Or.inr (Or.inr BW.pre) | exact Or.inr BW.pre | exact BW.pre | refine Or.inr (BW.cells ?_) | refine BW.cells ?_ | refine Or.inr (Or.inr (BW.cells ?_)) | exact Wc_cap)
  · rintro k0 F Hx ⟨j, hm0, rfl, rfl⟩ J0 hJ0
    simp -implicitDefEqProofs (disch := omega) only [hbs, hb0s, hbt, hb0t, hbw, hb0w, hs0, hs1, hn1, hn2, decide_false, hz, hz2, appL.eq_1, appL.eq_2, appL.eq_3, prs_nil, List.length_nil, Nat.zero_add, List.nil_append, aApp_nil, aApp_none, aApp_some, aApp_grw, simprocAttr, amset, tyset, Function.comp_apply, one1, lenV, calleeOf, lateOk, belowV, aop, AV.ofValue, AV.ofCell, AV.cells, AV.flat, AV.one, arep, aBin, aConv]
    repeat refine And.intro (by omega) ?_
    refine cond_split (fun h1 => ?_) (fun h1 => ?_)
    · have h1d := h1
      try simp only [Bool.not_eq_true', Bool.not_eq_false', decide_eq_true_eq, decide_eq_false_iff_not, beq_iff_eq, bne_iff_ne, ne_eq, Bool.not_eq_true, Bool.not_eq_false, beq_eq_false_iff_ne, bne_eq_false_iff_eq, Classical.not_not, Bool.and_eq_true, Bool.and_eq_false_imp] at h1d
      obtain rfl | rfl := (by omega : j = 0 ∨ j = 1)
      · skip
        simp -implicitDefEqProofs (disch := omega) only [hbs, hb0s, hbt, hb0t, hbw, hb0w, h1, h1d, hs0, hs1, hn1, hn2, decide_false, hz, hz2, appL.eq_1, appL.eq_2, appL.eq_3, prs_nil, List.length_nil, Nat.zero_add, List.nil_append, aApp_nil, aApp_none, aApp_some, aApp_grw, simprocAttr, amset, tyset, Function.comp_apply, one1, lenV, calleeOf, lateOk, belowV, aop, AV.ofValue, AV.ofCell, AV.cells, AV.flat, AV.one, arep, aBin, aConv]
        repeat refine And.intro (by omega) ?_
        refine hJ0 _ _ ⟨k0 - 1, by omega, _, _, _, ⟨0 + 1, by omega, rfl, rfl⟩, Abs.by0 hbel ?_⟩
        simp -implicitDefEqProofs (disch := omega) only [hs0, hs1, W_nil0, W_nil1, W_cap', Wc_nil0, Wc_nil1, Wc_cap', absF, absH, W_refl', W_any', W_agg, W_tup, Ws_cons, Ws_refl', Wc_refl', Wcs_cons, Wcs_nil, look, List.cons_append, List.nil_append, List.append_nil, List.length_cons, List.length_nil, Nat.zero_add, Nat.reduceAdd, AV.mv, AV.mvs, ABlk.mv, sig_new0, sig_newk, sig_lt, List.getElem?_cons_zero, List.getElem?_cons_succ, mvs_ints, mvs_bools, mvs_prs, mvs_append, cond_true, cond_false, beq_self_eq_true, Nat.reduceBEq, true_and, and_true, or_true, true_or, and_self, decide_true, Nat.add_zero, reduceCtorEq, false_or, or_false]
        repeat' (first | exact True.intro | exact Nat.add_lt_add_left (by decide) _ | exact Nat.lt_add_of_pos_right (by decide) | refine W_nils ?_ (Or.inr rfl) | refine W_nils ?_ (Or.inl rfl) | refine Wc_nils ?_ (Or.inr rfl) | refine Wc_nils ?_ (Or.inl rfl) | exact W_cap | rfl | refine And.intro ?_ ?_ | exact Or.inl rfl | exact Or.inr rfl | exact Or.inr (Or.inl rfl) | exact Or.inr (Or.inr BW.emp) | exact Or.inr BW.emp | exact BW.emp | exact Or.inr (Or.inr BW.pre) | exact Or.inr BW.pre | exact BW.pre | refine Or.inr (BW.cells ?_) | refine BW.cells ?_ | refine Or.inr (Or.inr (BW.cells ?_)) | exact Wc_cap)
      · skip
        simp -implicitDefEqProofs (disch := omega) only [hbs, hb0s, hbt, hb0t, hbw, hb0w, h1, h1d, hs0, hs1, hn1, hn2, decide_false, hz, hz2, appL.eq_1, appL.eq_2, appL.eq_3, prs_nil, List.length_nil, Nat.zero_add, List.nil_append, aApp_nil, aApp_none, aApp_some, aApp_grw, simprocAttr, amset, tyset, Function.comp_apply, one1, lenV, calleeOf, lateOk, belowV, aop, AV.ofValue, AV.ofCell, AV.cells, AV.flat, AV.one, arep, aBin, aConv]
        repeat refine And.intro (by omega) ?_
        refine hJ0 _ _ ⟨k0 - 1, by omega, _, _, _, ⟨1 + 1, by omega, rfl, rfl⟩, Abs.by0 hbel ?_⟩
        simp -implicitDefEqProofs (disch := omega) only [hs0, hs1, W_nil0, W_nil1, W_cap', Wc_nil0, Wc_nil1, Wc_cap', absF, absH, W_refl', W_any', W_agg, W_tup, Ws_cons, Ws_refl', Wc_refl', Wcs_cons, Wcs_nil, look, List.cons_append, List.nil_append, List.append_nil, List.length_cons, List.length_nil, Nat.zero_add, Nat.reduceAdd, AV.mv, AV.mvs, ABlk.mv, sig_new0, sig_newk, sig_lt, List.getElem?_cons_zero, List.getElem?_cons_succ, mvs_ints, mvs_bools, mvs_prs, mvs_append, cond_true, cond_false, beq_self_eq_true, Nat.reduceBEq, true_and, and_true, or_true, true_or, and_self, decide_true, Nat.add_zero, reduceCtorEq, false_or, or_false]
        repeat' (first | exact True.intro | exact Nat.add_lt_add_left (by decide) _ | exact Nat.lt_add_of_pos_right (by decide) | refine W_nils ?_ (Or.inr rfl) | refine W_nils ?_ (Or.inl rfl) | refine Wc_nils ?_ (Or.inr rfl) | refine Wc_nils ?_ (Or.inl rfl) | exact W_cap | rfl | refine And.intro ?_ ?_ | exact Or.inl rfl | exact Or.inr rfl | exact Or.inr (Or.inl rfl) | exact Or.inr (Or.inr BW.emp) | exact Or.inr BW.emp | exact BW.emp | exact Or.inr (Or.inr BW.pre) | exact Or.inr BW.pre | exact BW.pre | refine Or.inr (BW.cells ?_) | refine BW.cells ?_ | refine Or.inr (Or.inr (BW.cells ?_)) | exact Wc_cap)
    · have h1d := h1
      try simp only [Bool.not_eq_true', Bool.not_eq_false', decide_eq_true_eq, decide_eq_false_iff_not, beq_iff_eq, bne_iff_ne, ne_eq, Bool.not_eq_true, Bool.not_eq_false, beq_eq_false_iff_ne, bne_eq_false_iff_eq, Classical.not_not, Bool.and_eq_true, Bool.and_eq_false_imp] at h1d
      obtain rfl : j = 2 := by omega
      simp -implicitDefEqProofs (disch := omega) only [hbs, hb0s, hbt, hb0t, hbw, hb0w, h1, h1d, hs0, hs1, hn1, hn2, decide_false, hz, hz2, appL.eq_1, appL.eq_2, appL.eq_3, prs_nil, List.length_nil, Nat.zero_add, List.nil_append, aApp_nil, aApp_none, aApp_some, aApp_grw, simprocAttr, amset, tyset, Function.comp_apply, one1, lenV, calleeOf, lateOk, belowV, aop, AV.ofValue, AV.ofCell, AV.cells, AV.flat, AV.one, arep, aBin, aConv]
      repeat refine And.intro (by omega) ?_
      refine call_v (by kernel_rfl) (grow_a (n := (pre2 l.length m.length 2)) (by simp [pre2]; omega) (by omega)) ?_
      simp -implicitDefEqProofs (disch := omega) only [hbs, hb0s, hbt, hb0t, hbw, hb0w, h1, h1d, hs0, hs1, hn1, hn2, decide_false, hz, hz2, appL.eq_1, appL.eq_2, appL.eq_3, prs_nil, List.length_nil, Nat.zero_add, List.nil_append, aApp_nil, aApp_none, aApp_some, aApp_grw, simprocAttr, amset, tyset, Function.comp_apply, one1, lenV, calleeOf, lateOk, belowV, aop, AV.ofValue, AV.ofCell, AV.cells, AV.flat, AV.one, arep, aBin, aConv]
      repeat refine And.intro (by omega) ?_
      refine go_loop try_mixed (by kernel_rfl) (fun k F Hx => ∃ j : Nat, j + k = 2 ∧ F = [(6, .sl (some (H.length, 0)) ((appL l m j).length) none), (25, .sl (some (bw, 0)) 2 cw), (26, .int .i64 2), (27, .int .i64 ((j : Nat) : Int))] ∧ Hx = H ++ [.cells true 2 (prs (appL l m j))]) (2) ?_ ?_
      · refine ⟨_, _, _, ⟨0, by omega, rfl, rfl⟩, Abs.byG hbel [] rfl [0] (by decide) ?_⟩
        simp -implicitDefEqProofs (disch := omega) only [appL.eq_1, prs_nil, List.length_nil, List.length_append, List.length_cons, capG_s, ownG_s, capG_0, ownG_0, prs_append, prs_cons, W_nil0, W_nil1, W_cap', Wc_nil0, Wc_nil1, Wc_cap', absF, absH, W_refl', W_any', W_agg, W_tup, Ws_cons, Ws_refl', Wc_refl', Wcs_cons, Wcs_nil, look, List.cons_append, List.nil_append, List.append_nil, List.length_cons, List.length_nil, Nat.zero_add, Nat.reduceAdd, AV.mv, AV.mvs, ABlk.mv, sig_new0, sig_newk, sig_lt, List.getElem?_cons_zero, List.getElem?_cons_succ, mvs_ints, mvs_bools, mvs_prs, mvs_append, cond_true, cond_false, beq_self_eq_true, Nat.reduceBEq, true_and, and_true, or_true, true_or, and_self, decide_true, Nat.add_zero, reduceCtorEq, false_or, or_false]
        repeat' (first | exact True.intro | exact Nat.add_lt_add_left (by decide) _ | exact Nat.lt_add_of_pos_right (by decide) | refine W_nils ?_ (Or.inr rfl) | refine W_nils ?_ (Or.inl rfl) | refine Wc_nils ?_ (Or.inr rfl) | refine Wc_nils ?_ (Or.inl rfl) | exact W_cap | rfl | refine And.intro ?_ ?_ | exact Or.inl rfl | exact Or.inr rfl | exact Or.inr (Or.inl rfl) | exact Or.inr (Or.inr BW.emp) | exact Or.inr BW.emp | exact BW.emp | exact Or.inr (Or.inr BW.pre) | exact Or.inr BW.pre | exact BW.pre | refine Or.inr (BW.cells ?_) | refine BW.cells ?_ | refine Or.inr (Or.inr (BW.cells ?_)) | exact Wc_cap)
      · rintro k1 F Hx ⟨j, hm1, rfl, rfl⟩ J1 hJ1
        simp -implicitDefEqProofs (disch := omega) only [hbs, hb0s, hbt, hb0t, hbw, hb0w, h1, h1d, prs_len, prs_one, hs0, hs1, hn1, hn2, decide_false, hz, hz2, appL.eq_1, appL.eq_2, appL.eq_3, prs_nil, List.length_nil, Nat.zero_add, List.nil_append, aApp_nil, aApp_none, aApp_some, aApp_grw, simprocAttr, amset, tyset, Function.comp_apply, one1, lenV, calleeOf, lateOk, belowV, aop, AV.ofValue, AV.ofCell, AV.cells, AV.flat, AV.one, arep, aBin, aConv]
        repeat refine And.intro (by omega) ?_
        refine cond_split (fun h2 => ?_) (fun h2 => ?_)
        · have h2d := h2
          try simp only [Bool.not_eq_true', Bool.not_eq_false', decide_eq_true_eq, decide_eq_false_iff_not, beq_iff_eq, bne_iff_ne, ne_eq, Bool.not_eq_true, Bool.not_eq_false, beq_eq_false_iff_ne, bne_eq_false_iff_eq, Classical.not_not, Bool.and_eq_true, Bool.and_eq_false_imp] at h2d
          obtain rfl | rfl := (by omega : j = 0 ∨ j = 1)
          · skip
            simp -implicitDefEqProofs (disch := omega) only [hbs, hb0s, hbt, hb0t, hbw, hb0w, h1, h1d, prs_len, prs_one, h2, h2d, prs_all, hs0, hs1, hn1, hn2, decide_false, hz, hz2, appL.eq_1, appL.eq_2, appL.eq_3, prs_nil, List.length_nil, Nat.zero_add, List.nil_append, aApp_nil, aApp_none, aApp_some, aApp_grw, simprocAttr, amset, tyset, Function.comp_apply, one1, lenV, calleeOf, lateOk, belowV, aop, AV.ofValue, AV.ofCell, AV.cells, AV.flat, AV.one, arep, aBin, aConv]
            repeat refine And.intro (by omega) ?_
            refine hJ1 _ _ ⟨k1 - 1, by omega, _, _, _, ⟨0 + 1, by omega, rfl, rfl⟩, Abs.byG hbel [] rfl [1] (by decide) ?_⟩
            simp -implicitDefEqProofs (disch := omega) only [appL.eq_1, appL.eq_2, appL.eq_3, prs_nil, List.length_nil, prs_append, List.length_append, List.length_cons, capG_s, ownG_s, capG_0, ownG_0, prs_cons, W_nil0, W_nil1, W_cap', Wc_nil0, Wc_nil1, Wc_cap', absF, absH, W_refl', W_any', W_agg, W_tup, Ws_cons, Ws_refl', Wc_refl', Wcs_cons, Wcs_nil, look, List.cons_append, List.nil_append, List.append_nil, List.length_cons, List.length_nil, Nat.zero_add, Nat.reduceAdd, AV.mv, AV.mvs, ABlk.mv, sig_new0, sig_newk, sig_lt, List.getElem?_cons_zero, List.getElem?_cons_succ, mvs_ints, mvs_bools, mvs_prs, mvs_append, cond_true, cond_false, beq_self_eq_true, Nat.reduceBEq, true_and, and_true, or_true, true_or, and_self, decide_true, Nat.add_zero, reduceCtorEq, false_or, or_false]
            repeat' (first | exact True.intro | exact Nat.add_lt_add_left (by decide) _ | exact Nat.lt_add_of_pos_right (by decide) | refine W_nils ?_ (Or.inr rfl) | refine W_nils ?_ (Or.inl rfl) | refine Wc_nils ?_ (Or.inr rfl) | refine Wc_nils ?_ (Or.inl rfl) | exact W_cap | rfl | refine And.intro ?_ ?_ | exact Or.inl rfl | exact Or.inr rfl | exact Or.inr (Or.inl rfl) | exact Or.inr (Or.inr BW.emp) | exact Or.inr BW.emp | exact BW.emp | exact Or.inr (Or.inr BW.pre) | exact Or.inr BW.pre | exact BW.pre | refine Or.inr (BW.cells ?_) | refine BW.cells ?_ | refine Or.inr (Or.inr (BW.cells ?_)) | exact Wc_cap)
          · skip
            simp -implicitDefEqProofs (disch := omega) only [hbs, hb0s, hbt, hb0t, hbw, hb0w, h1, h1d, prs_len, prs_one, h2, h2d, prs_all, hs0, hs1, hn1, hn2, decide_false, hz, hz2, appL.eq_1, appL.eq_2, appL.eq_3, prs_nil, List.length_nil, Nat.zero_add, List.nil_append, aApp_nil, aApp_none, aApp_some, aApp_grw, simprocAttr, amset, tyset, Function.comp_apply, one1, lenV, calleeOf, lateOk, belowV, aop, AV.ofValue, AV.ofCell, AV.cells, AV.flat, AV.one, arep, aBin, aConv]
            repeat refine And.intro (by omega) ?_
            refine hJ1 _ _ ⟨k1 - 1, by omega, _, _, _, ⟨1 + 1, by omega, rfl, rfl⟩, Abs.byG hbel [] rfl [1] (by decide) ?_⟩
            simp -implicitDefEqProofs (disch := omega) only [appL.eq_1, appL.eq_2, appL.eq_3, prs_nil, List.length_nil, prs_append, List.length_append, List.length_cons, capG_s, ownG_s, capG_0, ownG_0, prs_cons, W_nil0, W_nil1, W_cap', Wc_nil0, Wc_nil1, Wc_cap', absF, absH, W_refl', W_any', W_agg, W_tup, Ws_cons, Ws_refl', Wc_refl', Wcs_cons, Wcs_nil, look, List.cons_append, List.nil_append, List.append_nil, List.length_cons, List.length_nil, Nat.zero_add, Nat.reduceAdd, AV.mv, AV.mvs, ABlk.mv, sig_new0, sig_newk, sig_lt, List.getElem?_cons_zero, List.getElem?_cons_succ, mvs_ints, mvs_bools, mvs_prs, mvs_append, cond_true, cond_false, beq_self_eq_true, Nat.reduceBEq, true_and, and_true, or_true, true_or, and_self, decide_true, Nat.add_zero, reduceCtorEq, false_or, or_false]
            repeat' (first | exact True.intro | exact Nat.add_lt_add_left (by decide) _ | exact Nat.lt_add_of_pos_right (by decide) | refine W_nils ?_ (Or.inr rfl) | refine W_nils ?_ (Or.inl rfl) | refine Wc_nils ?_ (Or.inr rfl) | refine Wc_nils ?_ (Or.inl rfl) | exact W_cap | rfl | refine And.intro ?_ ?_ | exact Or.inl rfl | exact Or.inr rfl | exact Or.inr (Or.inl rfl) | exact Or.inr (Or.inr BW.emp) | exact Or.inr BW.emp | exact BW.emp | exact Or.inr (Or.inr BW.pre) | exact Or.inr BW.pre | exact BW.pre | refine Or.inr (BW.cells ?_) | refine BW.cells ?_ | refine Or.inr (Or.inr (BW.cells ?_)) | exact Wc_cap)
        · have h2d := h2
          try simp only [Bool.not_eq_true', Bool.not_eq_false', decide_eq_true_eq, decide_eq_false_iff_not, beq_iff_eq, bne_iff_ne, ne_eq, Bool.not_eq_true, Bool.not_eq_false, beq_eq_false_iff_ne, bne_eq_false_iff_eq, Classical.not_not, Bool.and_eq_true, Bool.and_eq_false_imp] at h2d
          obtain rfl : j = 2 := by omega
          simp -implicitDefEqProofs (disch := omega) only [hbs, hb0s, hbt, hb0t, hbw, hb0w, h1, h1d, prs_len, prs_one, h2, h2d, hs0, hs1, hn1, hn2, decide_false, hz, hz2, appL.eq_1, appL.eq_2, appL.eq_3, prs_nil, List.length_nil, Nat.zero_add, List.nil_append, aApp_nil, aApp_none, aApp_some, aApp_grw, simprocAttr, amset, tyset, Function.comp_apply, one1, lenV, calleeOf, lateOk, belowV, aop, AV.ofValue, AV.ofCell, AV.cells, AV.flat, AV.one, arep, aBin, aConv]
          repeat refine And.intro (by omega) ?_
          refine hQ _ _ (end_byG (.inl rfl) hbel (x1 := .sl (some (H.length, 0)) ((appL l m 2).length) none) (l2 := [.cells true 2 (prs (appL l m 2))]) (.sl (some (H.length, 0)) ((appL l m 2).length) none) (ret_of Try.results59 (by simp -implicitDefEqProofs (disch := omega) only [appL.eq_3, List.length_append, simprocAttr, amset, tyset, Function.comp_apply, one1, lenV, calleeOf, lateOk, belowV, aop, AV.ofValue, AV.ofCell, AV.cells, AV.flat, AV.one, arep, aBin, aAppend, aConv])) [] rfl [0] (by decide) ⟨by have hlm : 0 < (l ++ m).length := (by rw [List.length_append]; omega); rw [show appL l m 2 = l ++ m from rfl, capG_p hlm], by have hlm : 0 < (l ++ m).length := (by rw [List.length_append]; omega); rw [show appL l m 2 = l ++ m from rfl, ownG_p hlm]⟩ ?_)
          simp -implicitDefEqProofs (disch := omega) only [W_nil0, W_nil1, W_cap', Wc_nil0, Wc_nil1, Wc_cap', absF, absH, W_refl', W_any', W_agg, W_tup, Ws_cons, Ws_refl', Wc_refl', Wcs_cons, Wcs_nil, look, List.cons_append, List.nil_append, List.append_nil, List.length_cons, List.length_nil, Nat.zero_add, Nat.reduceAdd, AV.mv, AV.mvs, ABlk.mv, sig_new0, sig_newk, sig_lt, List.getElem?_cons_zero, List.getElem?_cons_succ, mvs_ints, mvs_bools, mvs_prs, mvs_append, cond_true, cond_false, beq_self_eq_true, Nat.reduceBEq, true_and, and_true, or_true, true_or, and_self, decide_true, Nat.add_zero, reduceCtorEq, false_or, or_false]
          repeat' (first | exact True.intro | exact Nat.add_lt_add_left (by decide) _ | exact Nat.lt_add_of_pos_right (by decide) | refine W_nils ?_ (Or.inr rfl) | refine W_nils ?_ (Or.inl rfl) | refine Wc_nils ?_ (Or.inr rfl) | refine Wc_nils ?_ (Or.inl rfl) | exact W_cap | rfl | refine And.intro ?_ ?_ | exact Or.inl rfl | exact Or.inr rfl | exact Or.inr (Or.inl rfl) | exact Or.inr (Or.inr BW.emp) | exact Or.inr BW.emp | exact BW.emp | exact Or.inr (Or.inr BW.pre) | exact Or.inr BW.pre | exact BW.pre | refine Or.inr (BW.cells ?_) | refine BW.cells ?_ | refine Or.inr (Or.inr (BW.cells ?_)) | exact Wc_cap)
set_option maxHeartbeats 4000000 in
set_option maxRecDepth 100000 in
theorem concat_00 (H : AHeap) (s : AV) (t : AV) (w : AV) (hs : Sl H 2 s 0 []) (ht : Sl H 2 t 0 []) (hw : Sl H 1 w 2 [s, t]) : ACalls Try.prog 59 [w] H (fun v H' => v = .sl (some (H.length, 0)) (([] : List Pt).length) (capG ([] : List Pt).length) ∧ H' = H ++ [.cells (ownG ([] : List Pt).length) 2 (prs ([] : List Pt))]) := by
  obtain ⟨bs, os, cs, rfl, hbs⟩ := hs
  have hbls := getElem?_lt hbs
  have hb0s := fun l => get_app (l := l) hbs
  obtain ⟨bt, ot, ct, rfl, hbt⟩ := ht
  have hblt := getElem?_lt hbt
  have hb0t := fun l => get_app (l := l) hbt
  obtain ⟨bw, ow, cw, rfl, hbw⟩ := hw
  have hblw := getElem?_lt hbw
  have hb0w := fun l => get_app (l := l) hbw
  have hs0 : (((pre2 0 0 0) : Nat) : Int) + 0 = (((pre2 0 0 1) : Nat) : Int) := by simp [pre2]
  have hs1 : (((pre2 0 0 1) : Nat) : Int) + 0 = (((pre2 0 0 2) : Nat) : Int) := by simp [pre2]
  have hb1 : (pre2 0 0 1) ≤ 500 := by simp only [pre2]; omega
  have hb2 : (pre2 0 0 2) ≤ 1000 := by simp only [pre2]; omega
  have hn1 : (((pre2 0 0 1) : Nat) : Int) < 0 ↔ False := ⟨fun h => by omega, fun h => h.elim⟩
  have hn2 : (((pre2 0 0 2) : Nat) : Int) < 0 ↔ False := ⟨fun h => by omega, fun h => h.elim⟩
  (refine ACalls_run try_mixed Try.func59 true _ rfl (Nat.le_of_ble_eq_true (by kernel_rfl)) (by kernel_rfl) ?_; intro hbel Q hQ hQ' c hc; unfold Try.f59 at hc; simp only [Option.some.injEq] at hc; subst hc; clear hQ')
  simp -implicitDefEqProofs (disch := omega) only [hbs, hb0s, hbt, hb0t, hbw, hb0w, hs0, hs1, hn1, hn2, decide_false, List.length_nil, Nat.zero_add, aApp_nil, aApp_none, aApp_some, aApp_grw, simprocAttr, amset, tyset, Function.comp_apply, one1, lenV, calleeOf, lateOk, belowV, aop, AV.ofValue, AV.ofCell, AV.cells, AV.flat, AV.one, arep, aBin, aConv]
  repeat refine And.intro (by omega) ?_
  refine go_loop try_mixed (by kernel_rfl) (fun k F Hx => ∃ j : Nat, j + k = 2 ∧ F = [(0, .sl (some (bw, 0)) 2 cw), (3, .int .i64 (((pre2 0 0 j) : Nat) : Int)), (9, .sl (some (bw, 0)) 2 cw), (10, .int .i64 2), (11, .int .i64 ((j : Nat) : Int))] ∧ H = Hx) (2) ?_ ?_
  · refine ⟨_, _, _, ⟨0, by omega, rfl, rfl⟩, Abs.by0 hbel ?_⟩
    simp -implicitDefEqProofs (disch := omega) only [pre2.eq_1, Int.natCast_zero, Int.ofNat_zero, W_nil0, W_nil1, W_cap', Wc_nil0, Wc_nil1, Wc_cap', absF, absH, W_refl', W_any', W_agg, W_tup, Ws_cons, Ws_refl', Wc_refl', Wcs_cons, Wcs_nil, look, List.cons_append, List.nil_append, List.append_nil, List.length_cons, List.length_nil, Nat.zero_add, Nat.reduceAdd, AV.mv, AV.mvs, ABlk.mv, sig_new0, sig_newk, sig_lt, List.getElem?_cons_zero, List.getElem?_cons_succ, mvs_ints, mvs_bools, mvs_prs, mvs_append, cond_true, cond_false, beq_self_eq_true, Nat.reduceBEq, true_and, and_true, or_true, true_or, and_self, decide_true, Nat.add_zero, reduceCtorEq, false_or, or_false]
    repeat' (first | exact True.intro | exact Nat.add_lt_add_left (by decide) _ | exact Nat.lt_add_of_pos_right (by decide) | refine W_nils ?_ (Or.inr rfl) | refine W_nils ?_ (Or.inl rfl) | refine Wc_nils ?_ (Or.inr rfl) | refine Wc_nils ?_ (Or.inl rfl) | exact W_cap | rfl | refine And.intro ?_ ?_ | exact Or.inl rfl | exact Or.inr rfl | exact Or.inr (Or.inl rfl) | exact Or.inr (Or.inr BW.emp) | exact Or.inr BW.emp | exact BW.emp | exact Or.inr (Or.inr BW.pre) | exact Or.inr BW.pre | exact BW.pre | refine Or.inr (BW.cells ?_) | refine BW.cells ?_ | refine Or.inr (Or.inr (BW.cells ?_)) | exact Wc_cap)
  · rintro k0 F Hx ⟨j, hm0, rfl, rfl⟩ J0 hJ0
    simp -implicitDefEqProofs (disch := omega) only [hbs, hb0s, hbt, hb0t, hbw, hb0w, hs0, hs1, hn1, hn2, decide_false, List.length_nil, Nat.zero_add, aApp_nil, aApp_none, aApp_some, aApp_grw, simprocAttr, amset, tyset, Function.comp_apply, one1, lenV, calleeOf, lateOk, belowV, aop, AV.ofValue, AV.ofCell, AV.cells, AV.flat, AV.one, arep, aBin, aConv]
    repeat refine And.intro (by omega) ?_
    refine cond_split (fun h1 => ?_) (fun h1 => ?_)
    · have h1d := h1
      try simp only [Bool.not_eq_true', Bool.not_eq_false', decide_eq_true_eq, decide_eq_false_iff_not, beq_iff_eq, bne_iff_ne, ne_eq, Bool.not_eq_true, Bool.not_eq_false, beq_eq_false_iff_ne, bne_eq_false_iff_eq, Classical.not_not, Bool.and_eq_true, Bool.and_eq_false_imp] at h1d
      obtain rfl | rfl := (by omega : j = 0 ∨ j = 1)
      · skip
        simp -implicitDefEqProofs (disch := omega) only [hbs, hb0s, hbt, hb0t, hbw, hb0w, h1, h1d, hs0, hs1, hn1, hn2, decide_false, List.length_nil, Nat.zero_add, aApp_nil, aApp_none, aApp_some, aApp_grw, simprocAttr, amset, tyset, Function.comp_apply, one1, lenV, calleeOf, lateOk, belowV, aop, AV.ofValue, AV.ofCell, AV.cells, AV.flat, AV.one, arep, aBin, aConv]
        repeat refine And.intro (by omega) ?_
        refine hJ0 _ _ ⟨k0 - 1, by omega, _, _, _, ⟨0 + 1, by omega, rfl, rfl⟩, Abs.by0 hbel ?_⟩
        simp -implicitDefEqProofs (disch := omega) only [hs0, hs1, W_nil0, W_nil1, W_cap', Wc_nil0, Wc_nil1, Wc_cap', absF, absH, W_refl', W_any', W_agg, W_tup, Ws_cons, Ws_refl', Wc_refl', Wcs_cons, Wcs_nil, look, List.cons_append, List.nil_append, List.append_nil, List.length_cons, List.length_nil, Nat.zero_add, Nat.reduceAdd, AV.mv, AV.mvs, ABlk.mv, sig_new0, sig_newk, sig_lt, List.getElem?_cons_zero, List.getElem?_cons_succ, mvs_ints, mvs_bools, mvs_prs, mvs_append, cond_true, cond_false, beq_self_eq_true, Nat.reduceBEq, true_and, and_true, or_true, true_or, and_self, decide_true, Nat.add_zero, reduceCtorEq, false_or, or_false]
        repeat' (first | exact True.intro | exact Nat.add_lt_add_left (by decide) _ | exact Nat.lt_add_of_pos_right (by decide) | refine W_nils ?_ (Or.inr rfl) | refine W_nils ?_ (Or.inl rfl) | refine Wc_nils ?_ (Or.inr rfl) | refine Wc_nils ?_ (Or.inl rfl) | exact W_cap | rfl | refine And.intro ?_ ?_ | exact Or.inl rfl | exact Or.inr rfl | exact Or.inr (Or.inl rfl) | exact Or.inr (Or.inr BW.emp) | exact Or.inr BW.emp | exact BW.emp | exact Or.inr (Or.inr BW.pre) | exact Or.inr BW.pre | exact BW.pre | refine Or.inr (BW.cells ?_) | refine BW.cells ?_ | refine Or.inr (Or.inr (BW.cells ?_)) | exact Wc_cap)
      · skip
        simp -implicitDefEqProofs (disch := omega) only [hbs, hb0s, hbt, hb0t, hbw, hb0w, h1, h1d, hs0, hs1, hn1, hn2, decide_false, List.length_nil, Nat.zero_add, aApp_nil, aApp_none, aApp_some, aApp_grw, simprocAttr, amset, tyset, Function.comp_apply, one1, lenV, calleeOf, lateOk, belowV, aop, AV.ofValue, AV.ofCell, AV.cells, AV.flat, AV.one, arep, aBin, aConv]
        repeat refine And.intro (by omega) ?_
        refine hJ0 _ _ ⟨k0 - 1, by omega, _, _, _, ⟨1 + 1, by omega, rfl, rfl⟩, Abs.by0 hbel ?_⟩
        simp -implicitDefEqProofs (disch := omega) only [hs0, hs1, W_nil0, W_nil1, W_cap', Wc_nil0, Wc_nil1, Wc_cap', absF, absH, W_refl', W_any', W_agg, W_tup, Ws_cons, Ws_refl', Wc_refl', Wcs_cons, Wcs_nil, look, List.cons_append, List.nil_append, List.append_nil, List.length_cons, List.length_nil, Nat.zero_add, Nat.reduceAdd, AV.mv, AV.mvs, ABlk.mv, sig_new0, sig_newk, sig_lt, List.getElem?_cons_zero, List.getElem?_cons_succ, mvs_ints, mvs_bools, mvs_prs, mvs_append, cond_true, cond_false, beq_self_eq_true, Nat.reduceBEq, true_and, and_true, or_true, true_or, and_self, decide_true, Nat.add_zero, reduceCtorEq, false_or, or_false]
        repeat' (first | exact True.intro | exact Nat.add_lt_add_left (by decide) _ | exact Nat.lt_add_of_pos_right (by decide) | refine W_nils ?_ (Or.inr rfl) | refine W_nils ?_ (Or.inl rfl) | refine Wc_nils ?_ (Or.inr rfl) | refine Wc_nils ?_ (Or.inl rfl) | exact W_cap | rfl | refine And.intro ?_ ?_ | exact Or.inl rfl | exact Or.inr rfl | exact Or.inr (Or.inl rfl) | exact Or.inr (Or.inr BW.emp) | exact Or.inr BW.emp | exact BW.emp | exact Or.inr (Or.inr BW.pre) | exact Or.inr BW.pre | exact BW.pre | refine Or.inr (BW.cells ?_) | refine BW.cells ?_ | refine Or.inr (Or.inr (BW.cells ?_)) | exact Wc_cap)
    · have h1d := h1
      try simp only [Bool.not_eq_true', Bool.not_eq_false', decide_eq_true_eq, decide_eq_false_iff_not, beq_iff_eq, bne_iff_ne, ne_eq, Bool.not_eq_true, Bool.not_eq_false, beq_eq_false_iff_ne, bne_eq_false_iff_eq, Classical.not_not, Bool.and_eq_true, Bool.and_eq_false_imp] at h1d
      obtain rfl : j = 2 := by omega
      simp -implicitDefEqProofs (disch := omega) only [hbs, hb0s, hbt, hb0t, hbw, hb0w, h1, h1d, hs0, hs1, hn1, hn2, decide_false, List.length_nil, Nat.zero_add, aApp_nil, aApp_none, aApp_some, aApp_grw, simprocAttr, amset, tyset, Function.comp_apply, one1, lenV, calleeOf, lateOk, belowV, aop, AV.ofValue, AV.ofCell, AV.cells, AV.flat, AV.one, arep, aBin, aConv]
      repeat refine And.intro (by omega) ?_
      refine call_v (by kernel_rfl) (grow_0 (by simp [pre2])) ?_
      simp -implicitDefEqProofs (disch := omega) only [hbs, hb0s, hbt, hb0t, hbw, hb0w, h1, h1d, hs0, hs1, hn1, hn2, decide_false, List.length_nil, Nat.zero_add, aApp_nil, aApp_none, aApp_some, aApp_grw, simprocAttr, amset, tyset, Function.comp_apply, one1, lenV, calleeOf, lateOk, belowV, aop, AV.ofValue, AV.ofCell, AV.cells, AV.flat, AV.one, arep, aBin, aConv]
      repeat refine And.intro (by omega) ?_
      refine go_loop try_mixed (by kernel_rfl) (fun k F Hx => ∃ j : Nat, j + k = 2 ∧ F = [(6, .sl none 0 (some 0)), (25, .sl (some (bw, 0)) 2 cw), (26, .int .i64 2), (27, .int .i64 ((j : Nat) : Int))] ∧ H = Hx) (2) ?_ ?_
      · refine ⟨_, _, _, ⟨0, by omega, rfl, rfl⟩, Abs.by0 hbel ?_⟩
        simp -implicitDefEqProofs (disch := omega) only [appL.eq_1, prs_nil, List.length_nil, W_nil0, W_nil1, W_cap', Wc_nil0, Wc_nil1, Wc_cap', absF, absH, W_refl', W_any', W_agg, W_tup, Ws_cons, Ws_refl', Wc_refl', Wcs_cons, Wcs_nil, look, List.cons_append, List.nil_append, List.append_nil, List.length_cons, List.length_nil, Nat.zero_add, Nat.reduceAdd, AV.mv, AV.mvs, ABlk.mv, sig_new0, sig_newk, sig_lt, List.getElem?_cons_zero, List.getElem?_cons_succ, mvs_ints, mvs_bools, mvs_prs, mvs_append, cond_true, cond_false, beq_self_eq_true, Nat.reduceBEq, true_and, and_true, or_true, true_or, and_self, decide_true, Nat.add_zero, reduceCtorEq, false_or, or_false]
        repeat' (first | exact True.intro | exact Nat.add_lt_add_left (by decide) _ | exact Nat.lt_add_of_pos_right (by decide) | refine W_nils ?_ (Or.inr rfl) | refine W_nils ?_ (Or.inl rfl) | refine Wc_nils ?_ (Or.inr rfl) | refine Wc_nils ?_ (Or.inl rfl) | exact W_cap | rfl | refine And.intro ?_ ?_ | exact Or.inl rfl | exact Or.inr rfl | exact Or.inr (Or.inl rfl) | exact Or.inr (Or.inr BW.emp) | exact Or.inr BW.emp | exact BW.emp | exact Or.inr (Or.inr BW.pre) | exact Or.inr BW.pre | exact BW.pre | refine Or.inr (BW.cells ?_) | refine BW.cells ?_ | refine Or.inr (Or.inr (BW.cells ?_)) | exact Wc_cap)
      · rintro k1 F Hx ⟨j, hm1, rfl, rfl⟩ J1 hJ1
        simp -implicitDefEqProofs (disch := omega) only [hbs, hb0s, hbt, hb0t, hbw, hb0w, h1, h1d, hs0, hs1, hn1, hn2, decide_false, List.length_nil, Nat.zero_add, aApp_nil, aApp_none, aApp_some, aApp_grw, simprocAttr, amset, tyset, Function.comp_apply, one1, lenV, calleeOf, lateOk, belowV, aop, AV.ofValue, AV.ofCell, AV.cells, AV.flat, AV.one, arep, aBin, aConv]
        repeat refine And.intro (by omega) ?_
        refine cond_split (fun h2 => ?_) (fun h2 => ?_)
        · have h2d := h2
          try simp only [Bool.not_eq_true', Bool.not_eq_false', decide_eq_true_eq, decide_eq_false_iff_not, beq_iff_eq, bne_iff_ne, ne_eq, Bool.not_eq_true, Bool.not_eq_false, beq_eq_false_iff_ne, bne_eq_false_iff_eq, Classical.not_not, Bool.and_eq_true, Bool.and_eq_false_imp] at h2d
          obtain rfl | rfl := (by omega : j = 0 ∨ j = 1)
          · skip
            simp -implicitDefEqProofs (disch := omega) only [hbs, hb0s, hbt, hb0t, hbw, hb0w, h1, h1d, h2, h2d, hs0, hs1, hn1, hn2, decide_false, List.length_nil, Nat.zero_add, aApp_nil, aApp_none, aApp_some, aApp_grw, simprocAttr, amset, tyset, Function.comp_apply, one1, lenV, calleeOf, lateOk, belowV, aop, AV.ofValue, AV.ofCell, AV.cells, AV.flat, AV.one, arep, aBin, aConv]
            repeat refine And.intro (by omega) ?_
            refine hJ1 _ _ ⟨k1 - 1, by omega, _, _, _, ⟨0 + 1, by omega, rfl, rfl⟩, Abs.by0 hbel ?_⟩
            simp -implicitDefEqProofs (disch := omega) only [appL.eq_1, appL.eq_2, appL.eq_3, prs_nil, List.length_nil, prs_append, W_nil0, W_nil1, W_cap', Wc_nil0, Wc_nil1, Wc_cap', absF, absH, W_refl', W_any', W_agg, W_tup, Ws_cons, Ws_refl', Wc_refl', Wcs_cons, Wcs_nil, look, List.cons_append, List.nil_append, List.append_nil, List.length_cons, List.length_nil, Nat.zero_add, Nat.reduceAdd, AV.mv, AV.mvs, ABlk.mv, sig_new0, sig_newk, sig_lt, List.getElem?_cons_zero, List.getElem?_cons_succ, mvs_ints, mvs_bools, mvs_prs, mvs_append, cond_true, cond_false, beq_self_eq_true, Nat.reduceBEq, true_and, and_true, or_true, true_or, and_self, decide_true, Nat.add_zero, reduceCtorEq, false_or, or_false]
            repeat' (first | exact True.intro | exact Nat.add_lt_add_left (by decide) _ | exact Nat.lt_add_of_pos_right (by decide) | refine W_nils ?_ (Or.inr rfl) | refine W_nils ?_ (Or.inl rfl) | refine Wc_nils ?_ (Or.inr rfl) | refine Wc_nils ?_ (Or.inl rfl) | exact W_cap | rfl | refine And.intro ?_ ?_ | exact Or.inl rfl | exact Or.inr rfl | exact Or.inr (Or.inl rfl) | exact Or.inr (Or.inr BW.emp) | exact Or.inr BW.emp | exact BW.emp | exact Or.inr (Or.inr BW.pre) | exact Or.inr BW.pre | exact BW.pre | refine Or.inr (BW.cells ?_) | refine BW.cells ?_ | refine Or.inr (Or.inr (BW.cells ?_)) | exact Wc_cap)
          · skip
            simp -implicitDefEqProofs (disch := omega) only [hbs, hb0s, hbt, hb0t, hbw, hb0w, h1, h1d, h2, h2d, hs0, hs1, hn1, hn2, decide_false, List.length_nil, Nat.zero_add, aApp_nil, aApp_none, aApp_some, aApp_grw, simprocAttr, amset, tyset, Function.comp_apply, one1, lenV, calleeOf, lateOk, belowV, aop, AV.ofValue, AV.ofCell, AV.cells, AV.flat, AV.one, arep, aBin, aConv]
            repeat refine And.intro (by omega) ?_
            refine hJ1 _ _ ⟨k1 - 1, by omega, _, _, _, ⟨1 + 1, by omega, rfl, rfl⟩, Abs.by0 hbel ?_⟩
            simp -implicitDefEqProofs (disch := omega) only [appL.eq_1, appL.eq_2, appL.eq_3, prs_nil, List.length_nil, prs_append, W_nil0, W_nil1, W_cap', Wc_nil0, Wc_nil1, Wc_cap', absF, absH, W_refl', W_any', W_agg, W_tup, Ws_cons, Ws_refl', Wc_refl', Wcs_cons, Wcs_nil, look, List.cons_append, List.nil_append, List.append_nil, List.length_cons, List.length_nil, Nat.zero_add, Nat.reduceAdd, AV.mv, AV.mvs, ABlk.mv, sig_new0, sig_newk, sig_lt, List.getElem?_cons_zero, List.getElem?_cons_succ, mvs_ints, mvs_bools, mvs_prs, mvs_append, cond_true, cond_false, beq_self_eq_true, Nat.reduceBEq, true_and, and_true, or_true, true_or, and_self, decide_true, Nat.add_zero, reduceCtorEq, false_or, or_false]
            repeat' (first | exact True.intro | exact Nat.add_lt_add_left (by decide) _ | exact Nat.lt_add_of_pos_right (by decide) | refine W_nils ?_ (Or.inr rfl) | refine W_nils ?_ (Or.inl rfl) | refine Wc_nils ?_ (Or.inr rfl) | refine Wc_nils ?_ (Or.inl rfl) | exact W_cap | rfl | refine And.intro ?_ ?_ | exact Or.inl rfl | exact Or.inr rfl | exact Or.inr (Or.inl rfl) | exact Or.inr (Or.inr BW.emp) | exact Or.inr BW.emp | exact BW.emp | exact Or.inr (Or.inr BW.pre) | exact Or.inr BW.pre | exact BW.pre | refine Or.inr (BW.cells ?_) | refine BW.cells ?_ | refine Or.inr (Or.inr (BW.cells ?_)) | exact Wc_cap)
        · have h2d := h2
          try simp only [Bool.not_eq_true', Bool.not_eq_false', decide_eq_true_eq, decide_eq_false_iff_not, beq_iff_eq, bne_iff_ne, ne_eq, Bool.not_eq_true, Bool.not_eq_false, beq_eq_false_iff_ne, bne_eq_false_iff_eq, Classical.not_not, Bool.and_eq_true, Bool.and_eq_false_imp] at h2d
          obtain rfl : j = 2 := by omega
          simp -implicitDefEqProofs (disch := omega) only [hbs, hb0s, hbt, hb0t, hbw, hb0w, h1, h1d, h2, h2d, hs0, hs1, hn1, hn2, decide_false, List.length_nil, Nat.zero_add, aApp_nil, aApp_none, aApp_some, aApp_grw, simprocAttr, amset, tyset, Function.comp_apply, one1, lenV, calleeOf, lateOk, belowV, aop, AV.ofValue, AV.ofCell, AV.cells, AV.flat, AV.one, arep, aBin, aConv]
          repeat refine And.intro (by omega) ?_
          refine hQ _ _ (end_byE (.inl rfl) hbel (x1 := .sl none 0 (some 0)) (l2 := [.cells false 2 []]) (.sl (some (H.length, 0)) 0 (some 0)) (ret_of Try.results59 (by simp -implicitDefEqProofs (disch := omega) only [simprocAttr, amset, tyset, Function.comp_apply, one1, lenV, calleeOf, lateOk, belowV, aop, AV.ofValue, AV.ofCell, AV.cells, AV.flat, AV.one, arep, aBin, aAppend, aConv])) [.cells false 2 []] rfl [0] (by decide) ⟨rfl, rfl⟩ ?_)
          simp -implicitDefEqProofs (disch := omega) only [W_nil0, W_nil1, W_cap', Wc_nil0, Wc_nil1, Wc_cap', absF, absH, W_refl', W_any', W_agg, W_tup, Ws_cons, Ws_refl', Wc_refl', Wcs_cons, Wcs_nil, look, List.cons_append, List.nil_append, List.append_nil, List.length_cons, List.length_nil, Nat.zero_add, Nat.reduceAdd, AV.mv, AV.mvs, ABlk.mv, sig_new0, sig_newk, sig_lt, List.getElem?_cons_zero, List.getElem?_cons_succ, mvs_ints, mvs_bools, mvs_prs, mvs_append, cond_true, cond_false, beq_self_eq_true, Nat.reduceBEq, true_and, and_true, or_true, true_or, and_self, decide_true, Nat.add_zero, reduceCtorEq, false_or, or_false]
          repeat' (first | exact True.intro | exact Nat.add_lt_add_left (by decide) _ | exact Nat.lt_add_of_pos_right (by decide) | refine W_nils ?_ (Or.inr rfl) | refine W_nils ?_ (Or.inl rfl) | refine Wc_nils ?_ (Or.inr rfl) | refine Wc_nils ?_ (Or.inl rfl) | exact W_cap | rfl | refine And.intro ?_ ?_ | exact Or.inl rfl | exact Or.inr rfl | exact Or.inr (Or.inl rfl) | exact Or.inr (Or.inr BW.emp) | exact Or.inr BW.emp | exact BW.emp | exact Or.inr (Or.inr BW.pre) | exact Or.inr BW.pre | exact BW.pre | refine Or.inr (BW.cells ?_) | refine BW.cells ?_ | refine Or.inr (Or.inr (BW.cells ?_)) | exact Wc_cap)
theorem concat_c (H : AHeap) (s t w : AV) (l m : List Pt) (hs : SlP H s l) (ht : SlP H t m) (hw : Sl H 1 w 2 [s, t]) (h1 : l.length ≤ 500) (h2 : m.length ≤ 500) :
    ACalls Try.prog 59 [w] H (fun v H' => v = .sl (some (H.length, 0)) (l ++ m).length (capG (l ++ m).length) ∧ H' = H ++ [.cells (ownG (l ++ m).length) 2 (prs (l ++ m))]) := by
  rcases l with _ | ⟨a, l⟩
  · rcases m with _ | ⟨b, m⟩
    · exact concat_00 H s t w hs ht hw
    · exact concat_0m H s t (b :: m) w hs ht hw (by simp) h2
  · exact concat_lm H s (a :: l) t m w hs ht hw (by simp) h1 h2
end Go.Proofs.Ytjfnbcifafmefaa

/- Walks by the abstract machine: plus, Sum, both. Conditions: as each theorem states. -/
namespace Go.Proofs.Ytjfnbcifafmefaa
set_option linter.unusedSimpArgs false
set_option linter.unusedVariables false
open Go.RowKit
set_option maxHeartbeats 4000000 in
set_option maxRecDepth 100000 in
theorem plus_00 (H : AHeap) (x1 : Int) (y1 : Int) (s : AV) (x2 : Int) (y2 : Int) (t : AV) (hs : Sl H 2 s 0 []) (ht : Sl H 2 t 0 []) (hx : -1099511627776 ≤ x1 ∧ x1 ≤ 1099511627776 ∧ -1099511627776 ≤ y1 ∧ y1 ≤ 1099511627776) (hy : -1099511627776 ≤ x2 ∧ x2 ≤ 1099511627776 ∧ -1099511627776 ≤ y2 ∧ y2 ≤ 1099511627776) : ACalls Try.prog 60 [.agg [.int .i64 x1, .int .i64 y1, s], .agg [.int .i64 x2, .int .i64 y2, t]] H (fun v H' => v = .agg [.int .i64 (x1 + x2), .int .i64 (y1 + y2), .sl (some (H.length, 0)) ((canonL (([] : List Pt))).length) (capG (canonL (([] : List Pt))).length)] ∧ H' = H ++ [.cells (ownG (canonL (([] : List Pt))).length) 2 (prs (canonL (([] : List Pt))))]) := by
  obtain ⟨bs, os, cs, rfl, hbs⟩ := hs
  have hbls := getElem?_lt hbs
  have hb0s := fun l => get_app (l := l) hbs
  obtain ⟨bt, ot, ct, rfl, hbt⟩ := ht
  have hblt := getElem?_lt hbt
  have hb0t := fun l => get_app (l := l) hbt
  have hBn : ∀ e ∈ ([] : List Pt), Bd 4194304 e := fun e he => by cases he
  (refine ACalls_run try_mixed Try.func60 false _ rfl (Nat.le_of_ble_eq_true (by kernel_rfl)) (by kernel_rfl) ?_; intro hbel Q hQ hQ' c hc; unfold Try.f60 at hc; simp only [Option.some.injEq] at hc; subst hc; clear hQ')
  simp -implicitDefEqProofs (disch := omega) only [hbs, hb0s, hbt, hb0t, aApp_nil, aApp_none, aApp_some, aApp_grw, simprocAttr, amset, tyset, Function.comp_apply, one1, lenV, calleeOf, lateOk, belowV, aop, AV.ofValue, AV.ofCell, AV.cells, AV.flat, AV.one, arep, aBin, aConv]
  repeat refine And.intro (by omega) ?_
  refine call_x (by kernel_rfl) (by simp) (rcanon_u _ (x1 + x2) (y1 + y2) _ [] (.inr ⟨_, _, _, by first | rfl | (rw [List.length_append]; done) | (rw [List.length_append]; rfl), by first | rfl | (rw [get_newk]; rfl) | (rw [get_new0]; rfl) | (rw [get_newk, prs_append]; rfl) | (rw [get_new0, prs_append]; rfl)⟩) (by first | omega | (simp only [List.length_cons, List.length_nil]; omega) | exact Nat.le_trans (mkL_len _ _) (by first | omega | simp) | exact Nat.le_trans (vL_len _ _) (by first | omega | simp) | exact Nat.le_trans corV_len (by omega) | exact Nat.le_trans (canonL_len _) (by first | omega | simp)) (by assumption)) ?_
  simp -implicitDefEqProofs (disch := omega) only [hbs, hb0s, hbt, hb0t, aApp_nil, aApp_none, aApp_some, aApp_grw, simprocAttr, amset, tyset, Function.comp_apply, one1, lenV, calleeOf, lateOk, belowV, aop, AV.ofValue, AV.ofCell, AV.cells, AV.flat, AV.one, arep, aBin, aConv]
  repeat refine And.intro (by omega) ?_
  refine hQ _ _ (end_byG (.inl rfl) hbel (x1 := .agg [.int .i64 (x1 + x2), .int .i64 (y1 + y2), .sl (some (H.length + 4, 0)) ((canonL []).length) (capG (canonL []).length)]) (l2 := [.cells (ownG (canonL []).length) 2 (prs (canonL []))]) (.agg [.int .i64 (x1 + x2), .int .i64 (y1 + y2), .sl (some (H.length, 0)) ((canonL []).length) (capG (canonL []).length)]) (ret_of Try.results60 (by simp -implicitDefEqProofs (disch := omega) only [simprocAttr, amset, tyset, Function.comp_apply, one1, lenV, calleeOf, lateOk, belowV, aop, AV.ofValue, AV.ofCell, AV.cells, AV.flat, AV.one, arep, aBin, aAppend, aConv])) [] rfl [4] (by decide) ⟨rfl, rfl⟩ ?_)
  simp -implicitDefEqProofs (disch := omega) only [W_nil0, W_nil1, W_cap', Wc_nil0, Wc_nil1, Wc_cap', absF, absH, W_refl', W_any', W_agg, W_tup, Ws_cons, Ws_refl', Wc_refl', Wcs_cons, Wcs_nil, look, List.cons_append, List.nil_append, List.append_nil, List.length_cons, List.length_nil, Nat.zero_add, Nat.reduceAdd, AV.mv, AV.mvs, ABlk.mv, sig_new0, sig_newk, sig_lt, List.getElem?_cons_zero, List.getElem?_cons_succ, mvs_ints, mvs_bools, mvs_prs, mvs_append, cond_true, cond_false, beq_self_eq_true, Nat.reduceBEq, true_and, and_true, or_true, true_or, and_self, decide_true, Nat.add_zero, reduceCtorEq, false_or, or_false]
  repeat' (first | exact True.intro | exact Nat.add_lt_add_left (by decide) _ | exact Nat.lt_add_of_pos_right (by decide) | refine W_nils ?_ (Or.inr rfl) | refine W_nils ?_ (Or.inl rfl) | refine Wc_nils ?_ (Or.inr rfl) | refine Wc_nils ?_ (Or.inl rfl) | exact W_cap | rfl | refine And.intro ?_ ?_ | exact Or.inl rfl | exact Or.inr rfl | exact Or.inr (Or.inl rfl) | exact Or.inr (Or.inr BW.emp) | exact Or.inr BW.emp | exact BW.emp | exact Or.inr (Or.inr BW.pre) | exact Or.inr BW.pre | exact BW.pre | refine Or.inr (BW.cells ?_) | refine BW.cells ?_ | refine Or.inr (Or.inr (BW.cells ?_)) | exact Wc_cap)
set_option maxHeartbeats 4000000 in
set_option maxRecDepth 100000 in
theorem plus_0m (H : AHeap) (x1 : Int) (y1 : Int) (s : AV) (x2 : Int) (y2 : Int) (t : AV) (m : List (Int × Int)) (hs : Sl H 2 s 0 []) (ht : Sl H 2 t m.length (prs m)) (h0 : 0 < m.length) (hn : m.length ≤ 40) (hB2 : ∀ e ∈ m, Bd 4194304 e) (hx : -1099511627776 ≤ x1 ∧ x1 ≤ 1099511627776 ∧ -1099511627776 ≤ y1 ∧ y1 ≤ 1099511627776) (hy : -1099511627776 ≤ x2 ∧ x2 ≤ 1099511627776 ∧ -1099511627776 ≤ y2 ∧ y2 ≤ 1099511627776) : ACalls Try.prog 60 [.agg [.int .i64 x1, .int .i64 y1, s], .agg [.int .i64 x2, .int .i64 y2, t]] H (fun v H' => v = .agg [.int .i64 (x1 + x2), .int .i64 (y1 + y2), .sl (some (H.length, 0)) ((canonL (m)).length) (capG (canonL (m)).length)] ∧ H' = H ++ [.cells (ownG (canonL (m)).length) 2 (prs (canonL (m)))]) := by
  obtain ⟨bs, os, cs, rfl, hbs⟩ := hs
  have hbls := getElem?_lt hbs
  have hb0s := fun l => get_app (l := l) hbs
  obtain ⟨bt, ot, ct, rfl, hbt⟩ := ht
  have hblt := getElem?_lt hbt
  have hb0t := fun l => get_app (l := l) hbt
  have hz : (m.length == 0) = false := beq_eq_false_iff_ne.2 (by omega)
  have hd : decide (0 < m.length) = true := decide_eq_true h0
  (refine ACalls_run try_mixed Try.func60 false _ rfl (Nat.le_of_ble_eq_true (by kernel_rfl)) (by kernel_rfl) ?_; intro hbel Q hQ hQ' c hc; unfold Try.f60 at hc; simp only [Option.some.injEq] at hc; subst hc; clear hQ')
  simp -implicitDefEqProofs (disch := omega) only [hbs, hb0s, hbt, hb0t, prs_len, prs_one, prs_all, hz, hd, Nat.zero_add, List.nil_append, aApp_nil, aApp_none, aApp_some, aApp_grw, simprocAttr, amset, tyset, Function.comp_apply, one1, lenV, calleeOf, lateOk, belowV, aop, AV.ofValue, AV.ofCell, AV.cells, AV.flat, AV.one, arep, aBin, aConv]
  repeat refine And.intro (by omega) ?_
  refine call_x (by kernel_rfl) (by simp) (rcanon_u _ (x1 + x2) (y1 + y2) _ m (.inr ⟨_, _, _, by first | rfl | (rw [List.length_append]; done) | (rw [List.length_append]; rfl), by first | rfl | (rw [get_newk]; rfl) | (rw [get_new0]; rfl) | (rw [get_newk, prs_append]; rfl) | (rw [get_new0, prs_append]; rfl)⟩) (by first | omega | (simp only [List.length_cons, List.length_nil]; omega) | exact Nat.le_trans (mkL_len _ _) (by first | omega | simp) | exact Nat.le_trans (vL_len _ _) (by first | omega | simp) | exact Nat.le_trans corV_len (by omega) | exact Nat.le_trans (canonL_len _) (by first | omega | simp)) (by assumption)) ?_
  simp -implicitDefEqProofs (disch := omega) only [hbs, hb0s, hbt, hb0t, prs_len, prs_one, prs_all, hz, hd, Nat.zero_add, List.nil_append, aApp_nil, aApp_none, aApp_some, aApp_grw, simprocAttr, amset, tyset, Function.comp_apply, one1, lenV, calleeOf, lateOk, belowV, aop, AV.ofValue, AV.ofCell, AV.cells, AV.flat, AV.one, arep, aBin, aConv]
  repeat refine And.intro (by omega) ?_
  refine hQ _ _ (end_byG (.inl rfl) hbel (x1 := .agg [.int .i64 (x1 + x2), .int .i64 (y1 + y2), .sl (some (H.length + 5, 0)) ((canonL m).length) (capG (canonL m).length)]) (l2 := [.cells (ownG (canonL m).length) 2 (prs (canonL m))]) (.agg [.int .i64 (x1 + x2), .int .i64 (y1 + y2), .sl (some (H.length, 0)) ((canonL m).length) (capG (canonL m).length)]) (ret_of Try.results60 (by simp -implicitDefEqProofs (disch := omega) only [simprocAttr, amset, tyset, Function.comp_apply, one1, lenV, calleeOf, lateOk, belowV, aop, AV.ofValue, AV.ofCell, AV.cells, AV.flat, AV.one, arep, aBin, aAppend, aConv])) [] rfl [5] (by decide) ⟨rfl, rfl⟩ ?_)
  simp -implicitDefEqProofs (disch := omega) only [W_nil0, W_nil1, W_cap', Wc_nil0, Wc_nil1, Wc_cap', absF, absH, W_refl', W_any', W_agg, W_tup, Ws_cons, Ws_refl', Wc_refl', Wcs_cons, Wcs_nil, look, List.cons_append, List.nil_append, List.append_nil, List.length_cons, List.length_nil, Nat.zero_add, Nat.reduceAdd, AV.mv, AV.mvs, ABlk.mv, sig_new0, sig_newk, sig_lt, List.getElem?_cons_zero, List.getElem?_cons_succ, mvs_ints, mvs_bools, mvs_prs, mvs_append, cond_true, cond_false, beq_self_eq_true, Nat.reduceBEq, true_and, and_true, or_true, true_or, and_self, decide_true, Nat.add_zero, reduceCtorEq, false_or, or_false]
  repeat' (first | exact True.intro | exact Nat.add_lt_add_left (by decide) _ | exact Nat.lt_add_of_pos_right (by decide) | refine W_nils ?_ (Or.inr rfl) | refine W_nils ?_ (Or.inl rfl) | refine Wc_nils ?_ (Or.inr rfl) | refine Wc_nils ?_ (Or.inl rfl) | exact W_cap | rfl | refine And.intro ?_ ?_ | exact Or.inl rfl | exact Or.inr rfl | exact Or.inr (Or.inl rfl) | exact Or.inr (Or.inr BW.emp) | exact Or.inr BW.emp | exact BW.emp | exact Or.inr (Or.inr BW.pre) | exact Or.inr BW.pre | exact BW.pre | refine Or.inr (BW.cells ?_) | refine BW.cells ?_ | refine Or.inr (Or.inr (BW.cells ?_)) | exact Wc_cap)
set_option maxHeartbeats 4000000 in
set_option maxRecDepth 100000 in
theorem plus_lm (H : AHeap) (x1 : Int) (y1 : Int) (s : AV) (l : List (Int × Int)) (x2 : Int) (y2 : Int) (t : AV) (m : List (Int × Int)) (hs : Sl H 2 s l.length (prs l)) (ht : Sl H 2 t m.length (prs m)) (h0 : 0 < l.length) (hn : l.length + m.length ≤ 40) (hB1 : ∀ e ∈ l, Bd 4194304 e) (hB2 : ∀ e ∈ m, Bd 4194304 e) (hx : -1099511627776 ≤ x1 ∧ x1 ≤ 1099511627776 ∧ -1099511627776 ≤ y1 ∧ y1 ≤ 1099511627776) (hy : -1099511627776 ≤ x2 ∧ x2 ≤ 1099511627776 ∧ -1099511627776 ≤ y2 ∧ y2 ≤ 1099511627776) : ACalls Try.prog 60 [.agg [.int .i64 x1, .int .i64 y1, s], .agg [.int .i64 x2, .int .i64 y2, t]] H (fun v H' => v = .agg [.int .i64 (x1 + x2), .int .i64 (y1 + y2), .sl (some (H.length, 0)) ((canonL (l ++ m)).length) (capG (canonL (l ++ m)).length)] ∧ H' = H ++ [.cells (ownG (canonL (l ++ m)).length) 2 (prs (canonL (l ++ m)))]) := by
  obtain ⟨bs, os, cs, rfl, hbs⟩ := hs
  have hbls := getElem?_lt hbs
  have hb0s := fun l => get_app (l := l) hbs
  obtain ⟨bt, ot, ct, rfl, hbt⟩ := ht
  have hblt := getElem?_lt hbt
  have hb0t := fun l => get_app (l := l) hbt
  have hz : (l.length == 0) = false := beq_eq_false_iff_ne.2 (by omega)
  have hd : decide (0 < l.length) = true := decide_eq_true h0
  have hz2 : (l.length + m.length == 0) = false := beq_eq_false_iff_ne.2 (by omega)
  have hll : (l ++ m).length = l.length + m.length := List.length_append
  have hBB : ∀ e ∈ l ++ m, Bd 4194304 e := fun e he => by rcases List.mem_append.1 he with h | h; exact hB1 e h; exact hB2 e h
  (refine ACalls_run try_mixed Try.func60 false _ rfl (Nat.le_of_ble_eq_true (by kernel_rfl)) (by kernel_rfl) ?_; intro hbel Q hQ hQ' c hc; unfold Try.f60 at hc; simp only [Option.some.injEq] at hc; subst hc; clear hQ')
  simp -implicitDefEqProofs (disch := omega) only [hbs, hb0s, hbt, hb0t, prs_len, prs_one, prs_all, hz, hz2, hd, Nat.zero_add, List.nil_append, aApp_nil, aApp_none, aApp_some, aApp_grw, simprocAttr, amset, tyset, Function.comp_apply, one1, lenV, calleeOf, lateOk, belowV, aop, AV.ofValue, AV.ofCell, AV.cells, AV.flat, AV.one, arep, aBin, aConv]
  repeat refine And.intro (by omega) ?_
  refine call_x (by kernel_rfl) (by simp) (rcanon_u _ (x1 + x2) (y1 + y2) _ (l ++ m) (.inr ⟨_, _, _, by first | rfl | (rw [List.length_append]; done) | (rw [List.length_append]; rfl), by first | rfl | (rw [get_newk]; rfl) | (rw [get_new0]; rfl) | (rw [get_newk, prs_append]; rfl) | (rw [get_new0, prs_append]; rfl)⟩) (by first | omega | (simp only [List.length_cons, List.length_nil]; omega) | exact Nat.le_trans (mkL_len _ _) (by first | omega | simp) | exact Nat.le_trans (vL_len _ _) (by first | omega | simp) | exact Nat.le_trans corV_len (by omega) | exact Nat.le_trans (canonL_len _) (by first | omega | simp)) (by assumption)) ?_
  simp -implicitDefEqProofs (disch := omega) only [hbs, hb0s, hbt, hb0t, prs_len, prs_one, prs_all, hz, hz2, hd, Nat.zero_add, List.nil_append, aApp_nil, aApp_none, aApp_some, aApp_grw, simprocAttr, amset, tyset, Function.comp_apply, one1, lenV, calleeOf, lateOk, belowV, aop, AV.ofValue, AV.ofCell, AV.cells, AV.flat, AV.one, arep, aBin, aConv]
  repeat refine And.intro (by omega) ?_
  refine hQ _ _ (end_byG (.inl rfl) hbel (x1 := .agg [.int .i64 (x1 + x2), .int .i64 (y1 + y2), .sl (some (H.length + 6, 0)) ((canonL (l ++ m)).length) (capG (canonL (l ++ m)).length)]) (l2 := [.cells (ownG (canonL (l ++ m)).length) 2 (prs (canonL (l ++ m)))]) (.agg [.int .i64 (x1 + x2), .int .i64 (y1 + y2), .sl (some (H.length, 0)) ((canonL (l ++ m)).length) (capG (canonL (l ++ m)).length)]) (ret_of Try.results60 (by simp -implicitDefEqProofs (disch := omega) only [simprocAttr, amset, tyset, Function.comp_apply, one1, lenV, calleeOf, lateOk, belowV, aop, AV.ofValue, AV.ofCell, AV.cells, AV.flat, AV.one, arep, aBin, aAppend, aConv])) [] rfl [6] (by decide) ⟨rfl, rfl⟩ ?_)
  simp -implicitDefEqProofs (disch := omega) only [W_nil0, W_nil1, W_cap', Wc_nil0, Wc_nil1, Wc_cap', absF, absH, W_refl', W_any', W_agg, W_tup, Ws_cons, Ws_refl', Wc_refl', Wcs_cons, Wcs_nil, look, List.cons_append, List.nil_append, List.append_nil, List.length_cons, List.length_nil, Nat.zero_add, Nat.reduceAdd, AV.mv, AV.mvs, ABlk.mv, sig_new0, sig_newk, sig_lt, List.getElem?_cons_zero, List.getElem?_cons_succ, mvs_ints, mvs_bools, mvs_prs, mvs_append, cond_true, cond_false, beq_self_eq_true, Nat.reduceBEq, true_and, and_true, or_true, true_or, and_self, decide_true, Nat.add_zero, reduceCtorEq, false_or, or_false]
  repeat' (first | exact True.intro | exact Nat.add_lt_add_left (by decide) _ | exact Nat.lt_add_of_pos_right (by decide) | refine W_nils ?_ (Or.inr rfl) | refine W_nils ?_ (Or.inl rfl) | refine Wc_nils ?_ (Or.inr rfl) | refine Wc_nils ?_ (Or.inl rfl) | exact W_cap | rfl | refine And.intro ?_ ?_ | exact Or.inl rfl | exact Or.inr rfl | exact Or.inr (Or.inl rfl) | exact Or.inr (Or.inr BW.emp) | exact Or.inr BW.emp | exact BW.emp | exact Or.inr (Or.inr BW.pre) | exact Or.inr BW.pre | exact BW.pre | refine Or.inr (BW.cells ?_) | refine BW.cells ?_ | refine Or.inr (Or.inr (BW.cells ?_)) | exact Wc_cap)
theorem plus_c (H : AHeap) (x1 y1 x2 y2 : Int) (s t : AV) (l m : List Pt) (hs : SlP H s l) (ht : SlP H t m) (hn : l.length + m.length ≤ 40) (hB1 : ∀ e ∈ l, Bd 4194304 e) (hB2 : ∀ e ∈ m, Bd 4194304 e) (hx : -1099511627776 ≤ x1 ∧ x1 ≤ 1099511627776 ∧ -1099511627776 ≤ y1 ∧ y1 ≤ 1099511627776) (hy : -1099511627776 ≤ x2 ∧ x2 ≤ 1099511627776 ∧ -1099511627776 ≤ y2 ∧ y2 ≤ 1099511627776) :
    ACalls Try.prog 60 [.agg [.int .i64 x1, .int .i64 y1, s], .agg [.int .i64 x2, .int .i64 y2, t]] H (fun v H' => v = .agg [.int .i64 (x1 + x2), .int .i64 (y1 + y2), .sl (some (H.length, 0)) (canonL (l ++ m)).length (capG (canonL (l ++ m)).length)] ∧ H' = H ++ [.cells (ownG (canonL (l ++ m)).length) 2 (prs (canonL (l ++ m)))]) := by
  rcases l with _ | ⟨a, l⟩
  · rcases m with _ | ⟨b, m⟩
    · exact plus_00 H x1 y1 s x2 y2 t hs ht hx hy
    · exact plus_0m H x1 y1 s x2 y2 t (b :: m) hs ht (by simp) (by simpa using hn) hB2 hx hy
  · exact plus_lm H x1 y1 s (a :: l) x2 y2 t m hs ht (by simp) hn hB1 hB2 hx hy
/-- The error of a sum. -/
def sumE (x1 y1 : Int) (l : List Pt) (x2 y2 : Int) (m : List Pt) : Int := if (validB x1 y1 l && validB x2 y2 m) = true then (if validB (x1 + x2) (y1 + y2) (canonL (l ++ m)) = true then 0 else 6) else 1
set_option maxHeartbeats 4000000 in
set_option maxRecDepth 100000 in
theorem whole_t (H : AHeap) (x : Int) (y : Int) (s : AV) (l : List (Int × Int)) (hs : Sl H 2 s l.length (prs l)) (hv : validB x y l = true) : ACalls Try.prog 58 [.agg [.int .i64 x, .int .i64 y, s]] H (fun v H' => v = .tup [.agg [.int .i64 x, .int .i64 y, s], .int .i64 0] ∧ H' = H) := by
  obtain ⟨bs, os, cs, rfl, hbs⟩ := hs
  have hbls := getElem?_lt hbs
  have hb0s := fun l => get_app (l := l) hbs
  (refine ACalls_run try_mixed Try.func58 true _ rfl (Nat.le_of_ble_eq_true (by kernel_rfl)) (by kernel_rfl) ?_; intro hbel Q hQ hQ' c hc; unfold Try.f58 at hc; simp only [Option.some.injEq] at hc; subst hc; clear hQ')
  simp -implicitDefEqProofs (disch := omega) only [hbs, hb0s, hv, aApp_nil, aApp_none, aApp_some, aApp_grw, simprocAttr, amset, tyset, Function.comp_apply, one1, lenV, calleeOf, lateOk, belowV, aop, AV.ofValue, AV.ofCell, AV.cells, AV.flat, AV.one, arep, aBin, aConv]
  repeat refine And.intro (by omega) ?_
  refine call_v (by kernel_rfl) (valid_c _ x y _ l (.inr ⟨_, _, _, rfl, by first | exact hb0s _ | exact hbs⟩)) ?_
  simp -implicitDefEqProofs (disch := omega) only [hbs, hb0s, hv, aApp_nil, aApp_none, aApp_some, aApp_grw, simprocAttr, amset, tyset, Function.comp_apply, one1, lenV, calleeOf, lateOk, belowV, aop, AV.ofValue, AV.ofCell, AV.cells, AV.flat, AV.one, arep, aBin, aConv]
  repeat refine And.intro (by omega) ?_
  refine hQ _ _ (end_byG (.inl rfl) hbel (x1 := .tup [.agg [.int .i64 x, .int .i64 y, .sl (some (bs, 0)) l.length cs], .int .i64 0]) (l2 := []) (.tup [.agg [.int .i64 x, .int .i64 y, .sl (some (bs, 0)) l.length cs], .int .i64 0]) (ret_of Try.results58 (by simp -implicitDefEqProofs (disch := omega) only [simprocAttr, amset, tyset, Function.comp_apply, one1, lenV, calleeOf, lateOk, belowV, aop, AV.ofValue, AV.ofCell, AV.cells, AV.flat, AV.one, arep, aBin, aAppend, aConv])) [] rfl [] (by decide) ⟨rfl, List.append_nil _⟩ ?_)
  simp -implicitDefEqProofs (disch := omega) only [W_nil0, W_nil1, W_cap', Wc_nil0, Wc_nil1, Wc_cap', absF, absH, W_refl', W_any', W_agg, W_tup, Ws_cons, Ws_refl', Wc_refl', Wcs_cons, Wcs_nil, look, List.cons_append, List.nil_append, List.append_nil, List.length_cons, List.length_nil, Nat.zero_add, Nat.reduceAdd, AV.mv, AV.mvs, ABlk.mv, sig_new0, sig_newk, sig_lt, List.getElem?_cons_zero, List.getElem?_cons_succ, mvs_ints, mvs_bools, mvs_prs, mvs_append, cond_true, cond_false, beq_self_eq_true, Nat.reduceBEq, true_and, and_true, or_true, true_or, and_self, decide_true, Nat.add_zero, reduceCtorEq, false_or, or_false]
  repeat' (first | exact True.intro | exact Nat.add_lt_add_left (by decide) _ | exact Nat.lt_add_of_pos_right (by decide) | refine W_nils ?_ (Or.inr rfl) | refine W_nils ?_ (Or.inl rfl) | refine Wc_nils ?_ (Or.inr rfl) | refine Wc_nils ?_ (Or.inl rfl) | exact W_cap | rfl | refine And.intro ?_ ?_ | exact Or.inl rfl | exact Or.inr rfl | exact Or.inr (Or.inl rfl) | exact Or.inr (Or.inr BW.emp) | exact Or.inr BW.emp | exact BW.emp | exact Or.inr (Or.inr BW.pre) | exact Or.inr BW.pre | exact BW.pre | refine Or.inr (BW.cells ?_) | refine BW.cells ?_ | refine Or.inr (Or.inr (BW.cells ?_)) | exact Wc_cap)
set_option maxHeartbeats 4000000 in
set_option maxRecDepth 100000 in
theorem whole_f (H : AHeap) (x : Int) (y : Int) (s : AV) (l : List (Int × Int)) (hs : Sl H 2 s l.length (prs l)) (hv : validB x y l = false) : ACalls Try.prog 58 [.agg [.int .i64 x, .int .i64 y, s]] H (fun v H' => v = .tup [.agg [.int .i64 0, .int .i64 0, .sl none 0 (some 0)], .int .i64 6] ∧ H' = H) := by
  obtain ⟨bs, os, cs, rfl, hbs⟩ := hs
  have hbls := getElem?_lt hbs
  have hb0s := fun l => get_app (l := l) hbs
  (refine ACalls_run try_mixed Try.func58 true _ rfl (Nat.le_of_ble_eq_true (by kernel_rfl)) (by kernel_rfl) ?_; intro hbel Q hQ hQ' c hc; unfold Try.f58 at hc; simp only [Option.some.injEq] at hc; subst hc; clear hQ')
  simp -implicitDefEqProofs (disch := omega) only [hbs, hb0s, hv, aApp_nil, aApp_none, aApp_some, aApp_grw, simprocAttr, amset, tyset, Function.comp_apply, one1, lenV, calleeOf, lateOk, belowV, aop, AV.ofValue, AV.ofCell, AV.cells, AV.flat, AV.one, arep, aBin, aConv]
  repeat refine And.intro (by omega) ?_
  refine call_v (by kernel_rfl) (valid_c _ x y _ l (.inr ⟨_, _, _, rfl, by first | exact hb0s _ | exact hbs⟩)) ?_
  simp -implicitDefEqProofs (disch := omega) only [hbs, hb0s, hv, aApp_nil, aApp_none, aApp_some, aApp_grw, simprocAttr, amset, tyset, Function.comp_apply, one1, lenV, calleeOf, lateOk, belowV, aop, AV.ofValue, AV.ofCell, AV.cells, AV.flat, AV.one, arep, aBin, aConv]
  repeat refine And.intro (by omega) ?_
  exact hQ _ _ (end_plain (.inl rfl) hbel (x := .tup [.agg [.int .i64 0, .int .i64 0, .sl none 0 (some 0)], .int .i64 6]) (ret_of Try.results58 (by simp -implicitDefEqProofs (disch := omega) only [simprocAttr, amset, tyset, Function.comp_apply, one1, lenV, calleeOf, lateOk, belowV, aop, AV.ofValue, AV.ofCell, AV.cells, AV.flat, AV.one, arep, aBin, aAppend, aConv])) rfl ⟨rfl, rfl⟩)
set_option maxHeartbeats 4000000 in
set_option maxRecDepth 100000 in
theorem Sum_c (H : AHeap) (x1 : Int) (y1 : Int) (s : AV) (l : List (Int × Int)) (x2 : Int) (y2 : Int) (t : AV) (m : List (Int × Int)) (hs : Sl H 2 s l.length (prs l)) (ht : Sl H 2 t m.length (prs m)) : ACalls Try.prog 31 [.agg [.int .i64 x1, .int .i64 y1, s], .agg [.int .i64 x2, .int .i64 y2, t]] H (fun v H' => v = .tup [.agg [.int .i64 (mkX (sumE x1 y1 l x2 y2 m) (x1 + x2)), .int .i64 (mkX (sumE x1 y1 l x2 y2 m) (y1 + y2)), .sl (some (H.length, 0)) ((mkL (sumE x1 y1 l x2 y2 m) (canonL (l ++ m))).length) (capG (mkL (sumE x1 y1 l x2 y2 m) (canonL (l ++ m))).length)], .int .i64 (sumE x1 y1 l x2 y2 m)] ∧ H' = H ++ [.cells (ownG (mkL (sumE x1 y1 l x2 y2 m) (canonL (l ++ m))).length) 2 (prs (mkL (sumE x1 y1 l x2 y2 m) (canonL (l ++ m))))]) := by
  obtain ⟨bs, os, cs, rfl, hbs⟩ := hs
  have hbls := getElem?_lt hbs
  have hb0s := fun l => get_app (l := l) hbs
  obtain ⟨bt, ot, ct, rfl, hbt⟩ := ht
  have hblt := getElem?_lt hbt
  have hb0t := fun l => get_app (l := l) hbt
  (refine ACalls_run try_mixed Try.func31 false _ rfl (Nat.le_of_ble_eq_true (by kernel_rfl)) (by kernel_rfl) ?_; intro hbel Q hQ hQ' c hc; unfold Try.f31 at hc; simp only [Option.some.injEq] at hc; subst hc; clear hQ')
  simp -implicitDefEqProofs (disch := omega) only [hbs, hb0s, hbt, hb0t, aApp_nil, aApp_none, aApp_some, aApp_grw, simprocAttr, amset, tyset, Function.comp_apply, one1, lenV, calleeOf, lateOk, belowV, aop, AV.ofValue, AV.ofCell, AV.cells, AV.flat, AV.one, arep, aBin, aConv]
  repeat refine And.intro (by omega) ?_
  refine call_v (by kernel_rfl) (valid_c _ x1 y1 _ l (.inr ⟨_, _, _, rfl, by first | exact hb0s _ | exact hbs⟩)) ?_
  simp -implicitDefEqProofs (disch := omega) only [hbs, hb0s, hbt, hb0t, aApp_nil, aApp_none, aApp_some, aApp_grw, simprocAttr, amset, tyset, Function.comp_apply, one1, lenV, calleeOf, lateOk, belowV, aop, AV.ofValue, AV.ofCell, AV.cells, AV.flat, AV.one, arep, aBin, aConv]
  repeat refine And.intro (by omega) ?_
  refine gd_split (fun h1 => ?_) (fun h1 => ?_)
  · have h1d := h1
    try simp only [Bool.not_eq_true', Bool.not_eq_false', decide_eq_true_eq, decide_eq_false_iff_not, beq_iff_eq, bne_iff_ne, ne_eq, Bool.not_eq_true, Bool.not_eq_false, beq_eq_false_iff_ne, bne_eq_false_iff_eq, Classical.not_not, Bool.and_eq_true, Bool.and_eq_false_imp] at h1d
    obtain ⟨hl16, hlB⟩ := valid_bd h1d
    have hxy1 := valid_bd3 h1d
    have hB1 : ∀ e ∈ l, Bd 4194304 e := fun e he => by have := hlB e he; unfold Bd at *; omega
    simp -implicitDefEqProofs (disch := omega) only [hbs, hb0s, hbt, hb0t, h1, h1d, aApp_nil, aApp_none, aApp_some, aApp_grw, simprocAttr, amset, tyset, Function.comp_apply, one1, lenV, calleeOf, lateOk, belowV, aop, AV.ofValue, AV.ofCell, AV.cells, AV.flat, AV.one, arep, aBin, aConv]
    repeat refine And.intro (by omega) ?_
    refine call_v (by kernel_rfl) (valid_c _ x2 y2 _ m (.inr ⟨_, _, _, rfl, by first | exact hb0t _ | exact hbt⟩)) ?_
    simp -implicitDefEqProofs (disch := omega) only [hbs, hb0s, hbt, hb0t, h1, h1d, aApp_nil, aApp_none, aApp_some, aApp_grw, simprocAttr, amset, tyset, Function.comp_apply, one1, lenV, calleeOf, lateOk, belowV, aop, AV.ofValue, AV.ofCell, AV.cells, AV.flat, AV.one, arep, aBin, aConv]
    repeat refine And.intro (by omega) ?_
    refine cond_split (fun h2 => ?_) (fun h2 => ?_)
    · have h2d := h2
      try simp only [Bool.not_eq_true', Bool.not_eq_false', decide_eq_true_eq, decide_eq_false_iff_not, beq_iff_eq, bne_iff_ne, ne_eq, Bool.not_eq_true, Bool.not_eq_false, beq_eq_false_iff_ne, bne_eq_false_iff_eq, Classical.not_not, Bool.and_eq_true, Bool.and_eq_false_imp] at h2d
      simp -implicitDefEqProofs (disch := omega) only [hbs, hb0s, hbt, hb0t, h1, h1d, h2, h2d, aApp_nil, aApp_none, aApp_some, aApp_grw, simprocAttr, amset, tyset, Function.comp_apply, one1, lenV, calleeOf, lateOk, belowV, aop, AV.ofValue, AV.ofCell, AV.cells, AV.flat, AV.one, arep, aBin, aConv]
      repeat refine And.intro (by omega) ?_
      refine hQ _ _ (end_byG (.inl rfl) hbel (x1 := .tup [.agg [.int .i64 0, .int .i64 0, .sl none 0 (some 0)], .int .i64 1]) (l2 := [.cells false 2 []]) (.tup [.agg [.int .i64 0, .int .i64 0, .sl (some (H.length, 0)) 0 (some 0)], .int .i64 1]) (ret_of Try.results31 (by simp -implicitDefEqProofs (disch := omega) only [simprocAttr, amset, tyset, Function.comp_apply, one1, lenV, calleeOf, lateOk, belowV, aop, AV.ofValue, AV.ofCell, AV.cells, AV.flat, AV.one, arep, aBin, aAppend, aConv])) [.cells false 2 []] rfl [3] (by decide) ⟨by simp [mkX, mkL, sumE, capG_0, ownG_0, prs_nil, h1d, h2d], by simp [mkX, mkL, sumE, capG_0, ownG_0, prs_nil, h1d, h2d]⟩ ?_)
      simp -implicitDefEqProofs (disch := omega) only [W_nil0, W_nil1, W_cap', Wc_nil0, Wc_nil1, Wc_cap', absF, absH, W_refl', W_any', W_agg, W_tup, Ws_cons, Ws_refl', Wc_refl', Wcs_cons, Wcs_nil, look, List.cons_append, List.nil_append, List.append_nil, List.length_cons, List.length_nil, Nat.zero_add, Nat.reduceAdd, AV.mv, AV.mvs, ABlk.mv, sig_new0, sig_newk, sig_lt, List.getElem?_cons_zero, List.getElem?_cons_succ, mvs_ints, mvs_bools, mvs_prs, mvs_append, cond_true, cond_false, beq_self_eq_true, Nat.reduceBEq, true_and, and_true, or_true, true_or, and_self, decide_true, Nat.add_zero, reduceCtorEq, false_or, or_false]
      repeat' (first | exact True.intro | exact Nat.add_lt_add_left (by decide) _ | exact Nat.lt_add_of_pos_right (by decide) | refine W_nils ?_ (Or.inr rfl) | refine W_nils ?_ (Or.inl rfl) | refine Wc_nils ?_ (Or.inr rfl) | refine Wc_nils ?_ (Or.inl rfl) | exact W_cap | rfl | refine And.intro ?_ ?_ | exact Or.inl rfl | exact Or.inr rfl | exact Or.inr (Or.inl rfl) | exact Or.inr (Or.inr BW.emp) | exact Or.inr BW.emp | exact BW.emp | exact Or.inr (Or.inr BW.pre) | exact Or.inr BW.pre | exact BW.pre | refine Or.inr (BW.cells ?_) | refine BW.cells ?_ | refine Or.inr (Or.inr (BW.cells ?_)) | exact Wc_cap)
    · have h2d := h2
      try simp only [Bool.not_eq_true', Bool.not_eq_false', decide_eq_true_eq, decide_eq_false_iff_not, beq_iff_eq, bne_iff_ne, ne_eq, Bool.not_eq_true, Bool.not_eq_false, beq_eq_false_iff_ne, bne_eq_false_iff_eq, Classical.not_not, Bool.and_eq_true, Bool.and_eq_false_imp] at h2d
      obtain ⟨hm16, hmB⟩ := valid_bd h2d
      have hxy2 := valid_bd3 h2d
      have hB2 : ∀ e ∈ m, Bd 4194304 e := fun e he => by have := hmB e he; unfold Bd at *; omega
      have hll : (l ++ m).length = l.length + m.length := List.length_append
      have hcl := canonL_len (l ++ m)
      have hBB : ∀ e ∈ l ++ m, Bd 4194304 e := fun e he => by rcases List.mem_append.1 he with h | h; exact hB1 e h; exact hB2 e h
      simp -implicitDefEqProofs (disch := omega) only [hbs, hb0s, hbt, hb0t, h1, h1d, h2, h2d, aApp_nil, aApp_none, aApp_some, aApp_grw, simprocAttr, amset, tyset, Function.comp_apply, one1, lenV, calleeOf, lateOk, belowV, aop, AV.ofValue, AV.ofCell, AV.cells, AV.flat, AV.one, arep, aBin, aConv]
      repeat refine And.intro (by omega) ?_
      refine call_x (by kernel_rfl) (by simp) (concat_c _ _ _ _ l m ⟨_, _, _, rfl, by first | exact hb0s _ | exact hbs⟩ ⟨_, _, _, rfl, by first | exact hb0t _ | exact hbt⟩ ⟨_, _, _, rfl, by first | rfl | exact get_newk | exact get_new0⟩ (by omega) (by omega)) ?_
      simp -implicitDefEqProofs (disch := omega) only [hbs, hb0s, hbt, hb0t, h1, h1d, h2, h2d, aApp_nil, aApp_none, aApp_some, aApp_grw, simprocAttr, amset, tyset, Function.comp_apply, one1, lenV, calleeOf, lateOk, belowV, aop, AV.ofValue, AV.ofCell, AV.cells, AV.flat, AV.one, arep, aBin, aConv]
      repeat refine And.intro (by omega) ?_
      refine call_x (by kernel_rfl) (by simp) (canonical_u _ (x1 + x2) (y1 + y2) _ (l ++ m) (.inr ⟨_, _, _, by first | rfl | (rw [List.length_append]; done) | (rw [List.length_append]; rfl), by first | rfl | (rw [get_newk]; rfl) | (rw [get_new0]; rfl) | (rw [get_newk, prs_append]; rfl) | (rw [get_new0, prs_append]; rfl)⟩) (by first | omega | (simp only [List.length_cons, List.length_nil]; omega) | exact Nat.le_trans (mkL_len _ _) (by first | omega | simp) | exact Nat.le_trans (vL_len _ _) (by first | omega | simp) | exact Nat.le_trans corV_len (by omega) | exact Nat.le_trans (canonL_len _) (by first | omega | simp)) (by assumption)) ?_
      simp -implicitDefEqProofs (disch := omega) only [hbs, hb0s, hbt, hb0t, h1, h1d, h2, h2d, aApp_nil, aApp_none, aApp_some, aApp_grw, simprocAttr, amset, tyset, Function.comp_apply, one1, lenV, calleeOf, lateOk, belowV, aop, AV.ofValue, AV.ofCell, AV.cells, AV.flat, AV.one, arep, aBin, aConv]
      repeat refine And.intro (by omega) ?_
      rcases Bool.eq_false_or_eq_true (validB (x1 + x2) (y1 + y2) (canonL (l ++ m))) with h3 | h3
      · have h3d := h3
        refine call_d (by kernel_rfl) (whole_t _ (x1 + x2) (y1 + y2) _ (canonL (l ++ m)) ⟨_, _, _, by first | rfl | (rw [List.length_append]; done) | (rw [List.length_append]; rfl), by first | rfl | (rw [get_newk]; rfl) | (rw [get_new0]; rfl) | (rw [get_newk, prs_append]; rfl) | (rw [get_new0, prs_append]; rfl)⟩ (by assumption)) ?_
        simp -implicitDefEqProofs (disch := omega) only [hbs, hb0s, hbt, hb0t, h1, h1d, h2, h2d, h3, h3d, aApp_nil, aApp_none, aApp_some, aApp_grw, simprocAttr, amset, tyset, Function.comp_apply, one1, lenV, calleeOf, lateOk, belowV, aop, AV.ofValue, AV.ofCell, AV.cells, AV.flat, AV.one, arep, aBin, aConv]
        repeat refine And.intro (by omega) ?_
        refine hQ _ _ (end_byG (.inl rfl) hbel (x1 := .tup [.agg [.int .i64 (x1 + x2), .int .i64 (y1 + y2), .sl (some (H.length + 5, 0)) ((canonL (l ++ m)).length) (capG (canonL (l ++ m)).length)], .int .i64 0]) (l2 := [.cells (ownG (canonL (l ++ m)).length) 2 (prs (canonL (l ++ m)))]) (.tup [.agg [.int .i64 (x1 + x2), .int .i64 (y1 + y2), .sl (some (H.length, 0)) ((canonL (l ++ m)).length) (capG (canonL (l ++ m)).length)], .int .i64 0]) (ret_of Try.results31 (by simp -implicitDefEqProofs (disch := omega) only [simprocAttr, amset, tyset, Function.comp_apply, one1, lenV, calleeOf, lateOk, belowV, aop, AV.ofValue, AV.ofCell, AV.cells, AV.flat, AV.one, arep, aBin, aAppend, aConv])) [] rfl [5] (by decide) ⟨by simp [mkX, mkL, sumE, capG_0, ownG_0, prs_nil, h1d, h2d, h3d], by simp [mkX, mkL, sumE, capG_0, ownG_0, prs_nil, h1d, h2d, h3d]⟩ ?_)
        simp -implicitDefEqProofs (disch := omega) only [W_nil0, W_nil1, W_cap', Wc_nil0, Wc_nil1, Wc_cap', absF, absH, W_refl', W_any', W_agg, W_tup, Ws_cons, Ws_refl', Wc_refl', Wcs_cons, Wcs_nil, look, List.cons_append, List.nil_append, List.append_nil, List.length_cons, List.length_nil, Nat.zero_add, Nat.reduceAdd, AV.mv, AV.mvs, ABlk.mv, sig_new0, sig_newk, sig_lt, List.getElem?_cons_zero, List.getElem?_cons_succ, mvs_ints, mvs_bools, mvs_prs, mvs_append, cond_true, cond_false, beq_self_eq_true, Nat.reduceBEq, true_and, and_true, or_true, true_or, and_self, decide_true, Nat.add_zero, reduceCtorEq, false_or, or_false]
        repeat' (first | exact True.intro | exact Nat.add_lt_add_left (by decide) _ | exact Nat.lt_add_of_pos_right (by decide) | refine W_nils ?_ (Or.inr rfl) | refine W_nils ?_ (Or.inl rfl) | refine Wc_nils ?_ (Or.inr rfl) | refine Wc_nils ?_ (Or.inl rfl) | exact W_cap | rfl | refine And.intro ?_ ?_ | exact Or.inl rfl | exact Or.inr rfl | exact Or.inr (Or.inl rfl) | exact Or.inr (Or.inr BW.emp) | exact Or.inr BW.emp | exact BW.emp | exact Or.inr (Or.inr BW.pre) | exact Or.inr BW.pre | exact BW.pre | refine Or.inr (BW.cells ?_) | refine BW.cells ?_ | refine Or.inr (Or.inr (BW.cells ?_)) | exact Wc_cap)
      · have h3d := h3
        refine call_d (by kernel_rfl) (whole_f _ (x1 + x2) (y1 + y2) _ (canonL (l ++ m)) ⟨_, _, _, by first | rfl | (rw [List.length_append]; done) | (rw [List.length_append]; rfl), by first | rfl | (rw [get_newk]; rfl) | (rw [get_new0]; rfl) | (rw [get_newk, prs_append]; rfl) | (rw [get_new0, prs_append]; rfl)⟩ (by assumption)) ?_
        simp -implicitDefEqProofs (disch := omega) only [hbs, hb0s, hbt, hb0t, h1, h1d, h2, h2d, h3, h3d, aApp_nil, aApp_none, aApp_some, aApp_grw, simprocAttr, amset, tyset, Function.comp_apply, one1, lenV, calleeOf, lateOk, belowV, aop, AV.ofValue, AV.ofCell, AV.cells, AV.flat, AV.one, arep, aBin, aConv]
        repeat refine And.intro (by omega) ?_
        refine hQ _ _ (end_byG (.inl rfl) hbel (x1 := .tup [.agg [.int .i64 0, .int .i64 0, .sl none 0 (some 0)], .int .i64 6]) (l2 := [.cells false 2 []]) (.tup [.agg [.int .i64 0, .int .i64 0, .sl (some (H.length, 0)) 0 (some 0)], .int .i64 6]) (ret_of Try.results31 (by simp -implicitDefEqProofs (disch := omega) only [simprocAttr, amset, tyset, Function.comp_apply, one1, lenV, calleeOf, lateOk, belowV, aop, AV.ofValue, AV.ofCell, AV.cells, AV.flat, AV.one, arep, aBin, aAppend, aConv])) [.cells false 2 []] rfl [6] (by decide) ⟨by simp [mkX, mkL, sumE, capG_0, ownG_0, prs_nil, h1d, h2d, h3d], by simp [mkX, mkL, sumE, capG_0, ownG_0, prs_nil, h1d, h2d, h3d]⟩ ?_)
        simp -implicitDefEqProofs (disch := omega) only [W_nil0, W_nil1, W_cap', Wc_nil0, Wc_nil1, Wc_cap', absF, absH, W_refl', W_any', W_agg, W_tup, Ws_cons, Ws_refl', Wc_refl', Wcs_cons, Wcs_nil, look, List.cons_append, List.nil_append, List.append_nil, List.length_cons, List.length_nil, Nat.zero_add, Nat.reduceAdd, AV.mv, AV.mvs, ABlk.mv, sig_new0, sig_newk, sig_lt, List.getElem?_cons_zero, List.getElem?_cons_succ, mvs_ints, mvs_bools, mvs_prs, mvs_append, cond_true, cond_false, beq_self_eq_true, Nat.reduceBEq, true_and, and_true, or_true, true_or, and_self, decide_true, Nat.add_zero, reduceCtorEq, false_or, or_false]
        repeat' (first | exact True.intro | exact Nat.add_lt_add_left (by decide) _ | exact Nat.lt_add_of_pos_right (by decide) | refine W_nils ?_ (Or.inr rfl) | refine W_nils ?_ (Or.inl rfl) | refine Wc_nils ?_ (Or.inr rfl) | refine Wc_nils ?_ (Or.inl rfl) | exact W_cap | rfl | refine And.intro ?_ ?_ | exact Or.inl rfl | exact Or.inr rfl | exact Or.inr (Or.inl rfl) | exact Or.inr (Or.inr BW.emp) | exact Or.inr BW.emp | exact BW.emp | exact Or.inr (Or.inr BW.pre) | exact Or.inr BW.pre | exact BW.pre | refine Or.inr (BW.cells ?_) | refine BW.cells ?_ | refine Or.inr (Or.inr (BW.cells ?_)) | exact Wc_cap)
  · have h1d := h1
    try simp only [Bool.not_eq_true', Bool.not_eq_false', decide_eq_true_eq, decide_eq_false_iff_not, beq_iff_eq, bne_iff_ne, ne_eq, Bool.not_eq_true, Bool.not_eq_false, beq_eq_false_iff_ne, bne_eq_false_iff_eq, Classical.not_not, Bool.and_eq_true, Bool.and_eq_false_imp] at h1d
    simp -implicitDefEqProofs (disch := omega) only [hbs, hb0s, hbt, hb0t, h1, h1d, aApp_nil, aApp_none, aApp_some, aApp_grw, simprocAttr, amset, tyset, Function.comp_apply, one1, lenV, calleeOf, lateOk, belowV, aop, AV.ofValue, AV.ofCell, AV.cells, AV.flat, AV.one, arep, aBin, aConv]
    repeat refine And.intro (by omega) ?_
    refine hQ _ _ (end_byG (.inl rfl) hbel (x1 := .tup [.agg [.int .i64 0, .int .i64 0, .sl none 0 (some 0)], .int .i64 1]) (l2 := [.cells false 2 []]) (.tup [.agg [.int .i64 0, .int .i64 0, .sl (some (H.length, 0)) 0 (some 0)], .int .i64 1]) (ret_of Try.results31 (by simp -implicitDefEqProofs (disch := omega) only [simprocAttr, amset, tyset, Function.comp_apply, one1, lenV, calleeOf, lateOk, belowV, aop, AV.ofValue, AV.ofCell, AV.cells, AV.flat, AV.one, arep, aBin, aAppend, aConv])) [.cells false 2 []] rfl [3] (by decide) ⟨by simp [mkX, mkL, sumE, capG_0, ownG_0, prs_nil, h1d], by simp [mkX, mkL, sumE, capG_0, ownG_0, prs_nil, h1d]⟩ ?_)
    simp -implicitDefEqProofs (disch := omega) only [W_nil0, W_nil1, W_cap', Wc_nil0, Wc_nil1, Wc_cap', absF, absH, W_refl', W_any', W_agg, W_tup, Ws_cons, Ws_refl', Wc_refl', Wcs_cons, Wcs_nil, look, List.cons_append, List.nil_append, List.append_nil, List.length_cons, List.length_nil, Nat.zero_add, Nat.reduceAdd, AV.mv, AV.mvs, ABlk.mv, sig_new0, sig_newk, sig_lt, List.getElem?_cons_zero, List.getElem?_cons_succ, mvs_ints, mvs_bools, mvs_prs, mvs_append, cond_true, cond_false, beq_self_eq_true, Nat.reduceBEq, true_and, and_true, or_true, true_or, and_self, decide_true, Nat.add_zero, reduceCtorEq, false_or, or_false]
    repeat' (first | exact True.intro | exact Nat.add_lt_add_left (by decide) _ | exact Nat.lt_add_of_pos_right (by decide) | refine W_nils ?_ (Or.inr rfl) | refine W_nils ?_ (Or.inl rfl) | refine Wc_nils ?_ (Or.inr rfl) | refine Wc_nils ?_ (Or.inl rfl) | exact W_cap | rfl | refine And.intro ?_ ?_ | exact Or.inl rfl | exact Or.inr rfl | exact Or.inr (Or.inl rfl) | exact Or.inr (Or.inr BW.emp) | exact Or.inr BW.emp | exact BW.emp | exact Or.inr (Or.inr BW.pre) | exact Or.inr BW.pre | exact BW.pre | refine Or.inr (BW.cells ?_) | refine BW.cells ?_ | refine Or.inr (Or.inr (BW.cells ?_)) | exact Wc_cap)
set_option maxHeartbeats 4000000 in
set_option maxRecDepth 100000 in
theorem rSum_c (H : AHeap) (x1 : Int) (y1 : Int) (s : AV) (l : List (Int × Int)) (x2 : Int) (y2 : Int) (t : AV) (m : List (Int × Int)) (hs : Sl H 2 s l.length (prs l)) (ht : Sl H 2 t m.length (prs m)) (hl : l.length ≤ 1000000) (hm : m.length ≤ 1000000) : ACalls Try.prog 32 [.agg [.int .i64 x1, .int .i64 y1, s], .agg [.int .i64 x2, .int .i64 y2, t]] H (fun v H' => v = .tup [.agg [.int .i64 (mkX (sumE x1 y1 l x2 y2 m) (x1 + x2)), .int .i64 (mkX (sumE x1 y1 l x2 y2 m) (y1 + y2)), .sl (some (H.length, 0)) ((mkL (sumE x1 y1 l x2 y2 m) (canonL (l ++ m))).length) (capG (mkL (sumE x1 y1 l x2 y2 m) (canonL (l ++ m))).length)], .int .i64 (sumE x1 y1 l x2 y2 m)] ∧ H' = H ++ [.cells (ownG (mkL (sumE x1 y1 l x2 y2 m) (canonL (l ++ m))).length) 2 (prs (mkL (sumE x1 y1 l x2 y2 m) (canonL (l ++ m))))]) := by
  obtain ⟨bs, os, cs, rfl, hbs⟩ := hs
  have hbls := getElem?_lt hbs
  have hb0s := fun l => get_app (l := l) hbs
  obtain ⟨bt, ot, ct, rfl, hbt⟩ := ht
  have hblt := getElem?_lt hbt
  have hb0t := fun l => get_app (l := l) hbt
  (refine ACalls_run try_mixed Try.func32 true _ rfl (Nat.le_of_ble_eq_true (by kernel_rfl)) (by kernel_rfl) ?_; intro hbel Q hQ hQ' c hc; unfold Try.f32 at hc; simp only [Option.some.injEq] at hc; subst hc; clear hQ')
  simp -implicitDefEqProofs (disch := omega) only [hbs, hb0s, hbt, hb0t, aApp_nil, aApp_none, aApp_some, aApp_grw, simprocAttr, amset, tyset, Function.comp_apply, one1, lenV, calleeOf, lateOk, belowV, aop, AV.ofValue, AV.ofCell, AV.cells, AV.flat, AV.one, arep, aBin, aConv]
  repeat refine And.intro (by omega) ?_
  refine call_v (by kernel_rfl) (rvalid_c _ x1 y1 _ l (.inr ⟨_, _, _, rfl, by first | exact hb0s _ | exact hbs⟩) (by omega)) ?_
  simp -implicitDefEqProofs (disch := omega) only [hbs, hb0s, hbt, hb0t, aApp_nil, aApp_none, aApp_some, aApp_grw, simprocAttr, amset, tyset, Function.comp_apply, one1, lenV, calleeOf, lateOk, belowV, aop, AV.ofValue, AV.ofCell, AV.cells, AV.flat, AV.one, arep, aBin, aConv]
  repeat refine And.intro (by omega) ?_
  refine gd_split (fun h1 => ?_) (fun h1 => ?_)
  · have h1d := h1
    try simp only [Bool.not_eq_true', Bool.not_eq_false', decide_eq_true_eq, decide_eq_false_iff_not, beq_iff_eq, bne_iff_ne, ne_eq, Bool.not_eq_true, Bool.not_eq_false, beq_eq_false_iff_ne, bne_eq_false_iff_eq, Classical.not_not, Bool.and_eq_true, Bool.and_eq_false_imp] at h1d
    obtain ⟨hl16, hlB⟩ := valid_bd h1d
    have hxy1 := valid_bd3 h1d
    have hB1 : ∀ e ∈ l, Bd 4194304 e := fun e he => by have := hlB e he; unfold Bd at *; omega
    simp -implicitDefEqProofs (disch := omega) only [hbs, hb0s, hbt, hb0t, h1, h1d, aApp_nil, aApp_none, aApp_some, aApp_grw, simprocAttr, amset, tyset, Function.comp_apply, one1, lenV, calleeOf, lateOk, belowV, aop, AV.ofValue, AV.ofCell, AV.cells, AV.flat, AV.one, arep, aBin, aConv]
    repeat refine And.intro (by omega) ?_
    refine call_v (by kernel_rfl) (rvalid_c _ x2 y2 _ m (.inr ⟨_, _, _, rfl, by first | exact hb0t _ | exact hbt⟩) (by omega)) ?_
    simp -implicitDefEqProofs (disch := omega) only [hbs, hb0s, hbt, hb0t, h1, h1d, aApp_nil, aApp_none, aApp_some, aApp_grw, simprocAttr, amset, tyset, Function.comp_apply, one1, lenV, calleeOf, lateOk, belowV, aop, AV.ofValue, AV.ofCell, AV.cells, AV.flat, AV.one, arep, aBin, aConv]
    repeat refine And.intro (by omega) ?_
    refine cond_split (fun h2 => ?_) (fun h2 => ?_)
    · have h2d := h2
      try simp only [Bool.not_eq_true', Bool.not_eq_false', decide_eq_true_eq, decide_eq_false_iff_not, beq_iff_eq, bne_iff_ne, ne_eq, Bool.not_eq_true, Bool.not_eq_false, beq_eq_false_iff_ne, bne_eq_false_iff_eq, Classical.not_not, Bool.and_eq_true, Bool.and_eq_false_imp] at h2d
      simp -implicitDefEqProofs (disch := omega) only [hbs, hb0s, hbt, hb0t, h1, h1d, h2, h2d, aApp_nil, aApp_none, aApp_some, aApp_grw, simprocAttr, amset, tyset, Function.comp_apply, one1, lenV, calleeOf, lateOk, belowV, aop, AV.ofValue, AV.ofCell, AV.cells, AV.flat, AV.one, arep, aBin, aConv]
      repeat refine And.intro (by omega) ?_
      refine hQ _ _ (end_byG (.inl rfl) hbel (x1 := .tup [.agg [.int .i64 0, .int .i64 0, .sl none 0 (some 0)], .int .i64 1]) (l2 := [.cells false 2 []]) (.tup [.agg [.int .i64 0, .int .i64 0, .sl (some (H.length, 0)) 0 (some 0)], .int .i64 1]) (ret_of Try.results32 (by simp -implicitDefEqProofs (disch := omega) only [simprocAttr, amset, tyset, Function.comp_apply, one1, lenV, calleeOf, lateOk, belowV, aop, AV.ofValue, AV.ofCell, AV.cells, AV.flat, AV.one, arep, aBin, aAppend, aConv])) [.cells false 2 []] rfl [3] (by decide) ⟨by simp [mkX, mkL, sumE, capG_0, ownG_0, prs_nil, h1d, h2d], by simp [mkX, mkL, sumE, capG_0, ownG_0, prs_nil, h1d, h2d]⟩ ?_)
      simp -implicitDefEqProofs (disch := omega) only [W_nil0, W_nil1, W_cap', Wc_nil0, Wc_nil1, Wc_cap', absF, absH, W_refl', W_any', W_agg, W_tup, Ws_cons, Ws_refl', Wc_refl', Wcs_cons, Wcs_nil, look, List.cons_append, List.nil_append, List.append_nil, List.length_cons, List.length_nil, Nat.zero_add, Nat.reduceAdd, AV.mv, AV.mvs, ABlk.mv, sig_new0, sig_newk, sig_lt, List.getElem?_cons_zero, List.getElem?_cons_succ, mvs_ints, mvs_bools, mvs_prs, mvs_append, cond_true, cond_false, beq_self_eq_true, Nat.reduceBEq, true_and, and_true, or_true, true_or, and_self, decide_true, Nat.add_zero, reduceCtorEq, false_or, or_false]
      repeat' (first | exact True.intro | exact Nat.add_lt_add_left (by decide) _ | exact Nat.lt_add_of_pos_right (by decide) | refine W_nils ?_ (Or.inr rfl) | refine W_nils ?_ (Or.inl rfl) | refine Wc_nils ?_ (Or.inr rfl) | refine Wc_nils ?_ (Or.inl rfl) | exact W_cap | rfl | refine And.intro ?_ ?_ | exact Or.inl rfl | exact Or.inr rfl | exact Or.inr (Or.inl rfl) | exact Or.inr (Or.inr BW.emp) | exact Or.inr BW.emp | exact BW.emp | exact Or.inr (Or.inr BW.pre) | exact Or.inr BW.pre | exact BW.pre | refine Or.inr (BW.cells ?_) | refine BW.cells ?_ | refine Or.inr (Or.inr (BW.cells ?_)) | exact Wc_cap)
    · have h2d := h2
      try simp only [Bool.not_eq_true', Bool.not_eq_false', decide_eq_true_eq, decide_eq_false_iff_not, beq_iff_eq, bne_iff_ne, ne_eq, Bool.not_eq_true, Bool.not_eq_false, beq_eq_false_iff_ne, bne_eq_false_iff_eq, Classical.not_not, Bool.and_eq_true, Bool.and_eq_false_imp] at h2d
      obtain ⟨hm16, hmB⟩ := valid_bd h2d
      have hxy2 := valid_bd3 h2d
      have hB2 : ∀ e ∈ m, Bd 4194304 e := fun e he => by have := hmB e he; unfold Bd at *; omega
      have hll : (l ++ m).length = l.length + m.length := List.length_append
      have hcl := canonL_len (l ++ m)
      have hBB : ∀ e ∈ l ++ m, Bd 4194304 e := fun e he => by rcases List.mem_append.1 he with h | h; exact hB1 e h; exact hB2 e h
      simp -implicitDefEqProofs (disch := omega) only [hbs, hb0s, hbt, hb0t, h1, h1d, h2, h2d, aApp_nil, aApp_none, aApp_some, aApp_grw, simprocAttr, amset, tyset, Function.comp_apply, one1, lenV, calleeOf, lateOk, belowV, aop, AV.ofValue, AV.ofCell, AV.cells, AV.flat, AV.one, arep, aBin, aConv]
      repeat refine And.intro (by omega) ?_
      refine call_v (by kernel_rfl) (plus_c _ x1 y1 x2 y2 _ _ l m ⟨_, _, _, rfl, by first | exact hb0s _ | exact hbs⟩ ⟨_, _, _, rfl, by first | exact hb0t _ | exact hbt⟩ (by omega) (by assumption) (by assumption) (by omega) (by omega)) ?_
      simp -implicitDefEqProofs (disch := omega) only [hbs, hb0s, hbt, hb0t, h1, h1d, h2, h2d, aApp_nil, aApp_none, aApp_some, aApp_grw, simprocAttr, amset, tyset, Function.comp_apply, one1, lenV, calleeOf, lateOk, belowV, aop, AV.ofValue, AV.ofCell, AV.cells, AV.flat, AV.one, arep, aBin, aConv]
      repeat refine And.intro (by omega) ?_
      refine call_v (by kernel_rfl) (rvalid_c _ (x1 + x2) (y1 + y2) _ (canonL (l ++ m)) (.inr ⟨_, _, _, by first | rfl | (rw [List.length_append]; done) | (rw [List.length_append]; rfl), by first | rfl | (rw [get_newk]; rfl) | (rw [get_new0]; rfl) | (rw [get_newk, prs_append]; rfl) | (rw [get_new0, prs_append]; rfl)⟩) (by omega)) ?_
      simp -implicitDefEqProofs (disch := omega) only [hbs, hb0s, hbt, hb0t, h1, h1d, h2, h2d, aApp_nil, aApp_none, aApp_some, aApp_grw, simprocAttr, amset, tyset, Function.comp_apply, one1, lenV, calleeOf, lateOk, belowV, aop, AV.ofValue, AV.ofCell, AV.cells, AV.flat, AV.one, arep, aBin, aConv]
      repeat refine And.intro (by omega) ?_
      refine cond_split (fun h3 => ?_) (fun h3 => ?_)
      · have h3d := h3
        try simp only [Bool.not_eq_true', Bool.not_eq_false', decide_eq_true_eq, decide_eq_false_iff_not, beq_iff_eq, bne_iff_ne, ne_eq, Bool.not_eq_true, Bool.not_eq_false, beq_eq_false_iff_ne, bne_eq_false_iff_eq, Classical.not_not, Bool.and_eq_true, Bool.and_eq_false_imp] at h3d
        simp -implicitDefEqProofs (disch := omega) only [hbs, hb0s, hbt, hb0t, h1, h1d, h2, h2d, h3, h3d, aApp_nil, aApp_none, aApp_some, aApp_grw, simprocAttr, amset, tyset, Function.comp_apply, one1, lenV, calleeOf, lateOk, belowV, aop, AV.ofValue, AV.ofCell, AV.cells, AV.flat, AV.one, arep, aBin, aConv]
        repeat refine And.intro (by omega) ?_
        refine hQ _ _ (end_byG (.inl rfl) hbel (x1 := .tup [.agg [.int .i64 0, .int .i64 0, .sl none 0 (some 0)], .int .i64 6]) (l2 := [.cells false 2 []]) (.tup [.agg [.int .i64 0, .int .i64 0, .sl (some (H.length, 0)) 0 (some 0)], .int .i64 6]) (ret_of Try.results32 (by simp -implicitDefEqProofs (disch := omega) only [simprocAttr, amset, tyset, Function.comp_apply, one1, lenV, calleeOf, lateOk, belowV, aop, AV.ofValue, AV.ofCell, AV.cells, AV.flat, AV.one, arep, aBin, aAppend, aConv])) [.cells false 2 []] rfl [5] (by decide) ⟨by simp [mkX, mkL, sumE, capG_0, ownG_0, prs_nil, h1d, h2d, h3d], by simp [mkX, mkL, sumE, capG_0, ownG_0, prs_nil, h1d, h2d, h3d]⟩ ?_)
        simp -implicitDefEqProofs (disch := omega) only [W_nil0, W_nil1, W_cap', Wc_nil0, Wc_nil1, Wc_cap', absF, absH, W_refl', W_any', W_agg, W_tup, Ws_cons, Ws_refl', Wc_refl', Wcs_cons, Wcs_nil, look, List.cons_append, List.nil_append, List.append_nil, List.length_cons, List.length_nil, Nat.zero_add, Nat.reduceAdd, AV.mv, AV.mvs, ABlk.mv, sig_new0, sig_newk, sig_lt, List.getElem?_cons_zero, List.getElem?_cons_succ, mvs_ints, mvs_bools, mvs_prs, mvs_append, cond_true, cond_false, beq_self_eq_true, Nat.reduceBEq, true_and, and_true, or_true, true_or, and_self, decide_true, Nat.add_zero, reduceCtorEq, false_or, or_false]
        repeat' (first | exact True.intro | exact Nat.add_lt_add_left (by decide) _ | exact Nat.lt_add_of_pos_right (by decide) | refine W_nils ?_ (Or.inr rfl) | refine W_nils ?_ (Or.inl rfl) | refine Wc_nils ?_ (Or.inr rfl) | refine Wc_nils ?_ (Or.inl rfl) | exact W_cap | rfl | refine And.intro ?_ ?_ | exact Or.inl rfl | exact Or.inr rfl | exact Or.inr (Or.inl rfl) | exact Or.inr (Or.inr BW.emp) | exact Or.inr BW.emp | exact BW.emp | exact Or.inr (Or.inr BW.pre) | exact Or.inr BW.pre | exact BW.pre | refine Or.inr (BW.cells ?_) | refine BW.cells ?_ | refine Or.inr (Or.inr (BW.cells ?_)) | exact Wc_cap)
      · have h3d := h3
        try simp only [Bool.not_eq_true', Bool.not_eq_false', decide_eq_true_eq, decide_eq_false_iff_not, beq_iff_eq, bne_iff_ne, ne_eq, Bool.not_eq_true, Bool.not_eq_false, beq_eq_false_iff_ne, bne_eq_false_iff_eq, Classical.not_not, Bool.and_eq_true, Bool.and_eq_false_imp] at h3d
        simp -implicitDefEqProofs (disch := omega) only [hbs, hb0s, hbt, hb0t, h1, h1d, h2, h2d, h3, h3d, aApp_nil, aApp_none, aApp_some, aApp_grw, simprocAttr, amset, tyset, Function.comp_apply, one1, lenV, calleeOf, lateOk, belowV, aop, AV.ofValue, AV.ofCell, AV.cells, AV.flat, AV.one, arep, aBin, aConv]
        repeat refine And.intro (by omega) ?_
        refine hQ _ _ (end_byG (.inl rfl) hbel (x1 := .tup [.agg [.int .i64 (x1 + x2), .int .i64 (y1 + y2), .sl (some (H.length + 3, 0)) ((canonL (l ++ m)).length) (capG (canonL (l ++ m)).length)], .int .i64 0]) (l2 := [.cells (ownG (canonL (l ++ m)).length) 2 (prs (canonL (l ++ m)))]) (.tup [.agg [.int .i64 (x1 + x2), .int .i64 (y1 + y2), .sl (some (H.length, 0)) ((canonL (l ++ m)).length) (capG (canonL (l ++ m)).length)], .int .i64 0]) (ret_of Try.results32 (by simp -implicitDefEqProofs (disch := omega) only [simprocAttr, amset, tyset, Function.comp_apply, one1, lenV, calleeOf, lateOk, belowV, aop, AV.ofValue, AV.ofCell, AV.cells, AV.flat, AV.one, arep, aBin, aAppend, aConv])) [] rfl [3] (by decide) ⟨by simp [mkX, mkL, sumE, capG_0, ownG_0, prs_nil, h1d, h2d, h3d], by simp [mkX, mkL, sumE, capG_0, ownG_0, prs_nil, h1d, h2d, h3d]⟩ ?_)
        simp -implicitDefEqProofs (disch := omega) only [W_nil0, W_nil1, W_cap', Wc_nil0, Wc_nil1, Wc_cap', absF, absH, W_refl', W_any', W_agg, W_tup, Ws_cons, Ws_refl', Wc_refl', Wcs_cons, Wcs_nil, look, List.cons_append, List.nil_append, List.append_nil, List.length_cons, List.length_nil, Nat.zero_add, Nat.reduceAdd, AV.mv, AV.mvs, ABlk.mv, sig_new0, sig_newk, sig_lt, List.getElem?_cons_zero, List.getElem?_cons_succ, mvs_ints, mvs_bools, mvs_prs, mvs_append, cond_true, cond_false, beq_self_eq_true, Nat.reduceBEq, true_and, and_true, or_true, true_or, and_self, decide_true, Nat.add_zero, reduceCtorEq, false_or, or_false]
        repeat' (first | exact True.intro | exact Nat.add_lt_add_left (by decide) _ | exact Nat.lt_add_of_pos_right (by decide) | refine W_nils ?_ (Or.inr rfl) | refine W_nils ?_ (Or.inl rfl) | refine Wc_nils ?_ (Or.inr rfl) | refine Wc_nils ?_ (Or.inl rfl) | exact W_cap | rfl | refine And.intro ?_ ?_ | exact Or.inl rfl | exact Or.inr rfl | exact Or.inr (Or.inl rfl) | exact Or.inr (Or.inr BW.emp) | exact Or.inr BW.emp | exact BW.emp | exact Or.inr (Or.inr BW.pre) | exact Or.inr BW.pre | exact BW.pre | refine Or.inr (BW.cells ?_) | refine BW.cells ?_ | refine Or.inr (Or.inr (BW.cells ?_)) | exact Wc_cap)
  · have h1d := h1
    try simp only [Bool.not_eq_true', Bool.not_eq_false', decide_eq_true_eq, decide_eq_false_iff_not, beq_iff_eq, bne_iff_ne, ne_eq, Bool.not_eq_true, Bool.not_eq_false, beq_eq_false_iff_ne, bne_eq_false_iff_eq, Classical.not_not, Bool.and_eq_true, Bool.and_eq_false_imp] at h1d
    simp -implicitDefEqProofs (disch := omega) only [hbs, hb0s, hbt, hb0t, h1, h1d, aApp_nil, aApp_none, aApp_some, aApp_grw, simprocAttr, amset, tyset, Function.comp_apply, one1, lenV, calleeOf, lateOk, belowV, aop, AV.ofValue, AV.ofCell, AV.cells, AV.flat, AV.one, arep, aBin, aConv]
    repeat refine And.intro (by omega) ?_
    refine hQ _ _ (end_byG (.inl rfl) hbel (x1 := .tup [.agg [.int .i64 0, .int .i64 0, .sl none 0 (some 0)], .int .i64 1]) (l2 := [.cells false 2 []]) (.tup [.agg [.int .i64 0, .int .i64 0, .sl (some (H.length, 0)) 0 (some 0)], .int .i64 1]) (ret_of Try.results32 (by simp -implicitDefEqProofs (disch := omega) only [simprocAttr, amset, tyset, Function.comp_apply, one1, lenV, calleeOf, lateOk, belowV, aop, AV.ofValue, AV.ofCell, AV.cells, AV.flat, AV.one, arep, aBin, aAppend, aConv])) [.cells false 2 []] rfl [3] (by decide) ⟨by simp [mkX, mkL, sumE, capG_0, ownG_0, prs_nil, h1d], by simp [mkX, mkL, sumE, capG_0, ownG_0, prs_nil, h1d]⟩ ?_)
    simp -implicitDefEqProofs (disch := omega) only [W_nil0, W_nil1, W_cap', Wc_nil0, Wc_nil1, Wc_cap', absF, absH, W_refl', W_any', W_agg, W_tup, Ws_cons, Ws_refl', Wc_refl', Wcs_cons, Wcs_nil, look, List.cons_append, List.nil_append, List.append_nil, List.length_cons, List.length_nil, Nat.zero_add, Nat.reduceAdd, AV.mv, AV.mvs, ABlk.mv, sig_new0, sig_newk, sig_lt, List.getElem?_cons_zero, List.getElem?_cons_succ, mvs_ints, mvs_bools, mvs_prs, mvs_append, cond_true, cond_false, beq_self_eq_true, Nat.reduceBEq, true_and, and_true, or_true, true_or, and_self, decide_true, Nat.add_zero, reduceCtorEq, false_or, or_false]
    repeat' (first | exact True.intro | exact Nat.add_lt_add_left (by decide) _ | exact Nat.lt_add_of_pos_right (by decide) | refine W_nils ?_ (Or.inr rfl) | refine W_nils ?_ (Or.inl rfl) | refine Wc_nils ?_ (Or.inr rfl) | refine Wc_nils ?_ (Or.inl rfl) | exact W_cap | rfl | refine And.intro ?_ ?_ | exact Or.inl rfl | exact Or.inr rfl | exact Or.inr (Or.inl rfl) | exact Or.inr (Or.inr BW.emp) | exact Or.inr BW.emp | exact BW.emp | exact Or.inr (Or.inr BW.pre) | exact Or.inr BW.pre | exact BW.pre | refine Or.inr (BW.cells ?_) | refine BW.cells ?_ | refine Or.inr (Or.inr (BW.cells ?_)) | exact Wc_cap)
end Go.Proofs.Ytjfnbcifafmefaa

/- Plain laws of zonogons apart from rectangles. Conditions: as each theorem states. -/
namespace Go.Proofs.Ytjfnbcifafmefaa
set_option linter.unusedSimpArgs false
set_option linter.unusedVariables false
open Go.RowKit
theorem mem_spr {n : Pt} : ∀ {L : List Pt} {e : Pt}, e ∈ L → absI (dotP n e) ≤ spr n L
  | [], _, h => by cases h
  | g :: l, e, h => by
    rw [spr_cons]
    have h0 := spr_nn n l
    have h1 := absI_nn (dotP n g)
    rcases List.mem_cons.1 h with rfl | h
    · omega
    · have := mem_spr (n := n) h; omega
theorem canon_in {A : List Pt} {M : Int} (h1 : spr (1, 0) A ≤ M) (h2 : spr (0, 1) A ≤ M) : ∀ e ∈ canonL A, Bd M e := fun e he => by
  have a1 := mem_spr (n := (1, 0)) he
  have a2 := mem_spr (n := (0, 1)) he
  rw [spr_canon, absI_le] at a1 a2
  unfold dotP at a1 a2
  unfold Bd
  simp only at a1 a2
  omega
theorem cor_inA {x y M : Int} {A : List Pt} (h1 : spr (1, 0) A ≤ M) (h2 : spr (0, 1) A ≤ M) {N : Int} (hx : -N ≤ x ∧ x ≤ N) (hy : -N ≤ y ∧ y ≤ N) : ∀ e ∈ corR x y (canonL A), Bd (M + N) e := fun e he => by
  obtain ⟨i, hi, rfl⟩ := List.getElem_of_mem he
  rw [corR_len] at hi
  have h := inZ_canon.1 (cor_in x y (canonL A) hi)
  rw [gp_eq (by rw [corR_len]; exact hi)] at h
  have a1 := h.abs (1, 0)
  have a2 := h.abs (0, 1)
  rw [absI_le] at a1 a2
  unfold dotP psub at a1 a2
  unfold Bd
  simp only at a1 a2
  omega
def rR (x0 y0 x1 y1 : Int) : List Pt := [(0 - x0 - (0 - x1), 0), (0, 0 - y0 - (0 - y1))]
theorem rR_eq (x0 y0 x1 y1 : Int) : rR x0 y0 x1 y1 = [(x1 - x0, 0), (0, y1 - y0)] := by
  unfold rR
  rw [show 0 - x0 - (0 - x1) = x1 - x0 by omega, show 0 - y0 - (0 - y1) = y1 - y0 by omega]
theorem rR_spr {x0 y0 x1 y1 : Int} (hx : x0 ≤ x1) (hy : y0 ≤ y1) : spr (1, 0) (rR x0 y0 x1 y1) = x1 - x0 ∧ spr (0, 1) (rR x0 y0 x1 y1) = y1 - y0 := by
  rw [rR_eq]
  simp only [spr, dotP]
  unfold absI
  refine ⟨?_, ?_⟩ <;> (split <;> split <;> omega)
abbrev aA (l : List Pt) (x0 y0 x1 y1 : Int) : List Pt := l ++ canonL (rR x0 y0 x1 y1)
theorem aA_spr {l : List Pt} (n : Pt) (x0 y0 x1 y1 : Int) : spr n (aA l x0 y0 x1 y1) = spr n l + spr n (rR x0 y0 x1 y1) := by rw [spr_app, spr_canon]
/-- The corners of the sum with the mirrored rectangle. -/
abbrev aC (x y : Int) (l : List Pt) (x0 y0 x1 y1 : Int) : List Pt := corR (x + (0 - x1 + (0 - x0))) (y + (0 - y1 + (0 - y0))) (canonL (aA l x0 y0 x1 y1))
def rapB (x y : Int) (l : List Pt) (x0 y0 x1 y1 : Int) : Bool := validB x y l && (ordR x0 y0 x1 y1 && !inR (aC x y l x0 y0 x1 y1) (0, 0) (aC x y l x0 y0 x1 y1).length)
theorem rap_facts {x y : Int} {l : List Pt} {x0 y0 x1 y1 : Int} (hv : validB x y l = true) (ho : ordR x0 y0 x1 y1 = true) :
    (canonL (rR x0 y0 x1 y1)).length ≤ 2 ∧ (∀ e ∈ canonL (rR x0 y0 x1 y1), Bd 4194304 e) ∧ (canonL (aA l x0 y0 x1 y1)).length ≤ 18 ∧ (∀ e ∈ canonL (aA l x0 y0 x1 y1), Bd 134217728 e) ∧ (∀ e ∈ aC x y l x0 y0 x1 y1, Bd 60000000 e) ∧ (aC x y l x0 y0 x1 y1).length ≤ 40 := by
  obtain ⟨hl16, hlB⟩ := valid_bd hv
  have hxy := valid_bd3 hv
  simp only [ordR, Bool.and_eq_true, decide_eq_true_eq] at ho
  have hf := far4_bd ho.2.2
  obtain ⟨s1, s2⟩ := rR_spr ho.1 ho.2.1
  have b1 := spr_axis (.inl rfl) l hlB
  have b2 := spr_axis (.inr rfl) l hlB
  have c1 := canonL_len (rR x0 y0 x1 y1)
  have c2 := canonL_len (aA l x0 y0 x1 y1)
  have c3 : (aA l x0 y0 x1 y1).length = l.length + (canonL (rR x0 y0 x1 y1)).length := List.length_append
  have c4 : (rR x0 y0 x1 y1).length = 2 := rfl
  have t1 : spr (1, 0) (aA l x0 y0 x1 y1) ≤ 5242880 := by rw [aA_spr]; omega
  have t2 : spr (0, 1) (aA l x0 y0 x1 y1) ≤ 5242880 := by rw [aA_spr]; omega
  refine ⟨by omega, canon_in (by omega) (by omega), by omega, fun e he => ?_, fun e he => ?_, ?_⟩
  · have := canon_in t1 t2 e he; unfold Bd at *; omega
  · have := cor_inA t1 t2 (N := 20000000) (by omega) (by omega) e he; unfold Bd at *; omega
  · rw [corR_len]; omega
theorem rap_eq {x y : Int} {l : List Pt} {x0 y0 x1 y1 : Int} : rapB x y l x0 y0 x1 y1 = apartB x y l x0 y0 x1 y1 := by
  rw [Bool.eq_iff_iff, apartB_iff]
  unfold rapB ordR
  simp only [Bool.and_eq_true, decide_eq_true_eq, Bool.not_eq_true', ← Bool.not_eq_true]
  have hc := canonL_can (aA l x0 y0 x1 y1)
  rw [in_iff hc.sorted hc.ups, inZ_canon]
  have e : psub (0, 0) (x + (0 - x1 + (0 - x0)), y + (0 - y1 + (0 - y0))) = (x0 + x1 - x, y0 + y1 - y) := by unfold psub; simp only [Prod.mk.injEq]; omega
  have k : inZ (aA l x0 y0 x1 y1) (x0 + x1 - x, y0 + y1 - y) ↔ inZ (l ++ [(x1 - x0, 0), (0, y1 - y0)]) (x0 + x1 - x, y0 + y1 - y) := by
    unfold inZ
    simp only [aA_spr, spr_app, rR_eq, spr_canon]
  rw [e, k]
  constructor
  · rintro ⟨a, ⟨b, c, d⟩, f⟩; exact ⟨a, d, ⟨b, c⟩, f⟩
  · rintro ⟨a, d, ⟨b, c⟩, f⟩; exact ⟨a, ⟨b, c, d⟩, f⟩
theorem apart_pt {x y : Int} {l : List Pt} {a b : Int} (hv : validB x y l = true) (ha : within a 2097152 = true) (hb : within b 2097152 = true) : apartB x y l a b a b = !hasB x y l (2 * a) (2 * b) := by
  have k : inZ (l ++ [(a - a, 0), (0, b - b)]) (a + a - x, b + b - y) ↔ inZ l (2 * a - x, 2 * b - y) := by
    unfold inZ
    have e : ∀ n : Pt, spr n (l ++ [(a - a, 0), (0, b - b)]) = spr n l := fun n => by
      rw [spr_app]
      have : spr n [(a - a, 0), (0, b - b)] = 0 := by
        rw [Int.sub_self, Int.sub_self]
        show absI (dotP n (0, 0)) + (absI (dotP n (0, 0)) + 0) = 0
        rw [dotP_zero]; rfl
      omega
    simp only [e, show a + a = 2 * a by omega, show b + b = 2 * b by omega]
  have h1 := apartB_iff (x := x) (y := y) (l := l) (x0 := a) (y0 := b) (x1 := a) (y1 := b)
  have h2 := hasB_iff (x := x) (y := y) (l := l) (x2 := 2 * a) (y2 := 2 * b)
  rw [k] at h1
  have f : far4 a b a b = true := by unfold far4; rw [ha, hb]; rfl
  rw [within_iff] at ha hb
  rw [within_iff, within_iff] at h2
  cases hA : apartB x y l a b a b <;> cases hH : hasB x y l (2 * a) (2 * b) <;> simp only [hA, hH, Bool.not_true, Bool.not_false] at *
  · exfalso
    have n1 : ¬ inZ l (2 * a - x, 2 * b - y) := fun h => by have := h2.2 ⟨hv, by omega, by omega, h⟩; cases this
    have := h1.2 ⟨hv, f, ⟨Int.le_refl _, Int.le_refl _⟩, n1⟩
    cases this
  · exfalso; exact (h1.1 trivial).2.2.2 (h2.1 trivial).2.2.2
end Go.Proofs.Ytjfnbcifafmefaa

/- Walks by the abstract machine: Apart of the reference. Conditions: as each theorem states. -/
namespace Go.Proofs.Ytjfnbcifafmefaa
set_option linter.unusedSimpArgs false
set_option linter.unusedVariables false
open Go.RowKit
set_option maxHeartbeats 4000000 in
set_option maxRecDepth 100000 in
theorem rapart_c (H : AHeap) (x : Int) (y : Int) (s : AV) (l : List (Int × Int)) (x0 : Int) (y0 : Int) (x1 : Int) (y1 : Int) (hs : Sl H 2 s l.length (prs l)) (hl : l.length ≤ 1000000) : ACalls Try.prog 41 [.agg [.int .i64 x, .int .i64 y, s], .agg [.int .i64 x0, .int .i64 y0, .int .i64 x1, .int .i64 y1]] H (fun v H' => v = .bool (rapB x y l x0 y0 x1 y1) ∧ H' = H) := by
  obtain ⟨bs, os, cs, rfl, hbs⟩ := hs
  have hbls := getElem?_lt hbs
  have hb0s := fun l => get_app (l := l) hbs
  (refine ACalls_run try_mixed Try.func41 true _ rfl (Nat.le_of_ble_eq_true (by kernel_rfl)) (by kernel_rfl) ?_; intro hbel Q hQ hQ' c hc; unfold Try.f41 at hc; simp only [Option.some.injEq] at hc; subst hc; clear hQ')
  simp -implicitDefEqProofs (disch := omega) only [hbs, hb0s, aApp_nil, aApp_none, aApp_some, aApp_grw, simprocAttr, amset, tyset, Function.comp_apply, one1, lenV, calleeOf, lateOk, belowV, aop, AV.ofValue, AV.ofCell, AV.cells, AV.flat, AV.one, arep, aBin, aConv]
  repeat refine And.intro (by omega) ?_
  refine call_v (by kernel_rfl) (rvalid_c _ x y _ l (.inr ⟨_, _, _, rfl, by first | exact hb0s _ | exact hbs⟩) (by omega)) ?_
  simp -implicitDefEqProofs (disch := omega) only [hbs, hb0s, aApp_nil, aApp_none, aApp_some, aApp_grw, simprocAttr, amset, tyset, Function.comp_apply, one1, lenV, calleeOf, lateOk, belowV, aop, AV.ofValue, AV.ofCell, AV.cells, AV.flat, AV.one, arep, aBin, aConv]
  repeat refine And.intro (by omega) ?_
  refine gd_split (fun h1 => ?_) (fun h1 => ?_)
  · have h1d := h1
    try simp only [Bool.not_eq_true', Bool.not_eq_false', decide_eq_true_eq, decide_eq_false_iff_not, beq_iff_eq, bne_iff_ne, ne_eq, Bool.not_eq_true, Bool.not_eq_false, beq_eq_false_iff_ne, bne_eq_false_iff_eq, Classical.not_not, Bool.and_eq_true, Bool.and_eq_false_imp] at h1d
    have hxy := valid_bd3 h1d
    have hv0 := h1d
    obtain ⟨hl16, hlB⟩ := valid_bd h1d
    have hB4 : ∀ e ∈ l, Bd 4194304 e := fun e he => by have := hlB e he; unfold Bd at *; omega
    simp -implicitDefEqProofs (disch := omega) only [hbs, hb0s, h1, h1d, aApp_nil, aApp_none, aApp_some, aApp_grw, simprocAttr, amset, tyset, Function.comp_apply, one1, lenV, calleeOf, lateOk, belowV, aop, AV.ofValue, AV.ofCell, AV.cells, AV.flat, AV.one, arep, aBin, aConv]
    repeat refine And.intro (by omega) ?_
    refine call_v (by kernel_rfl) (ordered_c _ x0 y0 x1 y1) ?_
    simp -implicitDefEqProofs (disch := omega) only [hbs, hb0s, h1, h1d, aApp_nil, aApp_none, aApp_some, aApp_grw, simprocAttr, amset, tyset, Function.comp_apply, one1, lenV, calleeOf, lateOk, belowV, aop, AV.ofValue, AV.ofCell, AV.cells, AV.flat, AV.one, arep, aBin, aConv]
    repeat refine And.intro (by omega) ?_
    refine cond_split (fun h2 => ?_) (fun h2 => ?_)
    · have h2d := h2
      try simp only [Bool.not_eq_true', Bool.not_eq_false', decide_eq_true_eq, decide_eq_false_iff_not, beq_iff_eq, bne_iff_ne, ne_eq, Bool.not_eq_true, Bool.not_eq_false, beq_eq_false_iff_ne, bne_eq_false_iff_eq, Classical.not_not, Bool.and_eq_true, Bool.and_eq_false_imp] at h2d
      simp -implicitDefEqProofs (disch := omega) only [hbs, hb0s, h1, h1d, h2, h2d, aApp_nil, aApp_none, aApp_some, aApp_grw, simprocAttr, amset, tyset, Function.comp_apply, one1, lenV, calleeOf, lateOk, belowV, aop, AV.ofValue, AV.ofCell, AV.cells, AV.flat, AV.one, arep, aBin, aConv]
      repeat refine And.intro (by omega) ?_
      exact hQ _ _ (end_plain (.inl rfl) hbel (x := .bool false) (ret_of Try.results41 (by simp -implicitDefEqProofs (disch := omega) only [simprocAttr, amset, tyset, Function.comp_apply, one1, lenV, calleeOf, lateOk, belowV, aop, AV.ofValue, AV.ofCell, AV.cells, AV.flat, AV.one, arep, aBin, aAppend, aConv])) rfl ⟨by simp [rapB, h1d, h2d], rfl⟩)
    · have h2d := h2
      try simp only [Bool.not_eq_true', Bool.not_eq_false', decide_eq_true_eq, decide_eq_false_iff_not, beq_iff_eq, bne_iff_ne, ne_eq, Bool.not_eq_true, Bool.not_eq_false, beq_eq_false_iff_ne, bne_eq_false_iff_eq, Classical.not_not, Bool.and_eq_true, Bool.and_eq_false_imp] at h2d
      obtain ⟨r1, r2, r3, r4, r5, r6⟩ := rap_facts hv0 h2d
      have hord := h2d
      simp only [ordR, Bool.and_eq_true, decide_eq_true_eq] at hord
      have hfar := far4_bd hord.2.2
      have hfar2 : (-2097152 ≤ 0 - x1 ∧ 0 - x1 ≤ 2097152) ∧ (-2097152 ≤ 0 - y1 ∧ 0 - y1 ≤ 2097152) ∧ (-2097152 ≤ 0 - x0 ∧ 0 - x0 ≤ 2097152) ∧ (-2097152 ≤ 0 - y0 ∧ 0 - y0 ≤ 2097152) := by omega
      simp -implicitDefEqProofs (disch := omega) only [hbs, hb0s, h1, h1d, h2, h2d, aApp_nil, aApp_none, aApp_some, aApp_grw, simprocAttr, amset, tyset, Function.comp_apply, one1, lenV, calleeOf, lateOk, belowV, aop, AV.ofValue, AV.ofCell, AV.cells, AV.flat, AV.one, arep, aBin, aConv]
      repeat refine And.intro (by omega) ?_
      refine call_v (by kernel_rfl) (rrect_c _ (0 - x1) (0 - y1) (0 - x0) (0 - y0) (by assumption)) ?_
      simp -implicitDefEqProofs (disch := omega) only [hbs, hb0s, h1, h1d, h2, h2d, aApp_nil, aApp_none, aApp_some, aApp_grw, simprocAttr, amset, tyset, Function.comp_apply, one1, lenV, calleeOf, lateOk, belowV, aop, AV.ofValue, AV.ofCell, AV.cells, AV.flat, AV.one, arep, aBin, aConv]
      repeat refine And.intro (by omega) ?_
      refine call_v (by kernel_rfl) (plus_c _ x y ((0 - x1) + (0 - x0)) ((0 - y1) + (0 - y0)) _ _ l (canonL (rR x0 y0 x1 y1)) ⟨_, _, _, rfl, by first | exact hb0s _ | exact hbs⟩ ⟨_, _, _, by first | rfl | (rw [List.length_append]; done) | (rw [List.length_append]; rfl), by first | rfl | (rw [get_newk]; rfl) | (rw [get_new0]; rfl) | (rw [get_newk, prs_append]; rfl) | (rw [get_new0, prs_append]; rfl)⟩ (by omega) (by assumption) (by assumption) (by omega) (by omega)) ?_
      simp -implicitDefEqProofs (disch := omega) only [hbs, hb0s, h1, h1d, h2, h2d, aApp_nil, aApp_none, aApp_some, aApp_grw, simprocAttr, amset, tyset, Function.comp_apply, one1, lenV, calleeOf, lateOk, belowV, aop, AV.ofValue, AV.ofCell, AV.cells, AV.flat, AV.one, arep, aBin, aConv]
      repeat refine And.intro (by omega) ?_
      refine call_v (by kernel_rfl) (rcorners_c _ (x + ((0 - x1) + (0 - x0))) (y + ((0 - y1) + (0 - y0))) _ (canonL (aA l x0 y0 x1 y1)) ⟨_, _, _, by first | rfl | (rw [List.length_append]; done) | (rw [List.length_append]; rfl), by first | rfl | (rw [get_newk]; rfl) | (rw [get_new0]; rfl) | (rw [get_newk, prs_append]; rfl) | (rw [get_new0, prs_append]; rfl)⟩ (by first | omega | (simp only [List.length_cons, List.length_nil]; omega) | exact Nat.le_trans (mkL_len _ _) (by first | omega | simp) | exact Nat.le_trans (vL_len _ _) (by first | omega | simp) | exact Nat.le_trans corV_len (by omega) | exact Nat.le_trans (canonL_len _) (by first | omega | simp)) (by assumption) (by omega)) ?_
      simp -implicitDefEqProofs (disch := omega) only [hbs, hb0s, h1, h1d, h2, h2d, aApp_nil, aApp_none, aApp_some, aApp_grw, simprocAttr, amset, tyset, Function.comp_apply, one1, lenV, calleeOf, lateOk, belowV, aop, AV.ofValue, AV.ofCell, AV.cells, AV.flat, AV.one, arep, aBin, aConv]
      repeat refine And.intro (by omega) ?_
      refine call_v (by kernel_rfl) (rin_c _ _ (aC x y l x0 y0 x1 y1) 0 0 ⟨_, _, _, by first | rfl | (rw [List.length_append]; done) | (rw [List.length_append]; rfl), by first | rfl | (rw [get_newk]; rfl) | (rw [get_new0]; rfl) | (rw [get_newk, prs_append]; rfl) | (rw [get_new0, prs_append]; rfl)⟩ (by first | omega | (simp only [List.length_cons, List.length_nil]; omega) | exact Nat.le_trans (mkL_len _ _) (by first | omega | simp) | exact Nat.le_trans (vL_len _ _) (by first | omega | simp) | exact Nat.le_trans corV_len (by omega) | exact Nat.le_trans (canonL_len _) (by first | omega | simp)) (by assumption) (by omega)) ?_
      simp -implicitDefEqProofs (disch := omega) only [hbs, hb0s, h1, h1d, h2, h2d, aApp_nil, aApp_none, aApp_some, aApp_grw, simprocAttr, amset, tyset, Function.comp_apply, one1, lenV, calleeOf, lateOk, belowV, aop, AV.ofValue, AV.ofCell, AV.cells, AV.flat, AV.one, arep, aBin, aConv]
      repeat refine And.intro (by omega) ?_
      exact hQ _ _ (end_plain (.inl rfl) hbel (x := .bool (!(inR (aC x y l x0 y0 x1 y1) (0, 0) (aC x y l x0 y0 x1 y1).length))) (ret_of Try.results41 (by simp -implicitDefEqProofs (disch := omega) only [simprocAttr, amset, tyset, Function.comp_apply, one1, lenV, calleeOf, lateOk, belowV, aop, AV.ofValue, AV.ofCell, AV.cells, AV.flat, AV.one, arep, aBin, aAppend, aConv])) rfl ⟨by simp [rapB, h1d, h2d], rfl⟩)
  · have h1d := h1
    try simp only [Bool.not_eq_true', Bool.not_eq_false', decide_eq_true_eq, decide_eq_false_iff_not, beq_iff_eq, bne_iff_ne, ne_eq, Bool.not_eq_true, Bool.not_eq_false, beq_eq_false_iff_ne, bne_eq_false_iff_eq, Classical.not_not, Bool.and_eq_true, Bool.and_eq_false_imp] at h1d
    simp -implicitDefEqProofs (disch := omega) only [hbs, hb0s, h1, h1d, aApp_nil, aApp_none, aApp_some, aApp_grw, simprocAttr, amset, tyset, Function.comp_apply, one1, lenV, calleeOf, lateOk, belowV, aop, AV.ofValue, AV.ofCell, AV.cells, AV.flat, AV.one, arep, aBin, aConv]
    repeat refine And.intro (by omega) ?_
    exact hQ _ _ (end_plain (.inl rfl) hbel (x := .bool false) (ret_of Try.results41 (by simp -implicitDefEqProofs (disch := omega) only [simprocAttr, amset, tyset, Function.comp_apply, one1, lenV, calleeOf, lateOk, belowV, aop, AV.ofValue, AV.ofCell, AV.cells, AV.flat, AV.one, arep, aBin, aAppend, aConv])) rfl ⟨by simp [rapB, h1d], rfl⟩)
theorem rapart_a (H : AHeap) (x : Int) (y : Int) (s : AV) (l : List (Int × Int)) (x0 : Int) (y0 : Int) (x1 : Int) (y1 : Int) (hs : Sl H 2 s l.length (prs l)) (hl : l.length ≤ 1000000) : ACalls Try.prog 41 [.agg [.int .i64 x, .int .i64 y, s], .agg [.int .i64 x0, .int .i64 y0, .int .i64 x1, .int .i64 y1]] H (fun v H' => v = .bool (apartB x y l x0 y0 x1 y1) ∧ H' = H) := by
  have h := rapart_c H x y s l x0 y0 x1 y1 hs hl
  rwa [rap_eq] at h
end Go.Proofs.Ytjfnbcifafmefaa

/- The functions that the run of chapter 7's awake takes by their contracts. Conditions: none. -/
namespace Go.Proofs.Ytjfnbcifafmefaa
set_option linter.unusedSimpArgs false
set_option linter.unusedVariables false
open Go.RowKit
def prsOf : List AV → Option (List Pt)
  | [] => some []
  | .int .i64 x :: .int .i64 y :: r => (prsOf r).map ((x, y) :: ·)
  | _ => none
theorem prsOf_eq : ∀ (xs : List AV) (l : List Pt), prsOf xs = some l → xs = prs l
  | [], l, h => by simp [prsOf] at h; subst h; rfl
  | .int .i64 x :: .int .i64 y :: r, l, h => by
    simp only [prsOf, Option.map_eq_some_iff] at h
    obtain ⟨m, hm, rfl⟩ := h
    rw [prsOf_eq r m hm]; rfl
  | [x], l, h => by unfold prsOf at h; split at h <;> simp_all
  | x :: y :: r, l, h => by
    unfold prsOf at h
    split at h
    · simp_all
    · rename_i e
      injection e with e1 e2
      injection e2 with e2 e3
      subst e1 e2 e3
      simp only [Option.map_eq_some_iff] at h
      obtain ⟨m, hm, rfl⟩ := h
      rw [prsOf_eq _ m hm]; rfl
    · cases h
/-- The generators of a zonogon's slice. -/
def gensOf (H : AHeap) (s : AV) : Option (List Pt) :=
  match s with
  | .sl (some (b, 0)) n _ => match H[b]? with
    | some (.cells _ 2 xs) => (prsOf xs).bind fun l => bif Nat.beq l.length n then some l else none
    | _ => none
  | _ => none
theorem gensOf_isP {H : AHeap} {s : AV} {l : List Pt} (h : gensOf H s = some l) : SlP H s l := by
  unfold gensOf at h
  split at h
  · rename_i b n c
    split at h
    · rename_i own xs hb
      cases hp : prsOf xs with
      | none => rw [hp] at h; cases h
      | some m =>
        rw [hp, Option.bind_some] at h
        cases hn : Nat.beq m.length n
        · rw [hn] at h; cases h
        · rw [hn, cond_true] at h
          injection h with h
          subst h
          have := Nat.eq_of_beq_eq_true hn
          subst this
          exact ⟨b, own, c, rfl, by rw [hb, prsOf_eq _ _ hp]⟩
    · cases h
  · cases h
def ext07 : Caller := fun f args H =>
  match args with
  | [.agg [.int .i64 x1, .int .i64 y1, s1], .agg [.int .i64 x2, .int .i64 y2, s2]] =>
    bif Nat.beq f 38 then (gensOf H s1).bind fun l1 => (gensOf H s2).map fun l2 => (.bool (sameB x1 y1 l1 x2 y2 l2), none) else none
  | [.agg [.int .i64 x, .int .i64 y, s], .agg [.int .i64 x0, .int .i64 y0, .int .i64 x1, .int .i64 y1]] =>
    bif Nat.beq f 40 then (gensOf H s).map fun l => (.bool (apartB x y l x0 y0 x1 y1), none) else none
  | [.sl none 0 (some 0), .int .i64 n] =>
    bif Nat.beq f 75 && (decide (0 < n) && decide (n ≤ 1000)) then some (.sl (some (H.length, 0)) 0 none, some (H ++ [.cells true 2 []])) else none
  | _ => ext f args H
theorem ext07_ok : CallOk Try.prog ext07 := fun f args H x o h => by
  unfold ext07 at h
  split at h
  · rename_i x1 y1 s1 x2 y2 s2
    cases hf : Nat.beq f 38
    · rw [hf] at h; cases h
    · rw [hf, cond_true] at h
      have e := Nat.eq_of_beq_eq_true hf
      subst e
      simp only [Option.bind_eq_some_iff, Option.map_eq_some_iff, Prod.mk.injEq] at h
      obtain ⟨l1, h1, l2, h2, rfl, rfl⟩ := h
      exact ⟨by kernel_rfl, Nat.le_refl _, same_c H _ _ _ _ _ _ _ _ (gensOf_isP h1) (gensOf_isP h2)⟩
  · rename_i x y s x0 y0 x1 y1
    cases hf : Nat.beq f 40
    · rw [hf] at h; cases h
    · rw [hf, cond_true] at h
      have e := Nat.eq_of_beq_eq_true hf
      subst e
      simp only [Option.map_eq_some_iff, Prod.mk.injEq] at h
      obtain ⟨l1, h1, rfl, rfl⟩ := h
      exact ⟨by kernel_rfl, Nat.le_refl _, apart_c H _ _ _ _ _ _ _ _ (gensOf_isP h1)⟩
  · rename_i n
    cases hf : Nat.beq f 75 && (decide (0 < n) && decide (n ≤ 1000))
    · rw [hf] at h; cases h
    · rw [hf, cond_true] at h
      simp only [Bool.and_eq_true, decide_eq_true_eq] at hf
      obtain ⟨h1, h2, h3⟩ := hf
      have e := Nat.eq_of_beq_eq_true h1
      subst e
      simp only [Option.some.injEq, Prod.mk.injEq] at h
      obtain ⟨rfl, rfl⟩ := h
      obtain ⟨m, rfl⟩ : ∃ m : Nat, n = m := ⟨n.toNat, by omega⟩
      exact ⟨by kernel_rfl, by simp, grow_a (by omega) (by omega)⟩
  · exact ext_ok f args H x o h
theorem TbOk.filter {P : Program} (p : Nat × Bool × Func → Bool) : ∀ {tb : List (Nat × Bool × Func)}, TbOk P tb → TbOk P (tb.filter p)
  | _, .nil => .nil
  | _, .cons (f := f) (q := q) (fn := fn) h1 h2 h3 hr => by
    rw [List.filter_cons]
    split
    · exact .cons h1 h2 h3 (TbOk.filter p hr)
    · exact TbOk.filter p hr
/-- The functions that the run enters: all but Grow. -/
noncomputable def tb07 : List (Nat × Bool × Func) := tb.filter fun p => !Nat.beq p.1 75
theorem tb07_ok : TbOk Try.prog tb07 := tb_ok.filter _
end Go.Proofs.Ytjfnbcifafmefaa

/- awake of law 7, by the kernel's own run. Conditions: none. -/
namespace Go.Proofs.Ytjfnbcifafmefaa
set_option linter.unusedSimpArgs false
set_option linter.unusedVariables false
open Go.RowKit
theorem awake_a (H : AHeap) : ACalls Try.prog 13 [] H (fun v H' => v = .bool true ∧ H' = H) :=
  ACalls.closed (ran try_mixed ext07_ok tb07 tb07_ok 3000 60 (x := .bool true) (o := none) (by kernel_rfl)) rfl rfl H
end Go.Proofs.Ytjfnbcifafmefaa

/- Walks by the abstract machine: ZonogonApart. Conditions: as each theorem states. -/
namespace Go.Proofs.Ytjfnbcifafmefaa
set_option linter.unusedSimpArgs false
set_option linter.unusedVariables false
open Go.RowKit
set_option maxHeartbeats 4000000 in
set_option maxRecDepth 100000 in
theorem lapart_c (H : AHeap) (x : Int) (y : Int) (s : AV) (l : List (Int × Int)) (x0 : Int) (y0 : Int) (x1 : Int) (y1 : Int) (hs : Sl H 2 s l.length (prs l)) : ACalls Try.prog 10 [.agg [.int .i64 x, .int .i64 y, s], .agg [.int .i64 x0, .int .i64 y0, .int .i64 x1, .int .i64 y1]] H (fun v H' => v = .bool true ∧ H' = H) := by
  obtain ⟨bs, os, cs, rfl, hbs⟩ := hs
  have hbls := getElem?_lt hbs
  have hb0s := fun l => get_app (l := l) hbs
  (refine ACalls_run try_mixed Try.func10 true _ rfl (Nat.le_of_ble_eq_true (by kernel_rfl)) (by kernel_rfl) ?_; intro hbel Q hQ hQ' c hc; unfold Try.f10 at hc; simp only [Option.some.injEq] at hc; subst hc; clear hQ')
  simp -implicitDefEqProofs (disch := omega) only [hbs, hb0s, aApp_nil, aApp_none, aApp_some, aApp_grw, simprocAttr, amset, tyset, Function.comp_apply, one1, lenV, calleeOf, lateOk, belowV, aop, AV.ofValue, AV.ofCell, AV.cells, AV.flat, AV.one, arep, aBin, aConv]
  repeat refine And.intro (by omega) ?_
  refine call_v (by kernel_rfl) (awake_a _) ?_
  simp -implicitDefEqProofs (disch := omega) only [hbs, hb0s, aApp_nil, aApp_none, aApp_some, aApp_grw, simprocAttr, amset, tyset, Function.comp_apply, one1, lenV, calleeOf, lateOk, belowV, aop, AV.ofValue, AV.ofCell, AV.cells, AV.flat, AV.one, arep, aBin, aConv]
  repeat refine And.intro (by omega) ?_
  refine call_v (by kernel_rfl) (few_c _ x y _ l (.inr ⟨_, _, _, rfl, by first | exact hb0s _ | exact hbs⟩)) ?_
  simp -implicitDefEqProofs (disch := omega) only [hbs, hb0s, aApp_nil, aApp_none, aApp_some, aApp_grw, simprocAttr, amset, tyset, Function.comp_apply, one1, lenV, calleeOf, lateOk, belowV, aop, AV.ofValue, AV.ofCell, AV.cells, AV.flat, AV.one, arep, aBin, aConv]
  repeat refine And.intro (by omega) ?_
  refine cond_split (fun h1 => ?_) (fun h1 => ?_)
  · have h1d := h1
    try simp only [Bool.not_eq_true', Bool.not_eq_false', decide_eq_true_eq, decide_eq_false_iff_not, beq_iff_eq, bne_iff_ne, ne_eq, Bool.not_eq_true, Bool.not_eq_false, beq_eq_false_iff_ne, bne_eq_false_iff_eq, Classical.not_not, Bool.and_eq_true, Bool.and_eq_false_imp] at h1d
    simp -implicitDefEqProofs (disch := omega) only [hbs, hb0s, h1, h1d, aApp_nil, aApp_none, aApp_some, aApp_grw, simprocAttr, amset, tyset, Function.comp_apply, one1, lenV, calleeOf, lateOk, belowV, aop, AV.ofValue, AV.ofCell, AV.cells, AV.flat, AV.one, arep, aBin, aConv]
    repeat refine And.intro (by omega) ?_
    refine call_v (by kernel_rfl) (awake_a _) ?_
    simp -implicitDefEqProofs (disch := omega) only [hbs, hb0s, h1, h1d, aApp_nil, aApp_none, aApp_some, aApp_grw, simprocAttr, amset, tyset, Function.comp_apply, one1, lenV, calleeOf, lateOk, belowV, aop, AV.ofValue, AV.ofCell, AV.cells, AV.flat, AV.one, arep, aBin, aConv]
    repeat refine And.intro (by omega) ?_
    exact hQ _ _ (end_plain (.inl rfl) hbel (x := .bool true) (ret_of Try.results10 (by simp -implicitDefEqProofs (disch := omega) only [simprocAttr, amset, tyset, Function.comp_apply, one1, lenV, calleeOf, lateOk, belowV, aop, AV.ofValue, AV.ofCell, AV.cells, AV.flat, AV.one, arep, aBin, aAppend, aConv])) rfl ⟨by first | (simp [h1d]; done) | (rw [apart_pt (by assumption) (by assumption) (by assumption)]; simp; done) | (rw [apart_pt (by assumption) (by assumption) (by assumption)]; cases hasB x y l (2 * x0) (2 * y0) <;> rfl), rfl⟩)
  · have h1d := h1
    try simp only [Bool.not_eq_true', Bool.not_eq_false', decide_eq_true_eq, decide_eq_false_iff_not, beq_iff_eq, bne_iff_ne, ne_eq, Bool.not_eq_true, Bool.not_eq_false, beq_eq_false_iff_ne, bne_eq_false_iff_eq, Classical.not_not, Bool.and_eq_true, Bool.and_eq_false_imp] at h1d
    simp -implicitDefEqProofs (disch := omega) only [hbs, hb0s, h1, h1d, aApp_nil, aApp_none, aApp_some, aApp_grw, simprocAttr, amset, tyset, Function.comp_apply, one1, lenV, calleeOf, lateOk, belowV, aop, AV.ofValue, AV.ofCell, AV.cells, AV.flat, AV.one, arep, aBin, aConv]
    repeat refine And.intro (by omega) ?_
    refine call_d (by kernel_rfl) (apart_c _ x y _ l x0 y0 x1 y1 ⟨_, _, _, rfl, by first | exact hb0s _ | exact hbs⟩) ?_
    simp -implicitDefEqProofs (disch := omega) only [hbs, hb0s, h1, h1d, aApp_nil, aApp_none, aApp_some, aApp_grw, simprocAttr, amset, tyset, Function.comp_apply, one1, lenV, calleeOf, lateOk, belowV, aop, AV.ofValue, AV.ofCell, AV.cells, AV.flat, AV.one, arep, aBin, aConv]
    repeat refine And.intro (by omega) ?_
    refine call_d (by kernel_rfl) (rapart_a _ x y _ l x0 y0 x1 y1 ⟨_, _, _, rfl, by first | exact hb0s _ | exact hbs⟩ (by first | omega | (simp only [List.length_cons, List.length_nil]; omega) | exact Nat.le_trans (mkL_len _ _) (by first | omega | simp) | exact Nat.le_trans (vL_len _ _) (by first | omega | simp) | exact Nat.le_trans corV_len (by omega) | exact Nat.le_trans (canonL_len _) (by first | omega | simp))) ?_
    simp -implicitDefEqProofs (disch := omega) only [hbs, hb0s, h1, h1d, aApp_nil, aApp_none, aApp_some, aApp_grw, simprocAttr, amset, tyset, Function.comp_apply, one1, lenV, calleeOf, lateOk, belowV, aop, AV.ofValue, AV.ofCell, AV.cells, AV.flat, AV.one, arep, aBin, aConv]
    repeat refine And.intro (by omega) ?_
    refine call_v (by kernel_rfl) (rvalid_c _ x y _ l (.inr ⟨_, _, _, rfl, by first | exact hb0s _ | exact hbs⟩) (by omega)) ?_
    simp -implicitDefEqProofs (disch := omega) only [hbs, hb0s, h1, h1d, aApp_nil, aApp_none, aApp_some, aApp_grw, simprocAttr, amset, tyset, Function.comp_apply, one1, lenV, calleeOf, lateOk, belowV, aop, AV.ofValue, AV.ofCell, AV.cells, AV.flat, AV.one, arep, aBin, aConv]
    repeat refine And.intro (by omega) ?_
    refine gd_split (fun h2 => ?_) (fun h2 => ?_)
    · have h2d := h2
      try simp only [Bool.not_eq_true', Bool.not_eq_false', decide_eq_true_eq, decide_eq_false_iff_not, beq_iff_eq, bne_iff_ne, ne_eq, Bool.not_eq_true, Bool.not_eq_false, beq_eq_false_iff_ne, bne_eq_false_iff_eq, Classical.not_not, Bool.and_eq_true, Bool.and_eq_false_imp] at h2d
      simp -implicitDefEqProofs (disch := omega) only [hbs, hb0s, h1, h1d, h2, h2d, aApp_nil, aApp_none, aApp_some, aApp_grw, simprocAttr, amset, tyset, Function.comp_apply, one1, lenV, calleeOf, lateOk, belowV, aop, AV.ofValue, AV.ofCell, AV.cells, AV.flat, AV.one, arep, aBin, aConv]
      repeat refine And.intro (by omega) ?_
      refine call_v (by kernel_rfl) (bsize_c _ _ _ (by decide)) ?_
      simp -implicitDefEqProofs (disch := omega) only [hbs, hb0s, h1, h1d, h2, h2d, aApp_nil, aApp_none, aApp_some, aApp_grw, simprocAttr, amset, tyset, Function.comp_apply, one1, lenV, calleeOf, lateOk, belowV, aop, AV.ofValue, AV.ofCell, AV.cells, AV.flat, AV.one, arep, aBin, aConv]
      repeat refine And.intro (by omega) ?_
      refine gd_split (fun h3 => ?_) (fun h3 => ?_)
      · have h3d := h3
        try simp only [Bool.not_eq_true', Bool.not_eq_false', decide_eq_true_eq, decide_eq_false_iff_not, beq_iff_eq, bne_iff_ne, ne_eq, Bool.not_eq_true, Bool.not_eq_false, beq_eq_false_iff_ne, bne_eq_false_iff_eq, Classical.not_not, Bool.and_eq_true, Bool.and_eq_false_imp] at h3d
        simp -implicitDefEqProofs (disch := omega) only [hbs, hb0s, h1, h1d, h2, h2d, h3, h3d, aApp_nil, aApp_none, aApp_some, aApp_grw, simprocAttr, amset, tyset, Function.comp_apply, one1, lenV, calleeOf, lateOk, belowV, aop, AV.ofValue, AV.ofCell, AV.cells, AV.flat, AV.one, arep, aBin, aConv]
        repeat refine And.intro (by omega) ?_
        refine call_v (by kernel_rfl) (bsize_c _ _ _ (by decide)) ?_
        simp -implicitDefEqProofs (disch := omega) only [hbs, hb0s, h1, h1d, h2, h2d, h3, h3d, aApp_nil, aApp_none, aApp_some, aApp_grw, simprocAttr, amset, tyset, Function.comp_apply, one1, lenV, calleeOf, lateOk, belowV, aop, AV.ofValue, AV.ofCell, AV.cells, AV.flat, AV.one, arep, aBin, aConv]
        repeat refine And.intro (by omega) ?_
        refine cond_split (fun h4 => ?_) (fun h4 => ?_)
        · have h4d := h4
          try simp only [Bool.not_eq_true', Bool.not_eq_false', decide_eq_true_eq, decide_eq_false_iff_not, beq_iff_eq, bne_iff_ne, ne_eq, Bool.not_eq_true, Bool.not_eq_false, beq_eq_false_iff_ne, bne_eq_false_iff_eq, Classical.not_not, Bool.and_eq_true, Bool.and_eq_false_imp] at h4d
          simp -implicitDefEqProofs (disch := omega) only [hbs, hb0s, h1, h1d, h2, h2d, h3, h3d, h4, h4d, aApp_nil, aApp_none, aApp_some, aApp_grw, simprocAttr, amset, tyset, Function.comp_apply, one1, lenV, calleeOf, lateOk, belowV, aop, AV.ofValue, AV.ofCell, AV.cells, AV.flat, AV.one, arep, aBin, aConv]
          repeat refine And.intro (by omega) ?_
          exact hQ _ _ (end_plain (.inl rfl) hbel (x := .bool true) (ret_of Try.results10 (by simp -implicitDefEqProofs (disch := omega) only [simprocAttr, amset, tyset, Function.comp_apply, one1, lenV, calleeOf, lateOk, belowV, aop, AV.ofValue, AV.ofCell, AV.cells, AV.flat, AV.one, arep, aBin, aAppend, aConv])) rfl ⟨by first | (simp [h1d, h2d, h3d, h4d]; done) | (rw [apart_pt (by assumption) (by assumption) (by assumption)]; simp; done) | (rw [apart_pt (by assumption) (by assumption) (by assumption)]; cases hasB x y l (2 * x0) (2 * y0) <;> rfl), rfl⟩)
        · have h4d := h4
          try simp only [Bool.not_eq_true', Bool.not_eq_false', decide_eq_true_eq, decide_eq_false_iff_not, beq_iff_eq, bne_iff_ne, ne_eq, Bool.not_eq_true, Bool.not_eq_false, beq_eq_false_iff_ne, bne_eq_false_iff_eq, Classical.not_not, Bool.and_eq_true, Bool.and_eq_false_imp] at h4d
          have hw1 := (show within x0 2097152 = true by assumption)
          have hw2 := h4d
          rw [within_iff] at hw1 hw2
          simp -implicitDefEqProofs (disch := omega) only [hbs, hb0s, h1, h1d, h2, h2d, h3, h3d, h4, h4d, aApp_nil, aApp_none, aApp_some, aApp_grw, simprocAttr, amset, tyset, Function.comp_apply, one1, lenV, calleeOf, lateOk, belowV, aop, AV.ofValue, AV.ofCell, AV.cells, AV.flat, AV.one, arep, aBin, aConv]
          repeat refine And.intro (by omega) ?_
          refine call_d (by kernel_rfl) (apart_c _ x y _ l x0 y0 x0 y0 ⟨_, _, _, rfl, by first | exact hb0s _ | exact hbs⟩) ?_
          simp -implicitDefEqProofs (disch := omega) only [hbs, hb0s, h1, h1d, h2, h2d, h3, h3d, h4, h4d, aApp_nil, aApp_none, aApp_some, aApp_grw, simprocAttr, amset, tyset, Function.comp_apply, one1, lenV, calleeOf, lateOk, belowV, aop, AV.ofValue, AV.ofCell, AV.cells, AV.flat, AV.one, arep, aBin, aConv]
          repeat refine And.intro (by omega) ?_
          refine call_d (by kernel_rfl) (has_c _ x y _ l (2 * x0) (2 * y0) ⟨_, _, _, rfl, by first | exact hb0s _ | exact hbs⟩) ?_
          simp -implicitDefEqProofs (disch := omega) only [hbs, hb0s, h1, h1d, h2, h2d, h3, h3d, h4, h4d, aApp_nil, aApp_none, aApp_some, aApp_grw, simprocAttr, amset, tyset, Function.comp_apply, one1, lenV, calleeOf, lateOk, belowV, aop, AV.ofValue, AV.ofCell, AV.cells, AV.flat, AV.one, arep, aBin, aConv]
          repeat refine And.intro (by omega) ?_
          exact hQ _ _ (end_plain (.inl rfl) hbel (x := .bool (!((apartB x y l x0 y0 x0 y0) == (hasB x y l (2 * x0) (2 * y0))))) (ret_of Try.results10 (by simp -implicitDefEqProofs (disch := omega) only [simprocAttr, amset, tyset, Function.comp_apply, one1, lenV, calleeOf, lateOk, belowV, aop, AV.ofValue, AV.ofCell, AV.cells, AV.flat, AV.one, arep, aBin, aAppend, aConv])) rfl ⟨by first | (simp [h1d, h2d, h3d, h4d]; done) | (rw [apart_pt (by assumption) (by assumption) (by assumption)]; simp; done) | (rw [apart_pt (by assumption) (by assumption) (by assumption)]; cases hasB x y l (2 * x0) (2 * y0) <;> rfl), rfl⟩)
      · have h3d := h3
        try simp only [Bool.not_eq_true', Bool.not_eq_false', decide_eq_true_eq, decide_eq_false_iff_not, beq_iff_eq, bne_iff_ne, ne_eq, Bool.not_eq_true, Bool.not_eq_false, beq_eq_false_iff_ne, bne_eq_false_iff_eq, Classical.not_not, Bool.and_eq_true, Bool.and_eq_false_imp] at h3d
        simp -implicitDefEqProofs (disch := omega) only [hbs, hb0s, h1, h1d, h2, h2d, h3, h3d, aApp_nil, aApp_none, aApp_some, aApp_grw, simprocAttr, amset, tyset, Function.comp_apply, one1, lenV, calleeOf, lateOk, belowV, aop, AV.ofValue, AV.ofCell, AV.cells, AV.flat, AV.one, arep, aBin, aConv]
        repeat refine And.intro (by omega) ?_
        exact hQ _ _ (end_plain (.inl rfl) hbel (x := .bool true) (ret_of Try.results10 (by simp -implicitDefEqProofs (disch := omega) only [simprocAttr, amset, tyset, Function.comp_apply, one1, lenV, calleeOf, lateOk, belowV, aop, AV.ofValue, AV.ofCell, AV.cells, AV.flat, AV.one, arep, aBin, aAppend, aConv])) rfl ⟨by first | (simp [h1d, h2d, h3d]; done) | (rw [apart_pt (by assumption) (by assumption) (by assumption)]; simp; done) | (rw [apart_pt (by assumption) (by assumption) (by assumption)]; cases hasB x y l (2 * x0) (2 * y0) <;> rfl), rfl⟩)
    · have h2d := h2
      try simp only [Bool.not_eq_true', Bool.not_eq_false', decide_eq_true_eq, decide_eq_false_iff_not, beq_iff_eq, bne_iff_ne, ne_eq, Bool.not_eq_true, Bool.not_eq_false, beq_eq_false_iff_ne, bne_eq_false_iff_eq, Classical.not_not, Bool.and_eq_true, Bool.and_eq_false_imp] at h2d
      simp -implicitDefEqProofs (disch := omega) only [hbs, hb0s, h1, h1d, h2, h2d, aApp_nil, aApp_none, aApp_some, aApp_grw, simprocAttr, amset, tyset, Function.comp_apply, one1, lenV, calleeOf, lateOk, belowV, aop, AV.ofValue, AV.ofCell, AV.cells, AV.flat, AV.one, arep, aBin, aConv]
      repeat refine And.intro (by omega) ?_
      exact hQ _ _ (end_plain (.inl rfl) hbel (x := .bool true) (ret_of Try.results10 (by simp -implicitDefEqProofs (disch := omega) only [simprocAttr, amset, tyset, Function.comp_apply, one1, lenV, calleeOf, lateOk, belowV, aop, AV.ofValue, AV.ofCell, AV.cells, AV.flat, AV.one, arep, aBin, aAppend, aConv])) rfl ⟨by first | (simp [h1d, h2d]; done) | (rw [apart_pt (by assumption) (by assumption) (by assumption)]; simp; done) | (rw [apart_pt (by assumption) (by assumption) (by assumption)]; cases hasB x y l (2 * x0) (2 * y0) <;> rfl), rfl⟩)
end Go.Proofs.Ytjfnbcifafmefaa
namespace Go.Proofs.Ytjfnbcifafmefaa
set_option linter.unusedSimpArgs false
set_option linter.unusedVariables false
open Go.RowKit
set_option maxRecDepth 100000 in
theorem zonogonApart_top (H : AHeap) (xs : List AV) (hn : xs.length = 2) (hy : ∀ (j : Nat) (t : TypeId) (x : AV), [24, 31][j]? = some t → xs[j]? = some x → ATy Try.prog H 9 t x) : ACalls Try.prog 10 xs H (fun v H' => v = .bool true ∧ H' = H) := by
  match xs, hn, hy with
  | [a0, a1], _, hy =>
    obtain ⟨ys0, e0, r0_0⟩ := (hy 0 _ a0 rfl rfl).agg (ls := [3, 3, 22]) (by kernel_rfl) (by kernel_rfl)
    obtain ⟨y0_0, q0_0, rfl, t0_0, r0_1⟩ := r0_0.cons
    obtain ⟨z1, rfl, w1⟩ := t0_0.int (k := .i64) (by kernel_rfl)
    obtain ⟨y0_1, q0_1, rfl, t0_1, r0_2⟩ := r0_1.cons
    obtain ⟨z2, rfl, w2⟩ := t0_1.int (k := .i64) (by kernel_rfl)
    obtain ⟨y0_2, q0_2, rfl, t0_2, r0_3⟩ := r0_2.cons
    obtain ⟨l3, s3, m3, w3⟩ := t0_2.pairsU (n := 7) (t := 22) (e := 39) (u := 3) (v := 3) (by kernel_rfl) (by kernel_rfl) (by kernel_rfl) (by kernel_rfl)
    obtain rfl := r0_3.nil
    subst e0
    obtain ⟨ys1, e1, r1_0⟩ := (hy 1 _ a1 rfl rfl).agg (ls := [3, 3, 3, 3]) (by kernel_rfl) (by kernel_rfl)
    obtain ⟨y1_0, q1_0, rfl, t1_0, r1_1⟩ := r1_0.cons
    obtain ⟨z4, rfl, w4⟩ := t1_0.int (k := .i64) (by kernel_rfl)
    obtain ⟨y1_1, q1_1, rfl, t1_1, r1_2⟩ := r1_1.cons
    obtain ⟨z5, rfl, w5⟩ := t1_1.int (k := .i64) (by kernel_rfl)
    obtain ⟨y1_2, q1_2, rfl, t1_2, r1_3⟩ := r1_2.cons
    obtain ⟨z6, rfl, w6⟩ := t1_2.int (k := .i64) (by kernel_rfl)
    obtain ⟨y1_3, q1_3, rfl, t1_3, r1_4⟩ := r1_3.cons
    obtain ⟨z7, rfl, w7⟩ := t1_3.int (k := .i64) (by kernel_rfl)
    obtain rfl := r1_4.nil
    subst e1
    exact lapart_c H z1 z2 _ l3 z4 z5 z6 z7 s3
section
open Go.ChangeShapes Go.WideShapes Go.ChangeAt Go.RowKit Go.Joins
open Go.ChangeMaps (open_string shut_string)
set_option maxRecDepth 100000 in
theorem zonogonApart_lifted (os : Os) (started : os.Started) (H : Type) (enc : TypeId × Value → H) :
    ReturnsInHanded {} Try.checked os 10 .any (Rows.zonogonApartSpec.pre6 enc Try.prog Try.f10 Rows.zonogonApartRow.domain false) (Rows.zonogonApartSpec.post enc Try.prog Try.f10 false true false false) := by
  refine returnsInHanded_of_change (C := Try.checked) own started (by kernel_rfl) Try.func10
    (ChangeSpec.witness6 (enc := enc) (C := Try.checked) false ⟨#[], #[.agg #[.int .i64 0, .int .i64 0, .slice none 0 0], .agg #[.int .i64 0, .int .i64 0, .int .i64 0, .int .i64 0]], []⟩ 8 (by kernel_rfl) (by kernel_rfl) (by kernel_rfl) (by kernel_rfl)) ?_
  intro W base args ds gs before hval0 hW hcnd _
  have hval : ∀ (j : Nat) t v, Try.f10.params[j]? = some t → args[j]? = some v → Value.okWide Try.prog W .any base t v := hval0
  have hW' := hW
  obtain ⟨p, q, hA0, hV, rfl, hfz, hnd⟩ := hW
  have hA : DataW.TrodAll enc Try.prog W 0 (fun _ => true) true Try.f10.params.toList args.toList ds p := hA0
  rw [Try.params10] at hA hval
  have hwalk := calls_top (n := 9) (f := 10) hA (fun j t v a b => hval j t v (by simpa using a) (by simpa using b)) (by kernel_rfl) (fun H xs hn hy => zonogonApart_top H xs hn hy)
  rw [Array.toArray_toList] at hwalk
  obtain ⟨v0, vs0, d0, ds0, p0, q0, hargs, rfl, rfl, h0, r0⟩ := trodAll_cons hA
  obtain ⟨v1, vs1, d1, ds1, p1, q1, rfl, rfl, rfl, h1, r1⟩ := trodAll_cons r0
  obtain ⟨rfl, rfl, rfl⟩ := trodAll_nil r1
  obtain rfl : args = #[v0, v1] := by cases args; simp_all
  obtain ⟨rfl, rfl⟩ := trodVars_none hV
  have k0 := h0
  have lt0 : ∀ x ∈ p0, x.block < W.heap.size := by obtain ⟨m, hm⟩ := k0; exact DataW.trod_lt m _ _ _ hm
  have k1 := h1
  have lt1 : ∀ x ∈ p1, x.block < W.heap.size := by obtain ⟨m, hm⟩ := k1; exact DataW.trod_lt m _ _ _ hm
  clear hA0 hval0
  refine hwalk.mono fun e W' ⟨he, bel⟩ => ?_
  subst he
  exact ⟨_, rfl, _, _, _, [], _, [], hW', trodAll_mk1 (shut_bool Try.underlying4 _), (trodAll_cons_mk (Below.trod laidOut (by kernel_rfl) (of_decide_eq_true (by kernel_rfl)) k0 bel lt0) (trodAll_cons_mk (Below.trod laidOut (by kernel_rfl) (of_decide_eq_true (by kernel_rfl)) k1 bel lt1) trodAll_mk0)), rfl, bel.frame _, fun h => by cases h⟩
theorem zonogonApart_over : Rows.zonogonApartRow.holds Try.pinned (OpenSpec.ofChange Rows.zonogonApartSpec) :=
  OpenClaim.holds_of_wide 10 Try.f10 rfl rfl rfl rfl rfl rfl rfl ⟨rfl, rfl, rfl, rfl, rfl⟩ rfl rfl rfl rfl rfl (by kernel_rfl) Try.func10 (by kernel_rfl)
    (of_decide_eq_true (by kernel_rfl)) (by unfold Func.isWrapper; rw [if_neg (by decide +kernel)]; exact ⟨rfl, rfl⟩)
    (fun os started H enc _ => zonogonApart_lifted os started H enc)
/-- The given statement. -/
theorem zonogonApart_proved : Rows.ZonogonApartSaid := zonogonApart_over
end
end Go.Proofs.Ytjfnbcifafmefaa
