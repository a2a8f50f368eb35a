/- Proved: the law MotionAims returns true on every input, and its arguments read afterwards as before. Conditions: none beyond the given row's. -/
import Derived.Test.YtoimakfecmhjkaaGreatG3
import Derived.Test.YtoimakfecmhjkaaGreatG2

/- Walks by the abstract machine: OfRect, OfSegment. Conditions: as each theorem states. -/
namespace Go.Proofs.YtoimakfecmhjkaaGreat
set_option linter.unusedSimpArgs false
set_option linter.unusedVariables false
open Go.RowKit
set_option maxHeartbeats 4000000 in
set_option maxRecDepth 100000 in
theorem ofrect_c (H : AHeap) (x0 : Int) (y0 : Int) (x1 : Int) (y1 : Int) : ACalls Tryz.prog 50 [.agg [.int .i64 x0, .int .i64 y0, .int .i64 x1, .int .i64 y1]] H (fun v H' => v = .tup [.agg [.int .i64 (mkX (rectE x0 y0 x1 y1) (x0 + x1)), .int .i64 (mkX (rectE x0 y0 x1 y1) (y0 + y1)), .sl (some (H.length, 0)) ((mkL (rectE x0 y0 x1 y1) (canonL [(x1 - x0, 0), (0, y1 - y0)])).length) (capG (mkL (rectE x0 y0 x1 y1) (canonL [(x1 - x0, 0), (0, y1 - y0)])).length)], .int .i64 (rectE x0 y0 x1 y1)] ∧ H' = H ++ [.cells (ownG (mkL (rectE x0 y0 x1 y1) (canonL [(x1 - x0, 0), (0, y1 - y0)])).length) 2 (prs (mkL (rectE x0 y0 x1 y1) (canonL [(x1 - x0, 0), (0, y1 - y0)])))]) := by
  (refine ACalls_run try_mixed Tryz.func50 true _ rfl (Nat.le_of_ble_eq_true (by kernel_rfl)) (by kernel_rfl) ?_; intro hbel Q hQ hQ' c hc; unfold Tryz.f50 at hc; simp only [Option.some.injEq] at hc; subst hc; clear hQ')
  refine runT ?_
  refine call_v (by kernel_rfl) (near_c _ _ [x0, y0, x1, y1] (.inr ⟨_, _, _, by first | rfl | (rw [List.length_append]; rfl), by first | rfl | (rw [get_newk]; rfl) | (rw [get_new0]; rfl) | (rw [get_newk, prs_append]; rfl) | (rw [get_new0, prs_append]; rfl)⟩) (by simp)) ?_
  rw [far4_any]
  refine runT ?_
  refine gd_split (fun h1 => ?_) (fun h1 => ?_)
  · have h1d := h1
    try simp only [Bool.not_eq_true', Bool.not_eq_false', decide_eq_true_eq, decide_eq_false_iff_not, beq_iff_eq, bne_iff_ne, ne_eq, Bool.not_eq_true, Bool.not_eq_false, beq_eq_false_iff_ne, bne_eq_false_iff_eq, Classical.not_not, Bool.and_eq_true, Bool.and_eq_false_imp] at h1d
    have hfar := far4_bd h1d
    have g'1 := (jn @h1 @h1d)
    refine runTf g'1 ?_
    refine gd_split (fun h2 => ?_) (fun h2 => ?_)
    · have h2d := h2
      try simp only [Bool.not_eq_true', Bool.not_eq_false', decide_eq_true_eq, decide_eq_false_iff_not, beq_iff_eq, bne_iff_ne, ne_eq, Bool.not_eq_true, Bool.not_eq_false, beq_eq_false_iff_ne, bne_eq_false_iff_eq, Classical.not_not, Bool.and_eq_true, Bool.and_eq_false_imp] at h2d
      have g'2 := (jn @h2 (jn @h2d g'1))
      refine runTf g'2 ?_
      refine gd_split (fun h3 => ?_) (fun h3 => ?_)
      · have h3d := h3
        try simp only [Bool.not_eq_true', Bool.not_eq_false', decide_eq_true_eq, decide_eq_false_iff_not, beq_iff_eq, bne_iff_ne, ne_eq, Bool.not_eq_true, Bool.not_eq_false, beq_eq_false_iff_ne, bne_eq_false_iff_eq, Classical.not_not, Bool.and_eq_true, Bool.and_eq_false_imp] at h3d
        have g'3 := (jn @h3 (jn @h3d g'2))
        refine runTf g'3 ?_
        refine gd_split (fun h4 => ?_) (fun h4 => ?_)
        · have h4d := h4
          try simp only [Bool.not_eq_true', Bool.not_eq_false', decide_eq_true_eq, decide_eq_false_iff_not, beq_iff_eq, bne_iff_ne, ne_eq, Bool.not_eq_true, Bool.not_eq_false, beq_eq_false_iff_ne, bne_eq_false_iff_eq, Classical.not_not, Bool.and_eq_true, Bool.and_eq_false_imp] at h4d
          have g'4 := (jn @h4 (jn @h4d g'3))
          refine runTf g'4 ?_
          refine cond_split (fun h5 => ?_) (fun h5 => ?_)
          · have h5d := h5
            try simp only [Bool.not_eq_true', Bool.not_eq_false', decide_eq_true_eq, decide_eq_false_iff_not, beq_iff_eq, bne_iff_ne, ne_eq, Bool.not_eq_true, Bool.not_eq_false, beq_eq_false_iff_ne, bne_eq_false_iff_eq, Classical.not_not, Bool.and_eq_true, Bool.and_eq_false_imp] at h5d
            have g'5 := (jn @h5 (jn @h5d g'4))
            refine runTf g'5 ?_
            refine hQ _ _ (end_byG (.inl rfl) hbel (x1 := .tup [.agg [.int .i64 0, .int .i64 0, .sl none 0 (some 0)], .int .i64 1]) (l2 := [.cells false 2 []]) (.tup [.agg [.int .i64 0, .int .i64 0, .sl (some (H.length, 0)) 0 (some 0)], .int .i64 1]) (resT Tryz.results50) [.cells false 2 []] rfl [3] (by decide) ⟨(by first | (simp [mkX, mkL, rectE, capG_0, ownG_0, prs_nil, h1d, h2d, h3d, h4d, h5d]; done) | (rw [show rectE x0 y0 x1 y1 = 1 from if_neg (fun h => by omega)]; rfl) | rw [rectE_bad (fun h => by omega)]; rfl | rw [show rectE x0 y0 x1 y1 = 0 from if_pos ⟨by assumption, by omega, by omega, by omega, by omega⟩]; rfl | rw [rectE_bad (fun h => by simp_all)]; rfl), (by first | (simp [mkX, mkL, rectE, capG_0, ownG_0, prs_nil, h1d, h2d, h3d, h4d, h5d]; done) | (rw [show rectE x0 y0 x1 y1 = 1 from if_neg (fun h => by omega)]; rfl) | rw [rectE_bad (fun h => by omega)]; rfl | rw [show rectE x0 y0 x1 y1 = 0 from if_pos ⟨by assumption, by omega, by omega, by omega, by omega⟩]; rfl | rw [rectE_bad (fun h => by simp_all)]; rfl)⟩ ?_)
            exact absW
          · have h5d := h5
            try simp only [Bool.not_eq_true', Bool.not_eq_false', decide_eq_true_eq, decide_eq_false_iff_not, beq_iff_eq, bne_iff_ne, ne_eq, Bool.not_eq_true, Bool.not_eq_false, beq_eq_false_iff_ne, bne_eq_false_iff_eq, Classical.not_not, Bool.and_eq_true, Bool.and_eq_false_imp] at h5d
            have g'6 := (jn @h5 (jn @h5d g'4))
            refine runTf g'6 ?_
            have hB4 : ∀ e ∈ [((x1 - x0 : Int), (0 : Int)), (0, y1 - y0)], Bd 4194304 e := fun e he => by
              simp only [List.mem_cons, List.not_mem_nil, or_false] at he
              first | (rcases he with rfl | rfl <;> (unfold Bd; simp only; omega)) | (subst he; unfold Bd; simp only; omega)
            refine call_v (by kernel_rfl) (canonical_u _ (x0 + x1) (y0 + y1) _ [(x1 - x0, 0), (0, y1 - y0)] (.inr ⟨_, _, _, by first | rfl | (rw [List.length_append]; rfl), by first | rfl | (rw [get_newk]; rfl) | (rw [get_new0]; rfl) | (rw [get_newk, prs_append]; rfl) | (rw [get_new0, prs_append]; rfl)⟩) (by first | omega | (simp only [List.length_cons, List.length_nil]; omega) | exact Nat.le_trans (mkL_len _ _) (by first | omega | simp) | exact Nat.le_trans (vL_len _ _) (by first | omega | simp) | exact Nat.le_trans corV_len (by omega) | exact Nat.le_trans (canonL_len _) (by first | omega | simp)) (by assumption)) ?_
            refine runTf g'6 ?_
            refine hQ _ _ (end_byG (.inl rfl) hbel (x1 := .tup [.agg [.int .i64 (x0 + x1), .int .i64 (y0 + y1), .sl (some (H.length + 4, 0)) ((canonL [(x1 - x0, 0), (0, y1 - y0)]).length) (capG (canonL [(x1 - x0, 0), (0, y1 - y0)]).length)], .int .i64 0]) (l2 := [.cells (ownG (canonL [(x1 - x0, 0), (0, y1 - y0)]).length) 2 (prs (canonL [(x1 - x0, 0), (0, y1 - y0)]))]) (.tup [.agg [.int .i64 (x0 + x1), .int .i64 (y0 + y1), .sl (some (H.length, 0)) ((canonL [(x1 - x0, 0), (0, y1 - y0)]).length) (capG (canonL [(x1 - x0, 0), (0, y1 - y0)]).length)], .int .i64 0]) (resT Tryz.results50) [] rfl [4] (by decide) ⟨(by first | (simp [mkX, mkL, rectE, capG_0, ownG_0, prs_nil, h1d, h2d, h3d, h4d, h5d]; done) | (rw [show rectE x0 y0 x1 y1 = 1 from if_neg (fun h => by omega)]; rfl) | rw [rectE_bad (fun h => by omega)]; rfl | rw [show rectE x0 y0 x1 y1 = 0 from if_pos ⟨by assumption, by omega, by omega, by omega, by omega⟩]; rfl | rw [rectE_bad (fun h => by simp_all)]; rfl), (by first | (simp [mkX, mkL, rectE, capG_0, ownG_0, prs_nil, h1d, h2d, h3d, h4d, h5d]; done) | (rw [show rectE x0 y0 x1 y1 = 1 from if_neg (fun h => by omega)]; rfl) | rw [rectE_bad (fun h => by omega)]; rfl | rw [show rectE x0 y0 x1 y1 = 0 from if_pos ⟨by assumption, by omega, by omega, by omega, by omega⟩]; rfl | rw [rectE_bad (fun h => by simp_all)]; rfl)⟩ ?_)
            exact absW
        · have h4d := h4
          try simp only [Bool.not_eq_true', Bool.not_eq_false', decide_eq_true_eq, decide_eq_false_iff_not, beq_iff_eq, bne_iff_ne, ne_eq, Bool.not_eq_true, Bool.not_eq_false, beq_eq_false_iff_ne, bne_eq_false_iff_eq, Classical.not_not, Bool.and_eq_true, Bool.and_eq_false_imp] at h4d
          have g'7 := (jn @h4 (jn @h4d g'3))
          refine runTf g'7 ?_
          refine hQ _ _ (end_byG (.inl rfl) hbel (x1 := .tup [.agg [.int .i64 0, .int .i64 0, .sl none 0 (some 0)], .int .i64 1]) (l2 := [.cells false 2 []]) (.tup [.agg [.int .i64 0, .int .i64 0, .sl (some (H.length, 0)) 0 (some 0)], .int .i64 1]) (resT Tryz.results50) [.cells false 2 []] rfl [3] (by decide) ⟨(by first | (simp [mkX, mkL, rectE, capG_0, ownG_0, prs_nil, h1d, h2d, h3d, h4d]; done) | (rw [show rectE x0 y0 x1 y1 = 1 from if_neg (fun h => by omega)]; rfl) | rw [rectE_bad (fun h => by omega)]; rfl | rw [show rectE x0 y0 x1 y1 = 0 from if_pos ⟨by assumption, by omega, by omega, by omega, by omega⟩]; rfl | rw [rectE_bad (fun h => by simp_all)]; rfl), (by first | (simp [mkX, mkL, rectE, capG_0, ownG_0, prs_nil, h1d, h2d, h3d, h4d]; done) | (rw [show rectE x0 y0 x1 y1 = 1 from if_neg (fun h => by omega)]; rfl) | rw [rectE_bad (fun h => by omega)]; rfl | rw [show rectE x0 y0 x1 y1 = 0 from if_pos ⟨by assumption, by omega, by omega, by omega, by omega⟩]; rfl | rw [rectE_bad (fun h => by simp_all)]; rfl)⟩ ?_)
          exact absW
      · have h3d := h3
        try simp only [Bool.not_eq_true', Bool.not_eq_false', decide_eq_true_eq, decide_eq_false_iff_not, beq_iff_eq, bne_iff_ne, ne_eq, Bool.not_eq_true, Bool.not_eq_false, beq_eq_false_iff_ne, bne_eq_false_iff_eq, Classical.not_not, Bool.and_eq_true, Bool.and_eq_false_imp] at h3d
        have g'8 := (jn @h3 (jn @h3d g'2))
        refine runTf g'8 ?_
        refine hQ _ _ (end_byG (.inl rfl) hbel (x1 := .tup [.agg [.int .i64 0, .int .i64 0, .sl none 0 (some 0)], .int .i64 1]) (l2 := [.cells false 2 []]) (.tup [.agg [.int .i64 0, .int .i64 0, .sl (some (H.length, 0)) 0 (some 0)], .int .i64 1]) (resT Tryz.results50) [.cells false 2 []] rfl [3] (by decide) ⟨(by first | (simp [mkX, mkL, rectE, capG_0, ownG_0, prs_nil, h1d, h2d, h3d]; done) | (rw [show rectE x0 y0 x1 y1 = 1 from if_neg (fun h => by omega)]; rfl) | rw [rectE_bad (fun h => by omega)]; rfl | rw [show rectE x0 y0 x1 y1 = 0 from if_pos ⟨by assumption, by omega, by omega, by omega, by omega⟩]; rfl | rw [rectE_bad (fun h => by simp_all)]; rfl), (by first | (simp [mkX, mkL, rectE, capG_0, ownG_0, prs_nil, h1d, h2d, h3d]; done) | (rw [show rectE x0 y0 x1 y1 = 1 from if_neg (fun h => by omega)]; rfl) | rw [rectE_bad (fun h => by omega)]; rfl | rw [show rectE x0 y0 x1 y1 = 0 from if_pos ⟨by assumption, by omega, by omega, by omega, by omega⟩]; rfl | rw [rectE_bad (fun h => by simp_all)]; rfl)⟩ ?_)
        exact absW
    · have h2d := h2
      try simp only [Bool.not_eq_true', Bool.not_eq_false', decide_eq_true_eq, decide_eq_false_iff_not, beq_iff_eq, bne_iff_ne, ne_eq, Bool.not_eq_true, Bool.not_eq_false, beq_eq_false_iff_ne, bne_eq_false_iff_eq, Classical.not_not, Bool.and_eq_true, Bool.and_eq_false_imp] at h2d
      have g'9 := (jn @h2 (jn @h2d g'1))
      refine runTf g'9 ?_
      refine hQ _ _ (end_byG (.inl rfl) hbel (x1 := .tup [.agg [.int .i64 0, .int .i64 0, .sl none 0 (some 0)], .int .i64 1]) (l2 := [.cells false 2 []]) (.tup [.agg [.int .i64 0, .int .i64 0, .sl (some (H.length, 0)) 0 (some 0)], .int .i64 1]) (resT Tryz.results50) [.cells false 2 []] rfl [3] (by decide) ⟨(by first | (simp [mkX, mkL, rectE, capG_0, ownG_0, prs_nil, h1d, h2d]; done) | (rw [show rectE x0 y0 x1 y1 = 1 from if_neg (fun h => by omega)]; rfl) | rw [rectE_bad (fun h => by omega)]; rfl | rw [show rectE x0 y0 x1 y1 = 0 from if_pos ⟨by assumption, by omega, by omega, by omega, by omega⟩]; rfl | rw [rectE_bad (fun h => by simp_all)]; rfl), (by first | (simp [mkX, mkL, rectE, capG_0, ownG_0, prs_nil, h1d, h2d]; done) | (rw [show rectE x0 y0 x1 y1 = 1 from if_neg (fun h => by omega)]; rfl) | rw [rectE_bad (fun h => by omega)]; rfl | rw [show rectE x0 y0 x1 y1 = 0 from if_pos ⟨by assumption, by omega, by omega, by omega, by omega⟩]; rfl | rw [rectE_bad (fun h => by simp_all)]; rfl)⟩ ?_)
      exact absW
  · have h1d := h1
    try simp only [Bool.not_eq_true', Bool.not_eq_false', decide_eq_true_eq, decide_eq_false_iff_not, beq_iff_eq, bne_iff_ne, ne_eq, Bool.not_eq_true, Bool.not_eq_false, beq_eq_false_iff_ne, bne_eq_false_iff_eq, Classical.not_not, Bool.and_eq_true, Bool.and_eq_false_imp] at h1d
    have g'10 := (jn @h1 @h1d)
    refine runTf g'10 ?_
    refine hQ _ _ (end_byG (.inl rfl) hbel (x1 := .tup [.agg [.int .i64 0, .int .i64 0, .sl none 0 (some 0)], .int .i64 1]) (l2 := [.cells false 2 []]) (.tup [.agg [.int .i64 0, .int .i64 0, .sl (some (H.length, 0)) 0 (some 0)], .int .i64 1]) (resT Tryz.results50) [.cells false 2 []] rfl [3] (by decide) ⟨(by first | (simp [mkX, mkL, rectE, capG_0, ownG_0, prs_nil, h1d]; done) | (rw [show rectE x0 y0 x1 y1 = 1 from if_neg (fun h => by omega)]; rfl) | rw [rectE_bad (fun h => by omega)]; rfl | rw [show rectE x0 y0 x1 y1 = 0 from if_pos ⟨by assumption, by omega, by omega, by omega, by omega⟩]; rfl | rw [rectE_bad (fun h => by simp_all)]; rfl), (by first | (simp [mkX, mkL, rectE, capG_0, ownG_0, prs_nil, h1d]; done) | (rw [show rectE x0 y0 x1 y1 = 1 from if_neg (fun h => by omega)]; rfl) | rw [rectE_bad (fun h => by omega)]; rfl | rw [show rectE x0 y0 x1 y1 = 0 from if_pos ⟨by assumption, by omega, by omega, by omega, by omega⟩]; rfl | rw [rectE_bad (fun h => by simp_all)]; rfl)⟩ ?_)
    exact absW
set_option maxHeartbeats 4000000 in
set_option maxRecDepth 100000 in
theorem ofseg_c (H : AHeap) (x0 : Int) (y0 : Int) (x1 : Int) (y1 : Int) : ACalls Tryz.prog 54 [.agg [.int .i64 x0, .int .i64 y0], .agg [.int .i64 x1, .int .i64 y1]] H (fun v H' => v = .tup [.agg [.int .i64 (mkX (segE x0 y0 x1 y1) (x0 + x1)), .int .i64 (mkX (segE x0 y0 x1 y1) (y0 + y1)), .sl (some (H.length, 0)) ((mkL (segE x0 y0 x1 y1) (canonL [(x1 - x0, y1 - y0)])).length) (capG (mkL (segE x0 y0 x1 y1) (canonL [(x1 - x0, y1 - y0)])).length)], .int .i64 (segE x0 y0 x1 y1)] ∧ H' = H ++ [.cells (ownG (mkL (segE x0 y0 x1 y1) (canonL [(x1 - x0, y1 - y0)])).length) 2 (prs (mkL (segE x0 y0 x1 y1) (canonL [(x1 - x0, y1 - y0)])))]) := by
  (refine ACalls_run try_mixed Tryz.func54 true _ rfl (Nat.le_of_ble_eq_true (by kernel_rfl)) (by kernel_rfl) ?_; intro hbel Q hQ hQ' c hc; unfold Tryz.f54 at hc; simp only [Option.some.injEq] at hc; subst hc; clear hQ')
  refine runT ?_
  refine call_v (by kernel_rfl) (near_c _ _ [x0, y0, x1, y1] (.inr ⟨_, _, _, by first | rfl | (rw [List.length_append]; rfl), by first | rfl | (rw [get_newk]; rfl) | (rw [get_new0]; rfl) | (rw [get_newk, prs_append]; rfl) | (rw [get_new0, prs_append]; rfl)⟩) (by simp)) ?_
  rw [far4_any]
  refine runT ?_
  refine gd_split (fun h1 => ?_) (fun h1 => ?_)
  · have h1d := h1
    try simp only [Bool.not_eq_true', Bool.not_eq_false', decide_eq_true_eq, decide_eq_false_iff_not, beq_iff_eq, bne_iff_ne, ne_eq, Bool.not_eq_true, Bool.not_eq_false, beq_eq_false_iff_ne, bne_eq_false_iff_eq, Classical.not_not, Bool.and_eq_true, Bool.and_eq_false_imp] at h1d
    have hfar := far4_bd h1d
    have g'11 := (jn @h1 @h1d)
    refine runTf g'11 ?_
    refine call_v (by kernel_rfl) (size_c _ _ _ (by decide)) ?_
    refine runTf g'11 ?_
    refine gd_split (fun h2 => ?_) (fun h2 => ?_)
    · have h2d := h2
      try simp only [Bool.not_eq_true', Bool.not_eq_false', decide_eq_true_eq, decide_eq_false_iff_not, beq_iff_eq, bne_iff_ne, ne_eq, Bool.not_eq_true, Bool.not_eq_false, beq_eq_false_iff_ne, bne_eq_false_iff_eq, Classical.not_not, Bool.and_eq_true, Bool.and_eq_false_imp] at h2d
      have g'12 := (jn @h2 (jn @h2d g'11))
      refine runTf g'12 ?_
      refine call_v (by kernel_rfl) (size_c _ _ _ (by decide)) ?_
      refine runTf g'12 ?_
      refine cond_split (fun h3 => ?_) (fun h3 => ?_)
      · have h3d := h3
        try simp only [Bool.not_eq_true', Bool.not_eq_false', decide_eq_true_eq, decide_eq_false_iff_not, beq_iff_eq, bne_iff_ne, ne_eq, Bool.not_eq_true, Bool.not_eq_false, beq_eq_false_iff_ne, bne_eq_false_iff_eq, Classical.not_not, Bool.and_eq_true, Bool.and_eq_false_imp] at h3d
        have g'13 := (jn @h3 (jn @h3d g'12))
        refine runTf g'13 ?_
        refine hQ _ _ (end_byG (.inl rfl) hbel (x1 := .tup [.agg [.int .i64 0, .int .i64 0, .sl none 0 (some 0)], .int .i64 1]) (l2 := [.cells false 2 []]) (.tup [.agg [.int .i64 0, .int .i64 0, .sl (some (H.length, 0)) 0 (some 0)], .int .i64 1]) (resT Tryz.results54) [.cells false 2 []] rfl [4] (by decide) ⟨by simp [mkX, mkL, segE, capG_0, ownG_0, prs_nil, h1d, h2d, h3d], by simp [mkX, mkL, segE, capG_0, ownG_0, prs_nil, h1d, h2d, h3d]⟩ ?_)
        exact absW
      · have h3d := h3
        try simp only [Bool.not_eq_true', Bool.not_eq_false', decide_eq_true_eq, decide_eq_false_iff_not, beq_iff_eq, bne_iff_ne, ne_eq, Bool.not_eq_true, Bool.not_eq_false, beq_eq_false_iff_ne, bne_eq_false_iff_eq, Classical.not_not, Bool.and_eq_true, Bool.and_eq_false_imp] at h3d
        have g'14 := (jn @h3 (jn @h3d g'12))
        refine runTf g'14 ?_
        have hB4 : ∀ e ∈ [((x1 - x0 : Int), (y1 - y0 : Int))], Bd 4194304 e := fun e he => by
          simp only [List.mem_cons, List.not_mem_nil, or_false] at he
          first | (rcases he with rfl | rfl <;> (unfold Bd; simp only; omega)) | (subst he; unfold Bd; simp only; omega)
        refine call_v (by kernel_rfl) (canonical_u _ (x0 + x1) (y0 + y1) _ [(x1 - x0, y1 - y0)] (.inr ⟨_, _, _, by first | rfl | (rw [List.length_append]; rfl), by first | rfl | (rw [get_newk]; rfl) | (rw [get_new0]; rfl) | (rw [get_newk, prs_append]; rfl) | (rw [get_new0, prs_append]; rfl)⟩) (by first | omega | (simp only [List.length_cons, List.length_nil]; omega) | exact Nat.le_trans (mkL_len _ _) (by first | omega | simp) | exact Nat.le_trans (vL_len _ _) (by first | omega | simp) | exact Nat.le_trans corV_len (by omega) | exact Nat.le_trans (canonL_len _) (by first | omega | simp)) (by assumption)) ?_
        refine runTf g'14 ?_
        refine hQ _ _ (end_byG (.inl rfl) hbel (x1 := .tup [.agg [.int .i64 (x0 + x1), .int .i64 (y0 + y1), .sl (some (H.length + 5, 0)) ((canonL [(x1 - x0, y1 - y0)]).length) (capG (canonL [(x1 - x0, y1 - y0)]).length)], .int .i64 0]) (l2 := [.cells (ownG (canonL [(x1 - x0, y1 - y0)]).length) 2 (prs (canonL [(x1 - x0, y1 - y0)]))]) (.tup [.agg [.int .i64 (x0 + x1), .int .i64 (y0 + y1), .sl (some (H.length, 0)) ((canonL [(x1 - x0, y1 - y0)]).length) (capG (canonL [(x1 - x0, y1 - y0)]).length)], .int .i64 0]) (resT Tryz.results54) [] rfl [5] (by decide) ⟨by simp [mkX, mkL, segE, capG_0, ownG_0, prs_nil, h1d, h2d, h3d], by simp [mkX, mkL, segE, capG_0, ownG_0, prs_nil, h1d, h2d, h3d]⟩ ?_)
        exact absW
    · have h2d := h2
      try simp only [Bool.not_eq_true', Bool.not_eq_false', decide_eq_true_eq, decide_eq_false_iff_not, beq_iff_eq, bne_iff_ne, ne_eq, Bool.not_eq_true, Bool.not_eq_false, beq_eq_false_iff_ne, bne_eq_false_iff_eq, Classical.not_not, Bool.and_eq_true, Bool.and_eq_false_imp] at h2d
      have g'15 := (jn @h2 (jn @h2d g'11))
      refine runTf g'15 ?_
      refine hQ _ _ (end_byG (.inl rfl) hbel (x1 := .tup [.agg [.int .i64 0, .int .i64 0, .sl none 0 (some 0)], .int .i64 1]) (l2 := [.cells false 2 []]) (.tup [.agg [.int .i64 0, .int .i64 0, .sl (some (H.length, 0)) 0 (some 0)], .int .i64 1]) (resT Tryz.results54) [.cells false 2 []] rfl [4] (by decide) ⟨by simp [mkX, mkL, segE, capG_0, ownG_0, prs_nil, h1d, h2d], by simp [mkX, mkL, segE, capG_0, ownG_0, prs_nil, h1d, h2d]⟩ ?_)
      exact absW
  · have h1d := h1
    try simp only [Bool.not_eq_true', Bool.not_eq_false', decide_eq_true_eq, decide_eq_false_iff_not, beq_iff_eq, bne_iff_ne, ne_eq, Bool.not_eq_true, Bool.not_eq_false, beq_eq_false_iff_ne, bne_eq_false_iff_eq, Classical.not_not, Bool.and_eq_true, Bool.and_eq_false_imp] at h1d
    have g'16 := (jn @h1 @h1d)
    refine runTf g'16 ?_
    refine hQ _ _ (end_byG (.inl rfl) hbel (x1 := .tup [.agg [.int .i64 0, .int .i64 0, .sl none 0 (some 0)], .int .i64 1]) (l2 := [.cells false 2 []]) (.tup [.agg [.int .i64 0, .int .i64 0, .sl (some (H.length, 0)) 0 (some 0)], .int .i64 1]) (resT Tryz.results54) [.cells false 2 []] rfl [4] (by decide) ⟨by simp [mkX, mkL, segE, capG_0, ownG_0, prs_nil, h1d], by simp [mkX, mkL, segE, capG_0, ownG_0, prs_nil, h1d]⟩ ?_)
    exact absW
end Go.Proofs.YtoimakfecmhjkaaGreat

/- The library's Grow of nothing at points, for the abstract machine. Conditions: as each theorem states. -/
namespace Go.Proofs.YtoimakfecmhjkaaGreat
set_option linter.unusedSimpArgs false
set_option linter.unusedVariables false
open Go.RowKit Go.Sort
set_option maxRecDepth 100000 in
theorem grow_a {H : AHeap} {n : Nat} (h0 : 0 < n) (h1 : n ≤ 1000) : ACalls Tryz.prog 163 [.sl none 0 (some 0), .int .i64 n] H
    (fun v H' => v = .sl (some (H.length, 0)) 0 none ∧ H' = H ++ [.cells true 2 []]) := fun E w vs hE hv => by
  obtain ⟨v1, l1, rfl, k1, h1'⟩ := rels_cons hv
  obtain ⟨v2, l2, rfl, k2, h2'⟩ := rels_cons h1'
  obtain rfl := rels_nil h2'
  obtain rfl := rel_int k2
  obtain rfl : v1 = .slice none 0 0 := by cases k1; rfl
  have hby : Tryz.prog.types[Tryz.grow163_ren.t 25].bytes = 16 := by kernel_rfl
  have h := Any8.slices_Grow_grow Tryz.grow163 _ _ rfl rfl (by decide) none 0 0 n [] w (Nat.le_refl _) (by omega) (by rw [hby]; omega) (by omega) rfl (fun _ => rfl) (fun a ha => by cases ha)
  refine Calls.mono h ?_
  rintro e w' ⟨rfl, rfl⟩
  have g1 := grownCap_ge w (0 + n) 0 (Tryz.grow163_ren.t 25)
  have g2 := grownCap_le_maxLen w (0 + n) 0 (Tryz.grow163_ren.t 25) (by unfold maxLen; omega)
  generalize grownCap w (0 + n) 0 (Tryz.grow163_ren.t 25) = G at *
  clear hby h
  generalize ht : Tryz.grow163_ren.t 25 = t at *
  have hsz : (#[] ++ Builtin.zeroCells (Value.agg #[Value.int .i64 0, Value.int .i64 0]).cells (0 + n - 0) ++ Builtin.zeroCells (Value.agg #[Value.int .i64 0, Value.int .i64 0]).cells (G - (0 + n))).size = G * 2 := by
    have e : (Value.agg #[Value.int .i64 0, Value.int .i64 0]).cells.size = 2 := rfl
    rw [Array.size_append, Array.size_append, size_zeroCells, size_zeroCells, e]
    simp; omega
  generalize (#[] ++ Builtin.zeroCells (Value.agg #[Value.int .i64 0, Value.int .i64 0]).cells (0 + n - 0) ++ Builtin.zeroCells (Value.agg #[Value.int .i64 0, Value.int .i64 0]).cells (G - (0 + n))) = arr at *
  have hb : Below w.heap.size w (w.drew.alloc (.cells arr t)) := (below_drewN (Below.refl _ _) 1).alloc (Nat.le_refl _) _
  refine ⟨E.push ⟨w.heap.size, 0, G * 2, 2⟩, _, _, .sl (some (H.length, 0)) 0 none, rfl, ⟨rfl, rfl⟩, E.le_push _, ?_, ?_⟩
  · have e1 : (E.push ⟨w.heap.size, 0, G * 2, 2⟩).loc H.length = ⟨w.heap.size, 0, G * 2, 2⟩ := by rw [← hE.n]; exact Env.push_new _ _
    refine .sl _ _ _ _ _ _ (by simp [Env.push, hE.n]) (Nat.zero_le _) g2 (.inl rfl) (.inr (by rw [e1])) ?_
    rw [e1]; simp
  · refine hE.grow (row := none) ⟨hb.os, hb.tape, hb.output, hb.size, fun k hk _ => hb.block k hk⟩ (fun k hk => by cases hk) rfl (fun c x hx => .inr ⟨hx, fun _ => by simp⟩) _ _ ?_ (fun c x hx ho => ?_)
    · refine ⟨fun j x hj => by simp at hj, fun _ => ⟨hE.base, ?_, rfl, Nat.zero_le _, fun j hj => ?_⟩, (fun hf => by cases hf), rfl⟩
      · show w.heap.size < (w.drew.heap.push _).size
        rw [Array.size_push]; exact Nat.lt_succ_self _
      · have e1 := World.cell?_alloc_at (w := w.drew) arr t w.heap.size (0 + j) rfl
        have e2 := World.frozen?_alloc_at (w := w.drew) arr t w.heap.size (0 + j) rfl
        refine ⟨?_, e2⟩
        have hj' : j < G * 2 := hj
        rw [e1, Array.getElem?_eq_getElem (by rw [hsz]; omega)]; rfl
    · have := hE.ownLt hx ho
      show (E.loc c).blk ≠ w.heap.size
      omega
end Go.Proofs.YtoimakfecmhjkaaGreat

/- Walks by the abstract machine: slices.Concat. Conditions: as each theorem states. -/
namespace Go.Proofs.YtoimakfecmhjkaaGreat
set_option linter.unusedSimpArgs false
set_option linter.unusedVariables false
open Go.RowKit
theorem prs_all {l : List Pt} : (prs l).take (l.length * 2) = prs l := by rw [prs_take, List.take_length]
def pre2 (a b : Nat) : Nat → Nat
  | 0 => 0
  | 1 => a
  | _ + 2 => a + b
def appL (l m : List Pt) : Nat → List Pt
  | 0 => []
  | 1 => l
  | _ + 2 => l ++ m
theorem grow_0 {H : AHeap} {n : Int} (hn : n = 0) : ACalls Tryz.prog 163 [.sl none 0 (some 0), .int .i64 n] H
    (fun v H' => v = .sl none 0 (some 0) ∧ H' = H) := fun E w vs hE hv => by
  obtain ⟨v1, l1, rfl, k1, h1'⟩ := rels_cons hv
  obtain ⟨v2, l2, rfl, k2, h2'⟩ := rels_cons h1'
  obtain rfl := rels_nil h2'
  obtain rfl := rel_int k2
  subst hn
  obtain rfl : v1 = .slice none 0 0 := by cases k1; rfl
  have h := Any8.slices_Grow_room Tryz.grow163 none 0 0 0 w (Nat.le_refl _) (by omega) (by omega) (by omega)
  refine Calls.mono h ?_
  rintro e w' ⟨rfl, rfl⟩
  exact ⟨E, _, _, _, rfl, ⟨rfl, rfl⟩, Env.le.refl E, .nilsl, hE⟩
set_option maxHeartbeats 4000000 in
set_option maxRecDepth 100000 in
theorem concat_0m (H : AHeap) (s : AV) (t : AV) (m : List (Int × Int)) (w : AV) (hs : Sl H 2 s 0 []) (ht : Sl H 2 t m.length (prs m)) (hw : Sl H 1 w 2 [s, t]) (hl0 : 0 < m.length) (hl1 : m.length ≤ 500) : ACalls Tryz.prog 110 [w] H (fun v H' => v = .sl (some (H.length, 0)) m.length (capG m.length) ∧ H' = H ++ [.cells (ownG m.length) 2 (prs m)]) := by
  obtain ⟨bs, os, cs, rfl, hbs⟩ := hs
  have hbls := getElem?_lt hbs
  have hb0s := fun l => get_app (l := l) hbs
  obtain ⟨bt, ot, ct, rfl, hbt⟩ := ht
  have hblt := getElem?_lt hbt
  have hb0t := fun l => get_app (l := l) hbt
  obtain ⟨bw, ow, cw, rfl, hbw⟩ := hw
  have hblw := getElem?_lt hbw
  have hb0w := fun l => get_app (l := l) hbw
  have hz : (m.length == 0) = false := beq_eq_false_iff_ne.2 (by omega)
  have hs0 : (((pre2 0 m.length 0) : Nat) : Int) + 0 = (((pre2 0 m.length 1) : Nat) : Int) := by simp [pre2]
  have hs1 : (((pre2 0 m.length 1) : Nat) : Int) + ((m.length : Nat) : Int) = (((pre2 0 m.length 2) : Nat) : Int) := by simp [pre2]
  have hb1 : (pre2 0 m.length 1) ≤ 500 := by simp only [pre2]; omega
  have hb2 : (pre2 0 m.length 2) ≤ 1000 := by simp only [pre2]; omega
  have hn1 : (((pre2 0 m.length 1) : Nat) : Int) < 0 ↔ False := ⟨fun h => by omega, fun h => h.elim⟩
  have hn2 : (((pre2 0 m.length 2) : Nat) : Int) < 0 ↔ False := ⟨fun h => by omega, fun h => h.elim⟩
  (refine ACalls_run try_mixed Tryz.func110 true _ rfl (Nat.le_of_ble_eq_true (by kernel_rfl)) (by kernel_rfl) ?_; intro hbel Q hQ hQ' c hc; unfold Tryz.f110 at hc; simp only [Option.some.injEq] at hc; subst hc; clear hQ')
  have g'1 := (jn @hbs (jn @hb0s (jn @hbt (jn @hb0t (jn @hbw (jn @hb0w (jn @hs0 (jn @hs1 (jn @hn1 (jn @hn2 (jn @decide_false (jn @hz (jn @appL.eq_1 (jn @appL.eq_2 (jn @appL.eq_3 (jn @prs_nil (jn @List.length_nil.{0} (jn @Nat.zero_add @List.nil_append.{0}))))))))))))))))))
  refine runTf g'1 ?_
  refine go_loop try_mixed (by kernel_rfl) (fun k F Hx => ∃ j : Nat, j + k = 2 ∧ F = [(0, .sl (some (bw, 0)) 2 cw), (3, .int .i64 (((pre2 0 m.length j) : Nat) : Int)), (9, .sl (some (bw, 0)) 2 cw), (10, .int .i64 2), (11, .int .i64 ((j : Nat) : Int))] ∧ H = Hx) (2) ?_ ?_
  · refine ⟨_, _, _, ⟨0, by omega, rfl, rfl⟩, Abs.by0 hbel ?_⟩
    exact absWf (jn @pre2.eq_1 (jn @Int.natCast_zero @Int.ofNat_zero))
  · rintro k0 F Hx ⟨j, hm0, rfl, rfl⟩ J0 hJ0
    refine runTf g'1 ?_
    refine cond_split (fun h1 => ?_) (fun h1 => ?_)
    · have h1d := h1
      try simp only [Bool.not_eq_true', Bool.not_eq_false', decide_eq_true_eq, decide_eq_false_iff_not, beq_iff_eq, bne_iff_ne, ne_eq, Bool.not_eq_true, Bool.not_eq_false, beq_eq_false_iff_ne, bne_eq_false_iff_eq, Classical.not_not, Bool.and_eq_true, Bool.and_eq_false_imp] at h1d
      obtain rfl | rfl := (by omega : j = 0 ∨ j = 1)
      · skip
        have g'2 := (jn @h1 (jn @h1d g'1))
        refine runTf g'2 ?_
        refine hJ0 _ _ ⟨k0 - 1, by omega, _, _, _, ⟨0 + 1, by omega, rfl, rfl⟩, Abs.by0 hbel ?_⟩
        exact absWf (jn @hs0 @hs1)
      · skip
        have g'3 := (jn @h1 (jn @h1d g'1))
        refine runTf g'3 ?_
        refine hJ0 _ _ ⟨k0 - 1, by omega, _, _, _, ⟨1 + 1, by omega, rfl, rfl⟩, Abs.by0 hbel ?_⟩
        exact absWf (jn @hs0 @hs1)
    · have h1d := h1
      try simp only [Bool.not_eq_true', Bool.not_eq_false', decide_eq_true_eq, decide_eq_false_iff_not, beq_iff_eq, bne_iff_ne, ne_eq, Bool.not_eq_true, Bool.not_eq_false, beq_eq_false_iff_ne, bne_eq_false_iff_eq, Classical.not_not, Bool.and_eq_true, Bool.and_eq_false_imp] at h1d
      obtain rfl : j = 2 := by omega
      have g'4 := (jn @h1 (jn @h1d g'1))
      refine runTf g'4 ?_
      refine call_v (by kernel_rfl) (grow_a (n := (pre2 0 m.length 2)) (by simp [pre2]; omega) (by omega)) ?_
      refine runTf g'4 ?_
      refine go_loop try_mixed (by kernel_rfl) (fun k F Hx => ∃ j : Nat, j + k = 2 ∧ F = [(6, .sl (some (H.length, 0)) ((appL [] m j).length) none), (25, .sl (some (bw, 0)) 2 cw), (26, .int .i64 2), (27, .int .i64 ((j : Nat) : Int))] ∧ Hx = H ++ [.cells true 2 (prs (appL [] m j))]) (2) ?_ ?_
      · refine ⟨_, _, _, ⟨0, by omega, rfl, rfl⟩, Abs.byG hbel [] rfl [0] (by decide) ?_⟩
        exact absRf @appL.eq_1
      · rintro k1 F Hx ⟨j, hm1, rfl, rfl⟩ J1 hJ1
        have g'5 := (jn @prs_len (jn @prs_one g'4))
        refine runTf g'5 ?_
        refine cond_split (fun h2 => ?_) (fun h2 => ?_)
        · have h2d := h2
          try simp only [Bool.not_eq_true', Bool.not_eq_false', decide_eq_true_eq, decide_eq_false_iff_not, beq_iff_eq, bne_iff_ne, ne_eq, Bool.not_eq_true, Bool.not_eq_false, beq_eq_false_iff_ne, bne_eq_false_iff_eq, Classical.not_not, Bool.and_eq_true, Bool.and_eq_false_imp] at h2d
          obtain rfl | rfl := (by omega : j = 0 ∨ j = 1)
          · skip
            have g'6 := (jn @h2 (jn @h2d g'5))
            refine runTf g'6 ?_
            refine hJ1 _ _ ⟨k1 - 1, by omega, _, _, _, ⟨0 + 1, by omega, rfl, rfl⟩, Abs.byG hbel [] rfl [0] (by decide) ?_⟩
            exact absRf (jn @appL.eq_1 (jn @appL.eq_2 @appL.eq_3))
          · skip
            have g'7 := (jn @h2 (jn @h2d (jn @prs_all g'5)))
            refine runTf g'7 ?_
            refine hJ1 _ _ ⟨k1 - 1, by omega, _, _, _, ⟨1 + 1, by omega, rfl, rfl⟩, Abs.byG hbel [] rfl [1] (by decide) ?_⟩
            exact absRf (jn @appL.eq_1 (jn @appL.eq_2 @appL.eq_3))
        · have h2d := h2
          try simp only [Bool.not_eq_true', Bool.not_eq_false', decide_eq_true_eq, decide_eq_false_iff_not, beq_iff_eq, bne_iff_ne, ne_eq, Bool.not_eq_true, Bool.not_eq_false, beq_eq_false_iff_ne, bne_eq_false_iff_eq, Classical.not_not, Bool.and_eq_true, Bool.and_eq_false_imp] at h2d
          obtain rfl : j = 2 := by omega
          have g'8 := (jn @h2 (jn @h2d g'5))
          refine runTf g'8 ?_
          refine hQ _ _ (end_byG (.inl rfl) hbel (x1 := .sl (some (H.length, 0)) ((appL [] m 2).length) none) (l2 := [.cells true 2 (prs (appL [] m 2))]) (.sl (some (H.length, 0)) ((appL [] m 2).length) none) (resTf (jn @appL.eq_3 @List.nil_append.{0}) Tryz.results110) [] rfl [0] (by decide) ⟨by simp [appL, capG_p hl0, ownG_p hl0], by simp [appL, capG_p hl0, ownG_p hl0]⟩ ?_)
          exact absW
set_option maxHeartbeats 4000000 in
set_option maxRecDepth 100000 in
theorem concat_lm (H : AHeap) (s : AV) (l : List (Int × Int)) (t : AV) (m : List (Int × Int)) (w : AV) (hs : Sl H 2 s l.length (prs l)) (ht : Sl H 2 t m.length (prs m)) (hw : Sl H 1 w 2 [s, t]) (hl0 : 0 < l.length) (hl1 : l.length ≤ 500) (hl2 : m.length ≤ 500) : ACalls Tryz.prog 110 [w] H (fun v H' => v = .sl (some (H.length, 0)) ((l ++ m).length) (capG (l ++ m).length) ∧ H' = H ++ [.cells (ownG (l ++ m).length) 2 (prs (l ++ m))]) := by
  obtain ⟨bs, os, cs, rfl, hbs⟩ := hs
  have hbls := getElem?_lt hbs
  have hb0s := fun l => get_app (l := l) hbs
  obtain ⟨bt, ot, ct, rfl, hbt⟩ := ht
  have hblt := getElem?_lt hbt
  have hb0t := fun l => get_app (l := l) hbt
  obtain ⟨bw, ow, cw, rfl, hbw⟩ := hw
  have hblw := getElem?_lt hbw
  have hb0w := fun l => get_app (l := l) hbw
  have hz : (l.length == 0) = false := beq_eq_false_iff_ne.2 (by omega)
  have hz2 : (l.length + m.length == 0) = false := beq_eq_false_iff_ne.2 (by omega)
  have hs0 : (((pre2 l.length m.length 0) : Nat) : Int) + ((l.length : Nat) : Int) = (((pre2 l.length m.length 1) : Nat) : Int) := by simp [pre2]
  have hs1 : (((pre2 l.length m.length 1) : Nat) : Int) + ((m.length : Nat) : Int) = (((pre2 l.length m.length 2) : Nat) : Int) := by simp [pre2]
  have hb1 : (pre2 l.length m.length 1) ≤ 500 := by simp only [pre2]; omega
  have hb2 : (pre2 l.length m.length 2) ≤ 1000 := by simp only [pre2]; omega
  have hn1 : (((pre2 l.length m.length 1) : Nat) : Int) < 0 ↔ False := ⟨fun h => by omega, fun h => h.elim⟩
  have hn2 : (((pre2 l.length m.length 2) : Nat) : Int) < 0 ↔ False := ⟨fun h => by omega, fun h => h.elim⟩
  (refine ACalls_run try_mixed Tryz.func110 true _ rfl (Nat.le_of_ble_eq_true (by kernel_rfl)) (by kernel_rfl) ?_; intro hbel Q hQ hQ' c hc; unfold Tryz.f110 at hc; simp only [Option.some.injEq] at hc; subst hc; clear hQ')
  have g'9 := (jn @hbs (jn @hb0s (jn @hbt (jn @hb0t (jn @hbw (jn @hb0w (jn @hs0 (jn @hs1 (jn @hn1 (jn @hn2 (jn @decide_false (jn @hz (jn @hz2 (jn @appL.eq_1 (jn @appL.eq_2 (jn @appL.eq_3 (jn @prs_nil (jn @List.length_nil.{0} (jn @Nat.zero_add @List.nil_append.{0})))))))))))))))))))
  refine runTf g'9 ?_
  refine go_loop try_mixed (by kernel_rfl) (fun k F Hx => ∃ j : Nat, j + k = 2 ∧ F = [(0, .sl (some (bw, 0)) 2 cw), (3, .int .i64 (((pre2 l.length m.length j) : Nat) : Int)), (9, .sl (some (bw, 0)) 2 cw), (10, .int .i64 2), (11, .int .i64 ((j : Nat) : Int))] ∧ H = Hx) (2) ?_ ?_
  · refine ⟨_, _, _, ⟨0, by omega, rfl, rfl⟩, Abs.by0 hbel ?_⟩
    exact absWf (jn @pre2.eq_1 (jn @Int.natCast_zero @Int.ofNat_zero))
  · rintro k0 F Hx ⟨j, hm0, rfl, rfl⟩ J0 hJ0
    refine runTf g'9 ?_
    refine cond_split (fun h1 => ?_) (fun h1 => ?_)
    · have h1d := h1
      try simp only [Bool.not_eq_true', Bool.not_eq_false', decide_eq_true_eq, decide_eq_false_iff_not, beq_iff_eq, bne_iff_ne, ne_eq, Bool.not_eq_true, Bool.not_eq_false, beq_eq_false_iff_ne, bne_eq_false_iff_eq, Classical.not_not, Bool.and_eq_true, Bool.and_eq_false_imp] at h1d
      obtain rfl | rfl := (by omega : j = 0 ∨ j = 1)
      · skip
        have g'10 := (jn @h1 (jn @h1d g'9))
        refine runTf g'10 ?_
        refine hJ0 _ _ ⟨k0 - 1, by omega, _, _, _, ⟨0 + 1, by omega, rfl, rfl⟩, Abs.by0 hbel ?_⟩
        exact absWf (jn @hs0 @hs1)
      · skip
        have g'11 := (jn @h1 (jn @h1d g'9))
        refine runTf g'11 ?_
        refine hJ0 _ _ ⟨k0 - 1, by omega, _, _, _, ⟨1 + 1, by omega, rfl, rfl⟩, Abs.by0 hbel ?_⟩
        exact absWf (jn @hs0 @hs1)
    · have h1d := h1
      try simp only [Bool.not_eq_true', Bool.not_eq_false', decide_eq_true_eq, decide_eq_false_iff_not, beq_iff_eq, bne_iff_ne, ne_eq, Bool.not_eq_true, Bool.not_eq_false, beq_eq_false_iff_ne, bne_eq_false_iff_eq, Classical.not_not, Bool.and_eq_true, Bool.and_eq_false_imp] at h1d
      obtain rfl : j = 2 := by omega
      have g'12 := (jn @h1 (jn @h1d g'9))
      refine runTf g'12 ?_
      refine call_v (by kernel_rfl) (grow_a (n := (pre2 l.length m.length 2)) (by simp [pre2]; omega) (by omega)) ?_
      refine runTf g'12 ?_
      refine go_loop try_mixed (by kernel_rfl) (fun k F Hx => ∃ j : Nat, j + k = 2 ∧ F = [(6, .sl (some (H.length, 0)) ((appL l m j).length) none), (25, .sl (some (bw, 0)) 2 cw), (26, .int .i64 2), (27, .int .i64 ((j : Nat) : Int))] ∧ Hx = H ++ [.cells true 2 (prs (appL l m j))]) (2) ?_ ?_
      · refine ⟨_, _, _, ⟨0, by omega, rfl, rfl⟩, Abs.byG hbel [] rfl [0] (by decide) ?_⟩
        exact absRf @appL.eq_1
      · rintro k1 F Hx ⟨j, hm1, rfl, rfl⟩ J1 hJ1
        have g'13 := (jn @prs_len (jn @prs_one g'12))
        refine runTf g'13 ?_
        refine cond_split (fun h2 => ?_) (fun h2 => ?_)
        · have h2d := h2
          try simp only [Bool.not_eq_true', Bool.not_eq_false', decide_eq_true_eq, decide_eq_false_iff_not, beq_iff_eq, bne_iff_ne, ne_eq, Bool.not_eq_true, Bool.not_eq_false, beq_eq_false_iff_ne, bne_eq_false_iff_eq, Classical.not_not, Bool.and_eq_true, Bool.and_eq_false_imp] at h2d
          obtain rfl | rfl := (by omega : j = 0 ∨ j = 1)
          · skip
            have g'14 := (jn @h2 (jn @h2d (jn @prs_all g'13)))
            refine runTf g'14 ?_
            refine hJ1 _ _ ⟨k1 - 1, by omega, _, _, _, ⟨0 + 1, by omega, rfl, rfl⟩, Abs.byG hbel [] rfl [1] (by decide) ?_⟩
            exact absRf (jn @appL.eq_1 (jn @appL.eq_2 @appL.eq_3))
          · skip
            have g'15 := (jn @h2 (jn @h2d (jn @prs_all g'13)))
            refine runTf g'15 ?_
            refine hJ1 _ _ ⟨k1 - 1, by omega, _, _, _, ⟨1 + 1, by omega, rfl, rfl⟩, Abs.byG hbel [] rfl [1] (by decide) ?_⟩
            exact absRf (jn @appL.eq_1 (jn @appL.eq_2 @appL.eq_3))
        · have h2d := h2
          try simp only [Bool.not_eq_true', Bool.not_eq_false', decide_eq_true_eq, decide_eq_false_iff_not, beq_iff_eq, bne_iff_ne, ne_eq, Bool.not_eq_true, Bool.not_eq_false, beq_eq_false_iff_ne, bne_eq_false_iff_eq, Classical.not_not, Bool.and_eq_true, Bool.and_eq_false_imp] at h2d
          obtain rfl : j = 2 := by omega
          have g'16 := (jn @h2 (jn @h2d g'13))
          refine runTf g'16 ?_
          refine hQ _ _ (end_byG (.inl rfl) hbel (x1 := .sl (some (H.length, 0)) ((appL l m 2).length) none) (l2 := [.cells true 2 (prs (appL l m 2))]) (.sl (some (H.length, 0)) ((appL l m 2).length) none) (resTf (jn @appL.eq_3 @List.length_append.{0}) Tryz.results110) [] rfl [0] (by decide) ⟨by have hlm : 0 < (l ++ m).length := (by rw [List.length_append]; omega); rw [show appL l m 2 = l ++ m from rfl, capG_p hlm], by have hlm : 0 < (l ++ m).length := (by rw [List.length_append]; omega); rw [show appL l m 2 = l ++ m from rfl, ownG_p hlm]⟩ ?_)
          exact absW
set_option maxHeartbeats 4000000 in
set_option maxRecDepth 100000 in
theorem concat_00 (H : AHeap) (s : AV) (t : AV) (w : AV) (hs : Sl H 2 s 0 []) (ht : Sl H 2 t 0 []) (hw : Sl H 1 w 2 [s, t]) : ACalls Tryz.prog 110 [w] H (fun v H' => v = .sl (some (H.length, 0)) (([] : List Pt).length) (capG ([] : List Pt).length) ∧ H' = H ++ [.cells (ownG ([] : List Pt).length) 2 (prs ([] : List Pt))]) := by
  obtain ⟨bs, os, cs, rfl, hbs⟩ := hs
  have hbls := getElem?_lt hbs
  have hb0s := fun l => get_app (l := l) hbs
  obtain ⟨bt, ot, ct, rfl, hbt⟩ := ht
  have hblt := getElem?_lt hbt
  have hb0t := fun l => get_app (l := l) hbt
  obtain ⟨bw, ow, cw, rfl, hbw⟩ := hw
  have hblw := getElem?_lt hbw
  have hb0w := fun l => get_app (l := l) hbw
  have hs0 : (((pre2 0 0 0) : Nat) : Int) + 0 = (((pre2 0 0 1) : Nat) : Int) := by simp [pre2]
  have hs1 : (((pre2 0 0 1) : Nat) : Int) + 0 = (((pre2 0 0 2) : Nat) : Int) := by simp [pre2]
  have hb1 : (pre2 0 0 1) ≤ 500 := by simp only [pre2]; omega
  have hb2 : (pre2 0 0 2) ≤ 1000 := by simp only [pre2]; omega
  have hn1 : (((pre2 0 0 1) : Nat) : Int) < 0 ↔ False := ⟨fun h => by omega, fun h => h.elim⟩
  have hn2 : (((pre2 0 0 2) : Nat) : Int) < 0 ↔ False := ⟨fun h => by omega, fun h => h.elim⟩
  (refine ACalls_run try_mixed Tryz.func110 true _ rfl (Nat.le_of_ble_eq_true (by kernel_rfl)) (by kernel_rfl) ?_; intro hbel Q hQ hQ' c hc; unfold Tryz.f110 at hc; simp only [Option.some.injEq] at hc; subst hc; clear hQ')
  have g'17 := (jn @hbs (jn @hb0s (jn @hbt (jn @hb0t (jn @hbw (jn @hb0w (jn @hs0 (jn @hs1 (jn @hn1 (jn @hn2 (jn @decide_false (jn @List.length_nil.{0} @Nat.zero_add))))))))))))
  refine runTf g'17 ?_
  refine go_loop try_mixed (by kernel_rfl) (fun k F Hx => ∃ j : Nat, j + k = 2 ∧ F = [(0, .sl (some (bw, 0)) 2 cw), (3, .int .i64 (((pre2 0 0 j) : Nat) : Int)), (9, .sl (some (bw, 0)) 2 cw), (10, .int .i64 2), (11, .int .i64 ((j : Nat) : Int))] ∧ H = Hx) (2) ?_ ?_
  · refine ⟨_, _, _, ⟨0, by omega, rfl, rfl⟩, Abs.by0 hbel ?_⟩
    exact absWf (jn @pre2.eq_1 (jn @Int.natCast_zero @Int.ofNat_zero))
  · rintro k0 F Hx ⟨j, hm0, rfl, rfl⟩ J0 hJ0
    refine runTf g'17 ?_
    refine cond_split (fun h1 => ?_) (fun h1 => ?_)
    · have h1d := h1
      try simp only [Bool.not_eq_true', Bool.not_eq_false', decide_eq_true_eq, decide_eq_false_iff_not, beq_iff_eq, bne_iff_ne, ne_eq, Bool.not_eq_true, Bool.not_eq_false, beq_eq_false_iff_ne, bne_eq_false_iff_eq, Classical.not_not, Bool.and_eq_true, Bool.and_eq_false_imp] at h1d
      obtain rfl | rfl := (by omega : j = 0 ∨ j = 1)
      · skip
        have g'18 := (jn @h1 (jn @h1d g'17))
        refine runTf g'18 ?_
        refine hJ0 _ _ ⟨k0 - 1, by omega, _, _, _, ⟨0 + 1, by omega, rfl, rfl⟩, Abs.by0 hbel ?_⟩
        exact absWf (jn @hs0 @hs1)
      · skip
        have g'19 := (jn @h1 (jn @h1d g'17))
        refine runTf g'19 ?_
        refine hJ0 _ _ ⟨k0 - 1, by omega, _, _, _, ⟨1 + 1, by omega, rfl, rfl⟩, Abs.by0 hbel ?_⟩
        exact absWf (jn @hs0 @hs1)
    · have h1d := h1
      try simp only [Bool.not_eq_true', Bool.not_eq_false', decide_eq_true_eq, decide_eq_false_iff_not, beq_iff_eq, bne_iff_ne, ne_eq, Bool.not_eq_true, Bool.not_eq_false, beq_eq_false_iff_ne, bne_eq_false_iff_eq, Classical.not_not, Bool.and_eq_true, Bool.and_eq_false_imp] at h1d
      obtain rfl : j = 2 := by omega
      have g'20 := (jn @h1 (jn @h1d g'17))
      refine runTf g'20 ?_
      refine call_v (by kernel_rfl) (grow_0 (by simp [pre2])) ?_
      refine runTf g'20 ?_
      refine go_loop try_mixed (by kernel_rfl) (fun k F Hx => ∃ j : Nat, j + k = 2 ∧ F = [(6, .sl none 0 (some 0)), (25, .sl (some (bw, 0)) 2 cw), (26, .int .i64 2), (27, .int .i64 ((j : Nat) : Int))] ∧ H = Hx) (2) ?_ ?_
      · refine ⟨_, _, _, ⟨0, by omega, rfl, rfl⟩, Abs.by0 hbel ?_⟩
        exact absWf (jn @appL.eq_1 (jn @prs_nil @List.length_nil.{0}))
      · rintro k1 F Hx ⟨j, hm1, rfl, rfl⟩ J1 hJ1
        refine runTf g'20 ?_
        refine cond_split (fun h2 => ?_) (fun h2 => ?_)
        · have h2d := h2
          try simp only [Bool.not_eq_true', Bool.not_eq_false', decide_eq_true_eq, decide_eq_false_iff_not, beq_iff_eq, bne_iff_ne, ne_eq, Bool.not_eq_true, Bool.not_eq_false, beq_eq_false_iff_ne, bne_eq_false_iff_eq, Classical.not_not, Bool.and_eq_true, Bool.and_eq_false_imp] at h2d
          obtain rfl | rfl := (by omega : j = 0 ∨ j = 1)
          · skip
            have g'21 := (jn @h2 (jn @h2d g'20))
            refine runTf g'21 ?_
            refine hJ1 _ _ ⟨k1 - 1, by omega, _, _, _, ⟨0 + 1, by omega, rfl, rfl⟩, Abs.by0 hbel ?_⟩
            exact absWf (jn @appL.eq_1 (jn @appL.eq_2 (jn @appL.eq_3 (jn @prs_nil (jn @List.length_nil.{0} @prs_append)))))
          · skip
            have g'22 := (jn @h2 (jn @h2d g'20))
            refine runTf g'22 ?_
            refine hJ1 _ _ ⟨k1 - 1, by omega, _, _, _, ⟨1 + 1, by omega, rfl, rfl⟩, Abs.by0 hbel ?_⟩
            exact absWf (jn @appL.eq_1 (jn @appL.eq_2 (jn @appL.eq_3 (jn @prs_nil (jn @List.length_nil.{0} @prs_append)))))
        · have h2d := h2
          try simp only [Bool.not_eq_true', Bool.not_eq_false', decide_eq_true_eq, decide_eq_false_iff_not, beq_iff_eq, bne_iff_ne, ne_eq, Bool.not_eq_true, Bool.not_eq_false, beq_eq_false_iff_ne, bne_eq_false_iff_eq, Classical.not_not, Bool.and_eq_true, Bool.and_eq_false_imp] at h2d
          obtain rfl : j = 2 := by omega
          have g'23 := (jn @h2 (jn @h2d g'20))
          refine runTf g'23 ?_
          refine hQ _ _ (end_byE (.inl rfl) hbel (x1 := .sl none 0 (some 0)) (l2 := [.cells false 2 []]) (.sl (some (H.length, 0)) 0 (some 0)) (resT Tryz.results110) [.cells false 2 []] rfl [0] (by decide) ⟨rfl, rfl⟩ ?_)
          exact absW
theorem concat_c (H : AHeap) (s t w : AV) (l m : List Pt) (hs : SlP H s l) (ht : SlP H t m) (hw : Sl H 1 w 2 [s, t]) (h1 : l.length ≤ 500) (h2 : m.length ≤ 500) :
    ACalls Tryz.prog 110 [w] H (fun v H' => v = .sl (some (H.length, 0)) (l ++ m).length (capG (l ++ m).length) ∧ H' = H ++ [.cells (ownG (l ++ m).length) 2 (prs (l ++ m))]) := by
  rcases l with _ | ⟨a, l⟩
  · rcases m with _ | ⟨b, m⟩
    · exact concat_00 H s t w hs ht hw
    · exact concat_0m H s t (b :: m) w hs ht hw (by simp) h2
  · exact concat_lm H s (a :: l) t m w hs ht hw (by simp) h1 h2
end Go.Proofs.YtoimakfecmhjkaaGreat

/- Walks by the abstract machine: plus, Sum, both. Conditions: as each theorem states. -/
namespace Go.Proofs.YtoimakfecmhjkaaGreat
set_option linter.unusedSimpArgs false
set_option linter.unusedVariables false
open Go.RowKit
/-- The error of a sum. -/
def sumE (x1 y1 : Int) (l : List Pt) (x2 y2 : Int) (m : List Pt) : Int := if (validB x1 y1 l && validB x2 y2 m) = true then (if validB (x1 + x2) (y1 + y2) (canonL (l ++ m)) = true then 0 else 6) else 1
set_option maxHeartbeats 4000000 in
set_option maxRecDepth 100000 in
theorem whole_t (H : AHeap) (x : Int) (y : Int) (s : AV) (l : List (Int × Int)) (hs : Sl H 2 s l.length (prs l)) (hv : validB x y l = true) : ACalls Tryz.prog 109 [.agg [.int .i64 x, .int .i64 y, s]] H (fun v H' => v = .tup [.agg [.int .i64 x, .int .i64 y, s], .int .i64 0] ∧ H' = H) := by
  obtain ⟨bs, os, cs, rfl, hbs⟩ := hs
  have hbls := getElem?_lt hbs
  have hb0s := fun l => get_app (l := l) hbs
  (refine ACalls_run try_mixed Tryz.func109 true _ rfl (Nat.le_of_ble_eq_true (by kernel_rfl)) (by kernel_rfl) ?_; intro hbel Q hQ hQ' c hc; unfold Tryz.f109 at hc; simp only [Option.some.injEq] at hc; subst hc; clear hQ')
  have g'4 := (jn @hbs (jn @hb0s @hv))
  refine runTf g'4 ?_
  refine call_v (by kernel_rfl) (valid_c _ x y _ l (.inr ⟨_, _, _, rfl, by first | exact hb0s _ | exact hbs⟩)) ?_
  refine runTf g'4 ?_
  refine hQ _ _ (end_byG (.inl rfl) hbel (x1 := .tup [.agg [.int .i64 x, .int .i64 y, .sl (some (bs, 0)) l.length cs], .int .i64 0]) (l2 := []) (.tup [.agg [.int .i64 x, .int .i64 y, .sl (some (bs, 0)) l.length cs], .int .i64 0]) (resT Tryz.results109) [] rfl [] (by decide) ⟨rfl, List.append_nil _⟩ ?_)
  exact absW
set_option maxHeartbeats 4000000 in
set_option maxRecDepth 100000 in
theorem whole_f (H : AHeap) (x : Int) (y : Int) (s : AV) (l : List (Int × Int)) (hs : Sl H 2 s l.length (prs l)) (hv : validB x y l = false) : ACalls Tryz.prog 109 [.agg [.int .i64 x, .int .i64 y, s]] H (fun v H' => v = .tup [.agg [.int .i64 0, .int .i64 0, .sl none 0 (some 0)], .int .i64 6] ∧ H' = H) := by
  obtain ⟨bs, os, cs, rfl, hbs⟩ := hs
  have hbls := getElem?_lt hbs
  have hb0s := fun l => get_app (l := l) hbs
  (refine ACalls_run try_mixed Tryz.func109 true _ rfl (Nat.le_of_ble_eq_true (by kernel_rfl)) (by kernel_rfl) ?_; intro hbel Q hQ hQ' c hc; unfold Tryz.f109 at hc; simp only [Option.some.injEq] at hc; subst hc; clear hQ')
  have g'5 := (jn @hbs (jn @hb0s @hv))
  refine runTf g'5 ?_
  refine call_v (by kernel_rfl) (valid_c _ x y _ l (.inr ⟨_, _, _, rfl, by first | exact hb0s _ | exact hbs⟩)) ?_
  refine runTf g'5 ?_
  exact hQ _ _ (end_plain (.inl rfl) hbel (x := .tup [.agg [.int .i64 0, .int .i64 0, .sl none 0 (some 0)], .int .i64 6]) (resT Tryz.results109) rfl ⟨rfl, rfl⟩)
set_option maxHeartbeats 4000000 in
set_option maxRecDepth 100000 in
theorem Sum_c (H : AHeap) (x1 : Int) (y1 : Int) (s : AV) (l : List (Int × Int)) (x2 : Int) (y2 : Int) (t : AV) (m : List (Int × Int)) (hs : Sl H 2 s l.length (prs l)) (ht : Sl H 2 t m.length (prs m)) : ACalls Tryz.prog 51 [.agg [.int .i64 x1, .int .i64 y1, s], .agg [.int .i64 x2, .int .i64 y2, t]] H (fun v H' => v = .tup [.agg [.int .i64 (mkX (sumE x1 y1 l x2 y2 m) (x1 + x2)), .int .i64 (mkX (sumE x1 y1 l x2 y2 m) (y1 + y2)), .sl (some (H.length, 0)) ((mkL (sumE x1 y1 l x2 y2 m) (canonL (l ++ m))).length) (capG (mkL (sumE x1 y1 l x2 y2 m) (canonL (l ++ m))).length)], .int .i64 (sumE x1 y1 l x2 y2 m)] ∧ H' = H ++ [.cells (ownG (mkL (sumE x1 y1 l x2 y2 m) (canonL (l ++ m))).length) 2 (prs (mkL (sumE x1 y1 l x2 y2 m) (canonL (l ++ m))))]) := by
  obtain ⟨bs, os, cs, rfl, hbs⟩ := hs
  have hbls := getElem?_lt hbs
  have hb0s := fun l => get_app (l := l) hbs
  obtain ⟨bt, ot, ct, rfl, hbt⟩ := ht
  have hblt := getElem?_lt hbt
  have hb0t := fun l => get_app (l := l) hbt
  (refine ACalls_run try_mixed Tryz.func51 false _ rfl (Nat.le_of_ble_eq_true (by kernel_rfl)) (by kernel_rfl) ?_; intro hbel Q hQ hQ' c hc; unfold Tryz.f51 at hc; simp only [Option.some.injEq] at hc; subst hc; clear hQ')
  have g'6 := (jn @hbs (jn @hb0s (jn @hbt @hb0t)))
  refine runTf g'6 ?_
  refine call_v (by kernel_rfl) (valid_c _ x1 y1 _ l (.inr ⟨_, _, _, rfl, by first | exact hb0s _ | exact hbs⟩)) ?_
  refine runTf g'6 ?_
  refine gd_split (fun h1 => ?_) (fun h1 => ?_)
  · have h1d := h1
    try simp only [Bool.not_eq_true', Bool.not_eq_false', decide_eq_true_eq, decide_eq_false_iff_not, beq_iff_eq, bne_iff_ne, ne_eq, Bool.not_eq_true, Bool.not_eq_false, beq_eq_false_iff_ne, bne_eq_false_iff_eq, Classical.not_not, Bool.and_eq_true, Bool.and_eq_false_imp] at h1d
    obtain ⟨hl16, hlB⟩ := valid_bd h1d
    have hxy1 := valid_bd3 h1d
    have hB1 : ∀ e ∈ l, Bd 4194304 e := fun e he => by have := hlB e he; unfold Bd at *; omega
    have g'7 := (jn @h1 (jn @h1d g'6))
    refine runTf g'7 ?_
    refine call_v (by kernel_rfl) (valid_c _ x2 y2 _ m (.inr ⟨_, _, _, rfl, by first | exact hb0t _ | exact hbt⟩)) ?_
    refine runTf g'7 ?_
    refine cond_split (fun h2 => ?_) (fun h2 => ?_)
    · have h2d := h2
      try simp only [Bool.not_eq_true', Bool.not_eq_false', decide_eq_true_eq, decide_eq_false_iff_not, beq_iff_eq, bne_iff_ne, ne_eq, Bool.not_eq_true, Bool.not_eq_false, beq_eq_false_iff_ne, bne_eq_false_iff_eq, Classical.not_not, Bool.and_eq_true, Bool.and_eq_false_imp] at h2d
      have g'8 := (jn @h2 (jn @h2d g'7))
      refine runTf g'8 ?_
      refine hQ _ _ (end_byG (.inl rfl) hbel (x1 := .tup [.agg [.int .i64 0, .int .i64 0, .sl none 0 (some 0)], .int .i64 1]) (l2 := [.cells false 2 []]) (.tup [.agg [.int .i64 0, .int .i64 0, .sl (some (H.length, 0)) 0 (some 0)], .int .i64 1]) (resT Tryz.results51) [.cells false 2 []] rfl [3] (by decide) ⟨by simp [mkX, mkL, sumE, capG_0, ownG_0, prs_nil, h1d, h2d], by simp [mkX, mkL, sumE, capG_0, ownG_0, prs_nil, h1d, h2d]⟩ ?_)
      exact absW
    · have h2d := h2
      try simp only [Bool.not_eq_true', Bool.not_eq_false', decide_eq_true_eq, decide_eq_false_iff_not, beq_iff_eq, bne_iff_ne, ne_eq, Bool.not_eq_true, Bool.not_eq_false, beq_eq_false_iff_ne, bne_eq_false_iff_eq, Classical.not_not, Bool.and_eq_true, Bool.and_eq_false_imp] at h2d
      obtain ⟨hm16, hmB⟩ := valid_bd h2d
      have hxy2 := valid_bd3 h2d
      have hB2 : ∀ e ∈ m, Bd 4194304 e := fun e he => by have := hmB e he; unfold Bd at *; omega
      have hll : (l ++ m).length = l.length + m.length := List.length_append
      have hcl := canonL_len (l ++ m)
      have hBB : ∀ e ∈ l ++ m, Bd 4194304 e := fun e he => by rcases List.mem_append.1 he with h | h; exact hB1 e h; exact hB2 e h
      have g'9 := (jn @h2 (jn @h2d g'7))
      refine runTf g'9 ?_
      refine call_x (by kernel_rfl) (by simp) (concat_c _ _ _ _ l m ⟨_, _, _, rfl, by first | exact hb0s _ | exact hbs⟩ ⟨_, _, _, rfl, by first | exact hb0t _ | exact hbt⟩ ⟨_, _, _, rfl, by first | rfl | exact get_newk | exact get_new0⟩ (by omega) (by omega)) ?_
      refine runTf g'9 ?_
      refine call_x (by kernel_rfl) (by simp) (canonical_u _ (x1 + x2) (y1 + y2) _ (l ++ m) (.inr ⟨_, _, _, by first | rfl | (rw [List.length_append]; done) | (rw [List.length_append]; rfl), by first | rfl | (rw [get_newk]; rfl) | (rw [get_new0]; rfl) | (rw [get_newk, prs_append]; rfl) | (rw [get_new0, prs_append]; rfl)⟩) (by first | omega | (simp only [List.length_cons, List.length_nil]; omega) | exact Nat.le_trans (mkL_len _ _) (by first | omega | simp) | exact Nat.le_trans (vL_len _ _) (by first | omega | simp) | exact Nat.le_trans corV_len (by omega) | exact Nat.le_trans (canonL_len _) (by first | omega | simp)) (by assumption)) ?_
      refine runTf g'9 ?_
      rcases Bool.eq_false_or_eq_true (validB (x1 + x2) (y1 + y2) (canonL (l ++ m))) with h3 | h3
      · have h3d := h3
        refine call_d (by kernel_rfl) (whole_t _ (x1 + x2) (y1 + y2) _ (canonL (l ++ m)) ⟨_, _, _, by first | rfl | (rw [List.length_append]; done) | (rw [List.length_append]; rfl), by first | rfl | (rw [get_newk]; rfl) | (rw [get_new0]; rfl) | (rw [get_newk, prs_append]; rfl) | (rw [get_new0, prs_append]; rfl)⟩ (by assumption)) ?_
        have g'10 := (jn @h3 (jn @h3d g'9))
        refine runTf g'10 ?_
        refine hQ _ _ (end_byG (.inl rfl) hbel (x1 := .tup [.agg [.int .i64 (x1 + x2), .int .i64 (y1 + y2), .sl (some (H.length + 5, 0)) ((canonL (l ++ m)).length) (capG (canonL (l ++ m)).length)], .int .i64 0]) (l2 := [.cells (ownG (canonL (l ++ m)).length) 2 (prs (canonL (l ++ m)))]) (.tup [.agg [.int .i64 (x1 + x2), .int .i64 (y1 + y2), .sl (some (H.length, 0)) ((canonL (l ++ m)).length) (capG (canonL (l ++ m)).length)], .int .i64 0]) (resT Tryz.results51) [] rfl [5] (by decide) ⟨by simp [mkX, mkL, sumE, capG_0, ownG_0, prs_nil, h1d, h2d, h3d], by simp [mkX, mkL, sumE, capG_0, ownG_0, prs_nil, h1d, h2d, h3d]⟩ ?_)
        exact absW
      · have h3d := h3
        refine call_d (by kernel_rfl) (whole_f _ (x1 + x2) (y1 + y2) _ (canonL (l ++ m)) ⟨_, _, _, by first | rfl | (rw [List.length_append]; done) | (rw [List.length_append]; rfl), by first | rfl | (rw [get_newk]; rfl) | (rw [get_new0]; rfl) | (rw [get_newk, prs_append]; rfl) | (rw [get_new0, prs_append]; rfl)⟩ (by assumption)) ?_
        have g'11 := (jn @h3 (jn @h3d g'9))
        refine runTf g'11 ?_
        refine hQ _ _ (end_byG (.inl rfl) hbel (x1 := .tup [.agg [.int .i64 0, .int .i64 0, .sl none 0 (some 0)], .int .i64 6]) (l2 := [.cells false 2 []]) (.tup [.agg [.int .i64 0, .int .i64 0, .sl (some (H.length, 0)) 0 (some 0)], .int .i64 6]) (resT Tryz.results51) [.cells false 2 []] rfl [6] (by decide) ⟨by simp [mkX, mkL, sumE, capG_0, ownG_0, prs_nil, h1d, h2d, h3d], by simp [mkX, mkL, sumE, capG_0, ownG_0, prs_nil, h1d, h2d, h3d]⟩ ?_)
        exact absW
  · have h1d := h1
    try simp only [Bool.not_eq_true', Bool.not_eq_false', decide_eq_true_eq, decide_eq_false_iff_not, beq_iff_eq, bne_iff_ne, ne_eq, Bool.not_eq_true, Bool.not_eq_false, beq_eq_false_iff_ne, bne_eq_false_iff_eq, Classical.not_not, Bool.and_eq_true, Bool.and_eq_false_imp] at h1d
    have g'12 := (jn @h1 (jn @h1d g'6))
    refine runTf g'12 ?_
    refine hQ _ _ (end_byG (.inl rfl) hbel (x1 := .tup [.agg [.int .i64 0, .int .i64 0, .sl none 0 (some 0)], .int .i64 1]) (l2 := [.cells false 2 []]) (.tup [.agg [.int .i64 0, .int .i64 0, .sl (some (H.length, 0)) 0 (some 0)], .int .i64 1]) (resT Tryz.results51) [.cells false 2 []] rfl [3] (by decide) ⟨by simp [mkX, mkL, sumE, capG_0, ownG_0, prs_nil, h1d], by simp [mkX, mkL, sumE, capG_0, ownG_0, prs_nil, h1d]⟩ ?_)
    exact absW
end Go.Proofs.YtoimakfecmhjkaaGreat

/- Plain laws of zonogons apart from rectangles. Conditions: as each theorem states. -/
namespace Go.Proofs.YtoimakfecmhjkaaGreat
set_option linter.unusedSimpArgs false
set_option linter.unusedVariables false
open Go.RowKit
theorem mem_spr {n : Pt} : ∀ {L : List Pt} {e : Pt}, e ∈ L → absI (dotP n e) ≤ spr n L
  | [], _, h => by cases h
  | g :: l, e, h => by
    rw [spr_cons]
    have h0 := spr_nn n l
    have h1 := absI_nn (dotP n g)
    rcases List.mem_cons.1 h with rfl | h
    · omega
    · have := mem_spr (n := n) h; omega
theorem canon_in {A : List Pt} {M : Int} (h1 : spr (1, 0) A ≤ M) (h2 : spr (0, 1) A ≤ M) : ∀ e ∈ canonL A, Bd M e := fun e he => by
  have a1 := mem_spr (n := (1, 0)) he
  have a2 := mem_spr (n := (0, 1)) he
  rw [spr_canon, absI_le] at a1 a2
  unfold dotP at a1 a2
  unfold Bd
  simp only at a1 a2
  omega
end Go.Proofs.YtoimakfecmhjkaaGreat

/- Plain laws of sums of zonogons. Conditions: as each theorem states. -/
namespace Go.Proofs.YtoimakfecmhjkaaGreat
set_option linter.unusedSimpArgs false
set_option linter.unusedVariables false
open Go.RowKit
theorem mkX_0 {x : Int} : mkX 0 x = x := rfl
theorem mkL_0 {L : List Pt} : mkL 0 L = L := rfl
end Go.Proofs.YtoimakfecmhjkaaGreat

/- Plain facts on marks and directions. Conditions: as each theorem states. -/
namespace Go.Proofs.YtoimakfecmhjkaaGreat
set_option linter.unusedSimpArgs false
set_option linter.unusedVariables false
open Go.RowKit
/-- The lower eight bits. -/
theorem and255 (a : Int) : (BitVec.ofInt 64 a &&& BitVec.ofInt 64 255).toNat = (a % 256).toNat := by
  rw [BitVec.toNat_and, BitVec.toNat_ofInt, BitVec.toNat_ofInt]
  have e : ((255 : Int) % ((2 ^ 64 : Nat) : Int)).toNat = 2 ^ 8 - 1 := by decide
  rw [e, Nat.and_two_pow_sub_one_eq_mod]
  have : (((a % ((2 ^ 64 : Nat) : Int)).toNat : Nat) : Int) = a % 18446744073709551616 := by
    rw [Int.toNat_of_nonneg (Int.emod_nonneg _ (by decide))]; rfl
  omega
/-- The greatest common divisor of three numbers. -/
def gcd3 (x y d : Int) : Nat := Nat.gcd (Nat.gcd d.natAbs x.natAbs) y.natAbs
abbrev Vec := Int × Int × Int
/-- A vector in lowest terms. -/
def lowV (x y d : Int) : Vec := (x.tdiv (gcd3 x y d), y.tdiv (gcd3 x y d), d.tdiv (gcd3 x y d))
theorem gcd3_comm (x y d : Int) : Nat.gcd (Nat.gcd x.natAbs y.natAbs) d.natAbs = gcd3 x y d := by
  unfold gcd3
  rw [Nat.gcd_comm d.natAbs, Nat.gcd_assoc, Nat.gcd_assoc, Nat.gcd_comm d.natAbs]
theorem gcd3_pos {x y d : Int} (h : d ≠ 0) : 0 < gcd3 x y d := by
  unfold gcd3
  exact Nat.gcd_pos_of_pos_left _ (Nat.gcd_pos_of_pos_left _ (Int.natAbs_pos.2 h))
/-- The direction of a mark of the first quarter. -/
def dir0 (k : Nat) : Vec := lowV (4096 - (k : Int) * k) (128 * k) (4096 + (k : Int) * k)
def rotN (v : Vec) : Nat → Vec
  | 0 => v
  | n + 1 => (-(rotN v n).2.1, (rotN v n).1, (rotN v n).2.2)
def dirN (h : Nat) : Vec := rotN (dir0 (h % 64)) (h / 64)
/-- The direction of a mark. -/
def dirV (h : Int) : Vec := dirN (h % 256).toNat
def vecOK (v : Vec) : Bool := decide (1 ≤ v.2.2) && decide (v.2.2 ≤ 8065) && decide (-v.2.2 ≤ v.1) && decide (v.1 ≤ v.2.2) && decide (-v.2.2 ≤ v.2.1) && decide (v.2.1 ≤ v.2.2) && decide (v.1 * v.1 + v.2.1 * v.2.1 = v.2.2 * v.2.2)
theorem dirs_ok : (List.range 256).all (fun h => vecOK (dirN h)) = true := by decide +kernel
theorem dirs_crs : (List.range 127).all (fun h => decide (0 < crs ((dirN h).1, (dirN h).2.1) ((dirN (h + 1)).1, (dirN (h + 1)).2.1)) && decide (0 < (dirN (h + 1)).2.1) && decide ((dirN (h + 129)).1 = -(dirN (h + 1)).1 ∧ (dirN (h + 129)).2.1 = -(dirN (h + 1)).2.1)) = true := by decide +kernel
theorem dirV_ok (h : Int) : vecOK (dirV h) = true := by
  have := List.all_eq_true.1 dirs_ok (h % 256).toNat (by simp; omega)
  exact this
theorem vecOK_iff {v : Vec} : vecOK v = true ↔ (1 ≤ v.2.2 ∧ v.2.2 ≤ 8065) ∧ (-v.2.2 ≤ v.1 ∧ v.1 ≤ v.2.2) ∧ (-v.2.2 ≤ v.2.1 ∧ v.2.1 ≤ v.2.2) ∧ v.1 * v.1 + v.2.1 * v.2.1 = v.2.2 * v.2.2 := by
  unfold vecOK
  simp only [Bool.and_eq_true, decide_eq_true_eq]
  constructor
  · rintro ⟨⟨⟨⟨⟨⟨a, b⟩, c⟩, d⟩, e⟩, f⟩, g⟩; exact ⟨⟨a, b⟩, ⟨c, d⟩, ⟨e, f⟩, g⟩
  · rintro ⟨⟨a, b⟩, ⟨c, d⟩, ⟨e, f⟩, g⟩; exact ⟨⟨⟨⟨⟨⟨a, b⟩, c⟩, d⟩, e⟩, f⟩, g⟩
/-- A quotient rounded down. -/
theorem floor_eq {a b : Int} (h : 0 < b) : (if a.tmod b < 0 then a.tdiv b - 1 else a.tdiv b) = a / b := by
  rw [Int.tdiv_eq_ediv, Int.tmod_eq_emod]
  have h1 := Int.emod_nonneg a (by omega : b ≠ 0)
  have h2 := Int.emod_lt_of_pos a h
  have hs : b.sign = 1 := Int.sign_eq_one_of_pos h
  have hn : (b.natAbs : Int) = b := by omega
  split
  · rw [if_neg (by omega)]; omega
  · rw [if_pos (by omega), hs]; omega
/-- The half of the circle in which a vector lies. -/
def halfI (x y : Int) : Int := if 0 < y ∨ (y = 0 ∧ 0 < x) then 0 else 1
/-- Whether a direction is beyond a vector. -/
def beyB (v : Vec) (x y : Int) : Bool :=
  if halfI v.1 v.2.1 = halfI x y then decide (crs (v.1, v.2.1) (x, y) < 0) else decide (halfI v.1 v.2.1 = 1)
theorem up_neg {x y : Int} (h : ¬ (x = 0 ∧ y = 0)) (k : halfI x y = 1) : up (-x, -y) := by
  unfold halfI at k
  split at k
  · omega
  · unfold up; simp only; omega
theorem up_pos {x y : Int} (k : halfI x y = 0) : up (x, y) := by
  unfold halfI at k
  split at k
  · unfold up; simp only; omega
  · omega
theorem halfI_or (x y : Int) : halfI x y = 0 ∨ halfI x y = 1 := by unfold halfI; split <;> simp
theorem crs_neg2 (a b c d : Int) : crs (-a, -b) (-c, -d) = crs (a, b) (c, d) := by unfold crs; simp only; rw [Int.neg_mul_neg, Int.neg_mul_neg]
theorem dir_step {h : Nat} (hh : h < 127) : 0 < crs ((dirN h).1, (dirN h).2.1) ((dirN (h + 1)).1, (dirN (h + 1)).2.1) ∧ 0 < (dirN (h + 1)).2.1 ∧ (dirN (h + 129)).1 = -(dirN (h + 1)).1 ∧ (dirN (h + 129)).2.1 = -(dirN (h + 1)).2.1 := by
  have := List.all_eq_true.1 dirs_crs h (by simp; exact hh)
  simp only [Bool.and_eq_true, decide_eq_true_eq] at this
  exact ⟨this.1.1, this.1.2, this.2⟩
theorem dir_0 : dirN 0 = (1, 0, 1) := by decide +kernel
theorem dir_128 : dirN 128 = (-1, 0, 1) := by decide +kernel
theorem dir_up {h : Nat} (hh : h < 128) : up ((dirN h).1, (dirN h).2.1) := by
  cases h with
  | zero => rw [dir_0]; unfold up; simp
  | succ h => exact .inl (dir_step (h := h) (by omega)).2.1
theorem dir_half0 {h : Nat} (hh : h < 128) : halfI (dirN h).1 (dirN h).2.1 = 0 := by
  have := dir_up hh
  unfold up at this
  unfold halfI
  rw [if_pos this]
theorem dir_opp {h : Nat} (hh : h < 128) : (dirN (h + 128)).1 = -(dirN h).1 ∧ (dirN (h + 128)).2.1 = -(dirN h).2.1 := by
  cases h with
  | zero => rw [dir_0, dir_128]; exact ⟨rfl, rfl⟩
  | succ h => have := (dir_step (h := h) (by omega)).2.2; rw [show h + 1 + 128 = h + 129 by omega]; exact this
theorem dir_half1 {h : Nat} (h1 : 128 ≤ h) (h2 : h < 256) : halfI (dirN h).1 (dirN h).2.1 = 1 := by
  obtain ⟨k, rfl⟩ : ∃ k, h = k + 128 := ⟨h - 128, by omega⟩
  have hu := dir_up (h := k) (by omega)
  obtain ⟨e1, e2⟩ := dir_opp (h := k) (by omega)
  unfold up at hu
  simp only at hu
  unfold halfI
  rw [e1, e2, if_neg (by omega)]
theorem dir_lt {h k : Nat} (hk : h < k) (k2 : k < 128) : 0 < crs ((dirN h).1, (dirN h).2.1) ((dirN k).1, (dirN k).2.1) := by
  induction k with
  | zero => omega
  | succ k ih =>
    rcases Nat.lt_or_ge h k with hlt | hge
    · exact crs_trans (dir_up (by omega)) (dir_up (by omega)) (dir_up (by omega)) (ih hlt (by omega)) (dir_step (by omega)).1
    · obtain rfl : h = k := by omega
      exact (dir_step (by omega)).1
/-- Beyond a vector are all later marks. -/
theorem bey_mono {x y : Int} (hd : ¬ (x = 0 ∧ y = 0)) {h k : Nat} (hk : h < k) (k2 : k < 256) (hb : beyB (dirN h) x y = true) : beyB (dirN k) x y = true := by
  unfold beyB at hb ⊢
  rcases Nat.lt_or_ge h 128 with l1 | l1
  · rw [dir_half0 l1] at hb
    split at hb
    · rename_i e
      rcases Nat.lt_or_ge k 128 with l2 | l2
      · rw [dir_half0 l2, if_pos e]
        rw [decide_eq_true_eq] at hb ⊢
        rw [crs_anti]
        rw [crs_anti] at hb
        have := crs_trans (up_pos e.symm) (dir_up l1) (dir_up l2) (by omega) (dir_lt hk l2)
        omega
      · rw [dir_half1 l2 k2, if_neg (by omega)]; rfl
    · simp at hb
  · rw [dir_half1 l1 (by omega)] at hb
    rw [dir_half1 (by omega) k2]
    split at hb
    · rename_i e
      rw [if_pos e]
      rw [decide_eq_true_eq] at hb ⊢
      obtain ⟨p, rfl⟩ : ∃ p, h = p + 128 := ⟨h - 128, by omega⟩
      obtain ⟨q, rfl⟩ : ∃ q, k = q + 128 := ⟨k - 128, by omega⟩
      obtain ⟨a1, a2⟩ := dir_opp (h := p) (by omega)
      obtain ⟨b1, b2⟩ := dir_opp (h := q) (by omega)
      have hu := up_neg hd e.symm
      rw [a1, a2, ← crs_neg2, Int.neg_neg, Int.neg_neg] at hb
      rw [b1, b2, ← crs_neg2, Int.neg_neg, Int.neg_neg]
      rw [crs_anti] at hb ⊢
      have := crs_trans hu (dir_up (h := p) (by omega)) (dir_up (h := q) (by omega)) (by omega) (dir_lt (h := p) (k := q) (by omega) (by omega))
      omega
    · rename_i e; rw [if_neg e]; rfl
theorem bey_0 {x y : Int} (hd : ¬ (x = 0 ∧ y = 0)) : beyB (dirN 0) x y = false := by
  unfold beyB
  rw [dir_half0 (by omega), dir_0]
  split
  · rename_i e
    have hu := up_pos e.symm
    rw [decide_eq_false_iff_not]
    unfold crs
    unfold up at hu
    simp only at hu ⊢
    omega
  · rfl
/-- The greatest mark that is not beyond a vector, among the first n. -/
def towN (x y : Int) : Nat → Nat
  | 0 => 0
  | n + 1 => if beyB (dirN n) x y = true then towN x y n else n
theorem towN_all {x y : Int} (hd : ¬ (x = 0 ∧ y = 0)) {m : Nat} (h1 : ∀ h, h ≤ m → beyB (dirN h) x y = false) (h2 : beyB (dirN (m + 1)) x y = true) : ∀ n, m < n → n ≤ 256 → towN x y n = m
  | 0, h, _ => by omega
  | n + 1, h, hn => by
    rw [towN]
    rcases Nat.lt_or_ge m n with k | k
    · have hb : beyB (dirN n) x y = true := by
        rcases Nat.lt_or_ge (m + 1) n with k2 | k2
        · exact bey_mono hd k2 (by omega) h2
        · rw [show n = m + 1 by omega]; exact h2
      rw [if_pos hb]
      exact towN_all hd h1 h2 n k (by omega)
    · obtain rfl : n = m := by omega
      rw [h1 n (Nat.le_refl _)]
      rfl
theorem towN_last {x y : Int} (h1 : beyB (dirN 255) x y = false) : towN x y 256 = 255 := by
  rw [towN, h1]; rfl
end Go.Proofs.YtoimakfecmhjkaaGreat

/- Plain facts on cells row by row. Conditions: as each theorem states. -/
namespace Go.Proofs.YtoimakfecmhjkaaGreat
set_option linter.unusedSimpArgs false
set_option linter.unusedVariables false
open Go.RowKit
end Go.Proofs.YtoimakfecmhjkaaGreat

/- Plain facts on sweeps. Conditions: as each theorem states. -/
namespace Go.Proofs.YtoimakfecmhjkaaGreat
set_option linter.unusedSimpArgs false
set_option linter.unusedVariables false
open Go.RowKit
theorem dirs_app (A B : List Pt) : dirs (A ++ B) = dirs A ++ dirs B := by unfold dirs; rw [List.map_append, List.filter_append]
theorem nrm_of_up {e : Pt} (h : up e) : nrm e = e := by
  unfold up at h
  unfold nrm
  rw [if_neg (by omega)]
theorem dirs_id : ∀ {C : List Pt}, (∀ e ∈ C, up e) → dirs C = C
  | [], _ => rfl
  | e :: C, h => by
    have he := h e (by simp)
    have ih := dirs_id (C := C) fun x hx => h x (by simp [hx])
    unfold dirs at ih ⊢
    rw [List.map_cons, nrm_of_up he, List.filter_cons, if_pos (by simp only [decide_eq_true_eq]; exact up_ne he), ih]
theorem canonL_appl (A B : List Pt) : canonL (canonL A ++ B) = canonL (A ++ B) := by
  have h1 := canonL_can (canonL A ++ B)
  have hA := canonL_can A
  refine Can.eq (S := dirs (A ++ B)) ⟨h1.sorted, h1.ups, fun g hg => ?_⟩ (canonL_can _)
  rw [h1.sums g hg, dirs_app, dirs_app, dsum_append, dsum_append, dirs_id hA.ups, hA.sums g hg]
theorem canonL_appr (A B : List Pt) : canonL (A ++ canonL B) = canonL (A ++ B) := by
  have h1 := canonL_can (A ++ canonL B)
  have hB := canonL_can B
  refine Can.eq (S := dirs (A ++ B)) ⟨h1.sorted, h1.ups, fun g hg => ?_⟩ (canonL_can _)
  rw [h1.sums g hg, dirs_app, dirs_app, dsum_append, dsum_append, dirs_id hB.ups, hB.sums g hg]
theorem validB_of {x y : Int} {l : List Pt} (hx : -8388608 ≤ x ∧ x ≤ 8388608) (hy : -8388608 ≤ y ∧ y ≤ 8388608) (hl : l.length ≤ 16) (hB : ∀ e ∈ l, Bd 65536 e) : validB x y l = true := by
  unfold validB
  simp only [Bool.and_eq_true, decide_eq_true_eq, Bool.not_eq_true', within_iff]
  refine ⟨⟨⟨hx, hy⟩, hl⟩, List.any_eq_false.2 fun e he => ?_⟩
  have := hB e he
  unfold Bd at this
  simp only [wrongB, Bool.not_eq_true', Bool.not_eq_false, Bool.and_eq_true, within_iff]
  omega
theorem sumE_0 {x1 y1 : Int} {l : List Pt} {x2 y2 : Int} {m : List Pt} (h1 : validB x1 y1 l = true) (h2 : validB x2 y2 m = true) (h3 : validB (x1 + x2) (y1 + y2) (canonL (l ++ m)) = true) : sumE x1 y1 l x2 y2 m = 0 := by
  unfold sumE; rw [h1, h2, h3]; rfl
/-- A rectangle's generators; a square's. -/
def recL (x0 y0 x1 y1 : Int) : List Pt := [(x1 - x0, 0), (0, y1 - y0)]
def sqrL (a : Int) : List Pt := [(a - (0 - a), 0), (0, a - (0 - a))]
/-- The way of a forward motion. -/
def wayX (h m : Int) : Int := m * (dirV h).1 / (dirV h).2.2
def wayY (h m : Int) : Int := m * (dirV h).2.1 / (dirV h).2.2
theorem div_bd {m a d : Int} (hd : 1 ≤ d) (ha : -d ≤ a ∧ a ≤ d) (hm : 0 ≤ m) : -m ≤ m * a / d ∧ m * a / d ≤ m := by
  constructor
  · rw [Int.le_ediv_iff_mul_le (by omega)]
    have := Int.mul_le_mul_of_nonneg_left ha.1 hm
    rw [Int.mul_neg] at this
    rw [Int.neg_mul]; exact this
  · have := Int.mul_le_mul_of_nonneg_left ha.2 hm
    have h2 : m * a / d ≤ m * d / d := Int.ediv_le_ediv (by omega) this
    rwa [Int.mul_ediv_cancel _ (by omega)] at h2
theorem way_bd (h : Int) {m : Int} (hm : 0 ≤ m) : (-m ≤ wayX h m ∧ wayX h m ≤ m) ∧ (-m ≤ wayY h m ∧ wayY h m ≤ m) := by
  have hv := vecOK_iff.1 (dirV_ok h)
  exact ⟨div_bd hv.1.1 hv.2.1 hm, div_bd hv.1.1 hv.2.2.1 hm⟩
theorem spr1 (a b : Int) (l : List Pt) : spr (1, 0) ((a, b) :: l) = absI a + spr (1, 0) l ∧ spr (0, 1) ((a, b) :: l) = absI b + spr (0, 1) l := by
  rw [spr_cons, spr_cons]
  unfold dotP; simp
theorem spr_nil (n : Pt) : spr n [] = 0 := rfl
theorem canon_valid {x y : Int} {A : List Pt} (hx : -8388608 ≤ x ∧ x ≤ 8388608) (hy : -8388608 ≤ y ∧ y ≤ 8388608) (hl : A.length ≤ 16) (h1 : spr (1, 0) A ≤ 65536) (h2 : spr (0, 1) A ≤ 65536) : validB x y (canonL A) = true :=
  validB_of hx hy (Nat.le_trans (canonL_len A) hl) (canon_in h1 h2)
theorem sum_ok {x1 y1 x2 y2 : Int} {A B : List Pt} (hx1 : -4194304 ≤ x1 ∧ x1 ≤ 4194304) (hy1 : -4194304 ≤ y1 ∧ y1 ≤ 4194304) (hx2 : -4194304 ≤ x2 ∧ x2 ≤ 4194304) (hy2 : -4194304 ≤ y2 ∧ y2 ≤ 4194304)
    (hl : A.length + B.length ≤ 16) (h1 : spr (1, 0) A + spr (1, 0) B ≤ 65536) (h2 : spr (0, 1) A + spr (0, 1) B ≤ 65536) : sumE x1 y1 (canonL A) x2 y2 (canonL B) = 0 := by
  have a1 := spr_nn (1, 0) A
  have a2 := spr_nn (0, 1) A
  have b1 := spr_nn (1, 0) B
  have b2 := spr_nn (0, 1) B
  refine sumE_0 (canon_valid (by omega) (by omega) (by omega) (by omega) (by omega)) (canon_valid (by omega) (by omega) (by omega) (by omega) (by omega)) ?_
  have e : canonL (canonL A ++ canonL B) = canonL (A ++ B) := by rw [canonL_appl, canonL_appr]
  rw [e]
  exact canon_valid (by omega) (by omega) (by rw [List.length_append]; omega) (by rw [spr_app]; omega) (by rw [spr_app]; omega)
/-- Whether a number is in a range; a command's, the bounds' validity. -/
def btw (n lo hi : Int) : Bool := decide (lo ≤ n) && decide (n ≤ hi)
theorem btw_iff {n lo hi : Int} : btw n lo hi = true ↔ lo ≤ n ∧ n ≤ hi := by unfold btw; simp
def cmdB (t f : Int) : Bool := within t 32 && btw f 0 32
def bndB (tu le sl ra : Int) : Bool := btw tu 0 8 && (btw le 0 16 && (btw sl 0 8 && btw ra 1 32))
/-- Whether a sweep's arguments are valid. -/
def sweB (x0 y0 x1 y1 t f tu le sl ra : Int) : Bool :=
  within x0 1048576 && (within y0 1048576 && (within x1 1048576 && (within y1 1048576 && (btw (x1 - x0) 0 32768 && (btw (y1 - y0) 0 32768 && (cmdB t f && bndB tu le sl ra))))))
def sweE (x0 y0 x1 y1 h t f tu le sl ra : Int) : Int := if sweB x0 y0 x1 y1 t f tu le sl ra = true then (if btw h 0 255 = true then 0 else 2) else 1
def wayL (h f le : Int) : List Pt := if f = 0 then [] else [(wayX h (f + le), wayY h (f + le))]
def hlf (f sl : Int) : Int := if f = 0 then 20 else sl + 21
/-- What a sweep is: its center and its generators. -/
def sweX (x0 x1 h f le : Int) : Int := x0 + x1 + (if f = 0 then 0 else wayX h (f + le))
def sweY (y0 y1 h f le : Int) : Int := y0 + y1 + (if f = 0 then 0 else wayY h (f + le))
def sweL (x0 y0 x1 y1 h f le sl : Int) : List Pt := canonL (recL x0 y0 x1 y1 ++ wayL h f le ++ sqrL (hlf f sl))
theorem swe_bd {x0 y0 x1 y1 t f tu le sl ra : Int} (h : sweB x0 y0 x1 y1 t f tu le sl ra = true) : ((-1048576 ≤ x0 ∧ x0 ≤ 1048576) ∧ (-1048576 ≤ y0 ∧ y0 ≤ 1048576) ∧ (-1048576 ≤ x1 ∧ x1 ≤ 1048576) ∧ (-1048576 ≤ y1 ∧ y1 ≤ 1048576)) ∧ ((0 ≤ x1 - x0 ∧ x1 - x0 ≤ 32768) ∧ (0 ≤ y1 - y0 ∧ y1 - y0 ≤ 32768)) ∧ (-32 ≤ t ∧ t ≤ 32) ∧ (0 ≤ f ∧ f ≤ 32) ∧ (0 ≤ tu ∧ tu ≤ 8) ∧ (0 ≤ le ∧ le ≤ 16) ∧ (0 ≤ sl ∧ sl ≤ 8) ∧ (1 ≤ ra ∧ ra ≤ 32) := by
  unfold sweB cmdB bndB at h
  simp only [Bool.and_eq_true, within_iff, btw_iff] at h
  omega
theorem rec_spr {x0 y0 x1 y1 : Int} (hx : 0 ≤ x1 - x0) (hy : 0 ≤ y1 - y0) : spr (1, 0) (recL x0 y0 x1 y1) = x1 - x0 ∧ spr (0, 1) (recL x0 y0 x1 y1) = y1 - y0 := by
  unfold recL
  rw [(spr1 _ _ _).1, (spr1 _ _ _).1, (spr1 _ _ _).2, (spr1 _ _ _).2, spr_nil, spr_nil, absI_of_nn hx, absI_of_nn hy, absI_zero]
  omega
theorem sqr_spr {a : Int} (h : 0 ≤ a) : spr (1, 0) (sqrL a) = 2 * a ∧ spr (0, 1) (sqrL a) = 2 * a := by
  unfold sqrL
  rw [(spr1 _ _ _).1, (spr1 _ _ _).1, (spr1 _ _ _).2, (spr1 _ _ _).2, spr_nil, spr_nil, absI_of_nn (by omega : 0 ≤ a - (0 - a)), absI_zero]
  omega
theorem way_spr {h m : Int} (hm : 0 ≤ m) : spr (1, 0) [(wayX h m, wayY h m)] ≤ m ∧ spr (0, 1) [(wayX h m, wayY h m)] ≤ m := by
  have := way_bd h hm
  rw [(spr1 _ _ _).1, (spr1 _ _ _).2, spr_nil, spr_nil]
  unfold absI
  constructor <;> split <;> omega
theorem sw_eq (R W Q : List Pt) : canonL (canonL (canonL R ++ canonL W) ++ canonL Q) = canonL (R ++ W ++ Q) := by
  rw [canonL_appl, canonL_appr, List.append_assoc, canonL_appl, ← List.append_assoc]
  have e : canonL (R ++ canonL W ++ Q) = canonL (R ++ W ++ Q) := by
    rw [← canonL_appl (R ++ canonL W), canonL_appr, canonL_appl]
  exact e
theorem sw_eq0 (R Q : List Pt) : canonL (canonL R ++ canonL Q) = canonL (R ++ [] ++ Q) := by
  rw [canonL_appl, canonL_appr, List.append_nil]
end Go.Proofs.YtoimakfecmhjkaaGreat

/- Walks by the abstract machine: small functions on numbers. Conditions: as each theorem states. -/
namespace Go.Proofs.YtoimakfecmhjkaaGreat
set_option linter.unusedSimpArgs false
set_option linter.unusedVariables false
open Go.RowKit
theorem tdiv_bd {a b : Int} (hb : 0 < b) (hw : -4611686018427387904 ≤ a ∧ a ≤ 4611686018427387904) : -4611686018427387904 ≤ Int.tdiv a b ∧ Int.tdiv a b ≤ 4611686018427387904 := by
  have h := floor_eq (a := a) hb
  have h1 : a / b ≤ 4611686018427387904 := Int.ediv_le_of_le_mul hb (by have := Int.mul_le_mul_of_nonneg_left (show (1 : Int) ≤ b by omega) (by decide : (0 : Int) ≤ 4611686018427387904); omega)
  have h2 : -4611686018427387904 ≤ a / b := by
    rw [Int.le_ediv_iff_mul_le hb]
    have := Int.mul_le_mul_of_nonneg_left (show (1 : Int) ≤ b by omega) (by decide : (0 : Int) ≤ 4611686018427387904)
    rw [Int.neg_mul]; omega
  rw [Int.tdiv_eq_ediv]
  have hs : b.sign = 1 := Int.sign_eq_one_of_pos hb
  split
  · omega
  · rename_i hh
    rw [hs]
    rcases (by omega : a / b ≤ 4611686018427387903 ∨ a / b = 4611686018427387904) with k | k
    · omega
    · exfalso
      have h3 : 4611686018427387904 * b ≤ a := by rw [← Int.le_ediv_iff_mul_le hb]; omega
      have := Int.mul_le_mul_of_nonneg_left (show (1 : Int) ≤ b by omega) (by decide : (0 : Int) ≤ 4611686018427387904)
      omega
theorem i64_and255 (a : Int) : IntKind.i64.wrap ((BitVec.ofInt IntKind.i64.bits a &&& BitVec.ofInt IntKind.i64.bits 255).toNat : Int) = (((a % 256).toNat : Nat) : Int) := by
  have h := and255 a
  show IntKind.i64.wrap (((BitVec.ofInt 64 a &&& BitVec.ofInt 64 255).toNat : Nat) : Int) = _
  rw [h]
  exact wrap_in (by omega) (by omega)
theorem rem_n64 (a : Nat) : Int.tmod (a : Int) 64 = ((a % 64 : Nat) : Int) := rfl
theorem quo_n64 (a : Nat) : Int.tdiv (a : Int) 64 = ((a / 64 : Nat) : Int) := rfl
theorem mod_nn {a b : Int} (hb : 0 < b) : (if Int.tmod a b < 0 then Int.tmod a b + b else Int.tmod a b) = a % b := by
  rw [Int.tmod_eq_emod]
  have h1 := Int.emod_nonneg a (by omega : b ≠ 0)
  have h2 := Int.emod_lt_of_pos a hb
  have hn : (b.natAbs : Int) = b := by omega
  split
  · rw [if_neg (by omega)]; omega
  · rw [if_pos (by omega)]; omega
set_option maxHeartbeats 4000000 in
set_option maxRecDepth 100000 in
theorem mwithin_c (H : AHeap) (n : Int) (lo : Int) (hi : Int) : ACalls Tryz.prog 47 [.int .i64 n, .int .i64 lo, .int .i64 hi] H (fun v H' => v = .bool (btw n lo hi) ∧ H' = H) := by
  (refine ACalls_run try_mixed Tryz.func47 true _ rfl (Nat.le_of_ble_eq_true (by kernel_rfl)) (by kernel_rfl) ?_; intro hbel Q hQ hQ' c hc; unfold Tryz.f47 at hc; simp only [Option.some.injEq] at hc; subst hc; clear hQ')
  refine runT ?_
  refine gd_split (fun h1 => ?_) (fun h1 => ?_)
  · have h1d := h1
    try simp only [boolset, beq_iff_eq, ne_eq] at h1d
    have g'1 := (jn @h1 @h1d)
    refine runTf g'1 ?_
    exact hQ _ _ (end_plain0 (.inl rfl) hbel (x := .bool (decide (n ≤ hi))) (resT Tryz.results47) rfl ⟨by simp [btw, h1d], rfl⟩)
  · have h1d := h1
    try simp only [boolset, beq_iff_eq, ne_eq] at h1d
    have g'2 := (jn @h1 @h1d)
    refine runTf g'2 ?_
    exact hQ _ _ (end_plain0 (.inl rfl) hbel (x := .bool false) (resT Tryz.results47) rfl ⟨by simp [btw, h1d], rfl⟩)
set_option maxHeartbeats 4000000 in
set_option maxRecDepth 100000 in
theorem dbetween_c (H : AHeap) (n : Int) (lo : Int) (hi : Int) : ACalls Tryz.prog 105 [.int .i64 n, .int .i64 lo, .int .i64 hi] H (fun v H' => v = .bool (btw n lo hi) ∧ H' = H) := by
  (refine ACalls_run try_mixed Tryz.func105 true _ rfl (Nat.le_of_ble_eq_true (by kernel_rfl)) (by kernel_rfl) ?_; intro hbel Q hQ hQ' c hc; unfold Tryz.f105 at hc; simp only [Option.some.injEq] at hc; subst hc; clear hQ')
  refine runT ?_
  refine gd_split (fun h1 => ?_) (fun h1 => ?_)
  · have h1d := h1
    try simp only [boolset, beq_iff_eq, ne_eq] at h1d
    have g'3 := (jn @h1 @h1d)
    refine runTf g'3 ?_
    exact hQ _ _ (end_plain0 (.inl rfl) hbel (x := .bool (decide (n ≤ hi))) (resT Tryz.results105) rfl ⟨by simp [btw, h1d], rfl⟩)
  · have h1d := h1
    try simp only [boolset, beq_iff_eq, ne_eq] at h1d
    have g'4 := (jn @h1 @h1d)
    refine runTf g'4 ?_
    exact hQ _ _ (end_plain0 (.inl rfl) hbel (x := .bool false) (resT Tryz.results105) rfl ⟨by simp [btw, h1d], rfl⟩)
set_option maxHeartbeats 4000000 in
set_option maxRecDepth 100000 in
theorem mnear_c (H : AHeap) (n : Int) : ACalls Tryz.prog 46 [.int .i64 n] H (fun v H' => v = .bool (within n 1048576) ∧ H' = H) := by
  (refine ACalls_run try_mixed Tryz.func46 true _ rfl (Nat.le_of_ble_eq_true (by kernel_rfl)) (by kernel_rfl) ?_; intro hbel Q hQ hQ' c hc; unfold Tryz.f46 at hc; simp only [Option.some.injEq] at hc; subst hc; clear hQ')
  refine runT ?_
  refine call_v (by kernel_rfl) (mwithin_c _ n (-1048576) 1048576) ?_
  refine runT ?_
  exact hQ _ _ (end_plain0 (.inl rfl) hbel (x := .bool (btw n (-1048576) 1048576)) (resT Tryz.results46) rfl ⟨by simp [btw, within, true_and], rfl⟩)
set_option maxHeartbeats 4000000 in
set_option maxRecDepth 100000 in
theorem dwithin_c (H : AHeap) (x : Int) (m : Int) (h : 0 ≤ m ∧ m ≤ 4611686018427387904) : ACalls Tryz.prog 104 [.int .i64 x, .int .i64 m] H (fun v H' => v = .bool (within x m) ∧ H' = H) := by
  (refine ACalls_run try_mixed Tryz.func104 true _ rfl (Nat.le_of_ble_eq_true (by kernel_rfl)) (by kernel_rfl) ?_; intro hbel Q hQ hQ' c hc; unfold Tryz.f104 at hc; simp only [Option.some.injEq] at hc; subst hc; clear hQ')
  refine runT ?_
  refine call_v (by kernel_rfl) (dbetween_c _ x (0 - m) m) ?_
  refine runT ?_
  exact hQ _ _ (end_plain0 (.inl rfl) hbel (x := .bool (btw x (0 - m) m)) (resT Tryz.results104) rfl ⟨by simp [btw, within, true_and], rfl⟩)
set_option maxHeartbeats 4000000 in
set_option maxRecDepth 100000 in
theorem vcmd_c (H : AHeap) (t : Int) (f : Int) : ACalls Tryz.prog 48 [.agg [.int .i64 t, .int .i64 f]] H (fun v H' => v = .bool (cmdB t f) ∧ H' = H) := by
  (refine ACalls_run try_mixed Tryz.func48 true _ rfl (Nat.le_of_ble_eq_true (by kernel_rfl)) (by kernel_rfl) ?_; intro hbel Q hQ hQ' c hc; unfold Tryz.f48 at hc; simp only [Option.some.injEq] at hc; subst hc; clear hQ')
  refine runT ?_
  refine call_v (by kernel_rfl) (dwithin_c _ t 32 (by decide)) ?_
  refine runT ?_
  refine gd_split (fun h1 => ?_) (fun h1 => ?_)
  · have h1d := h1
    try simp only [boolset, beq_iff_eq, ne_eq] at h1d
    have g'5 := (jn @h1 @h1d)
    refine runTf g'5 ?_
    refine call_v (by kernel_rfl) (dbetween_c _ f 0 32) ?_
    refine runTf g'5 ?_
    exact hQ _ _ (end_plain (.inl rfl) hbel (x := .bool (btw f 0 32)) (resT Tryz.results48) rfl ⟨by simp [cmdB, h1d], rfl⟩)
  · have h1d := h1
    try simp only [boolset, beq_iff_eq, ne_eq] at h1d
    have g'6 := (jn @h1 @h1d)
    refine runTf g'6 ?_
    exact hQ _ _ (end_plain (.inl rfl) hbel (x := .bool false) (resT Tryz.results48) rfl ⟨by simp [cmdB, h1d], rfl⟩)
set_option maxHeartbeats 4000000 in
set_option maxRecDepth 100000 in
theorem bcmd_c (H : AHeap) (t : Int) (f : Int) : ACalls Tryz.prog 26 [.agg [.int .i64 t, .int .i64 f]] H (fun v H' => v = .bool (cmdB t f) ∧ H' = H) := by
  (refine ACalls_run try_mixed Tryz.func26 true _ rfl (Nat.le_of_ble_eq_true (by kernel_rfl)) (by kernel_rfl) ?_; intro hbel Q hQ hQ' c hc; unfold Tryz.f26 at hc; simp only [Option.some.injEq] at hc; subst hc; clear hQ')
  refine runT ?_
  refine call_v (by kernel_rfl) (bsize_c _ _ _ (by decide)) ?_
  refine runT ?_
  refine gd_split (fun h1 => ?_) (fun h1 => ?_)
  · have h1d := h1
    try simp only [boolset, beq_iff_eq, ne_eq] at h1d
    have g'7 := (jn @h1 @h1d)
    refine runTf g'7 ?_
    refine gd_split (fun h2 => ?_) (fun h2 => ?_)
    · have h2d := h2
      try simp only [boolset, beq_iff_eq, ne_eq] at h2d
      have g'8 := (jn @h2 (jn @h2d g'7))
      refine runTf g'8 ?_
      exact hQ _ _ (end_plain (.inl rfl) hbel (x := .bool (decide (f ≤ 32))) (resT Tryz.results26) rfl ⟨by simp [cmdB, btw, h1d, h2d], rfl⟩)
    · have h2d := h2
      try simp only [boolset, beq_iff_eq, ne_eq] at h2d
      have g'9 := (jn @h2 (jn @h2d g'7))
      refine runTf g'9 ?_
      exact hQ _ _ (end_plain (.inl rfl) hbel (x := .bool false) (resT Tryz.results26) rfl ⟨by simp [cmdB, btw, h1d, h2d], rfl⟩)
  · have h1d := h1
    try simp only [boolset, beq_iff_eq, ne_eq] at h1d
    have g'10 := (jn @h1 @h1d)
    refine runTf g'10 ?_
    exact hQ _ _ (end_plain (.inl rfl) hbel (x := .bool false) (resT Tryz.results26) rfl ⟨by simp [cmdB, btw, h1d], rfl⟩)
set_option maxHeartbeats 4000000 in
set_option maxRecDepth 100000 in
theorem vbnd_c (H : AHeap) (tu : Int) (le : Int) (sl : Int) (ra : Int) : ACalls Tryz.prog 49 [.agg [.int .i64 tu, .int .i64 le, .int .i64 sl, .int .i64 ra]] H (fun v H' => v = .bool (bndB tu le sl ra) ∧ H' = H) := by
  (refine ACalls_run try_mixed Tryz.func49 true _ rfl (Nat.le_of_ble_eq_true (by kernel_rfl)) (by kernel_rfl) ?_; intro hbel Q hQ hQ' c hc; unfold Tryz.f49 at hc; simp only [Option.some.injEq] at hc; subst hc; clear hQ')
  refine runT ?_
  refine call_v (by kernel_rfl) (dbetween_c _ tu 0 8) ?_
  refine runT ?_
  refine gd_split (fun h1 => ?_) (fun h1 => ?_)
  · have h1d := h1
    try simp only [boolset, beq_iff_eq, ne_eq] at h1d
    have g'11 := (jn @h1 @h1d)
    refine runTf g'11 ?_
    refine call_v (by kernel_rfl) (dbetween_c _ le 0 16) ?_
    refine runTf g'11 ?_
    refine gd_split (fun h2 => ?_) (fun h2 => ?_)
    · have h2d := h2
      try simp only [boolset, beq_iff_eq, ne_eq] at h2d
      have g'12 := (jn @h2 (jn @h2d g'11))
      refine runTf g'12 ?_
      refine call_v (by kernel_rfl) (dbetween_c _ sl 0 8) ?_
      refine runTf g'12 ?_
      refine gd_split (fun h3 => ?_) (fun h3 => ?_)
      · have h3d := h3
        try simp only [boolset, beq_iff_eq, ne_eq] at h3d
        have g'13 := (jn @h3 (jn @h3d g'12))
        refine runTf g'13 ?_
        refine call_v (by kernel_rfl) (dbetween_c _ ra 1 32) ?_
        refine runTf g'13 ?_
        exact hQ _ _ (end_plain (.inl rfl) hbel (x := .bool (btw ra 1 32)) (resT Tryz.results49) rfl ⟨by simp [bndB, h1d, h2d, h3d], rfl⟩)
      · have h3d := h3
        try simp only [boolset, beq_iff_eq, ne_eq] at h3d
        have g'14 := (jn @h3 (jn @h3d g'12))
        refine runTf g'14 ?_
        exact hQ _ _ (end_plain (.inl rfl) hbel (x := .bool false) (resT Tryz.results49) rfl ⟨by simp [bndB, h1d, h2d, h3d], rfl⟩)
    · have h2d := h2
      try simp only [boolset, beq_iff_eq, ne_eq] at h2d
      have g'15 := (jn @h2 (jn @h2d g'11))
      refine runTf g'15 ?_
      exact hQ _ _ (end_plain (.inl rfl) hbel (x := .bool false) (resT Tryz.results49) rfl ⟨by simp [bndB, h1d, h2d], rfl⟩)
  · have h1d := h1
    try simp only [boolset, beq_iff_eq, ne_eq] at h1d
    have g'16 := (jn @h1 @h1d)
    refine runTf g'16 ?_
    exact hQ _ _ (end_plain (.inl rfl) hbel (x := .bool false) (resT Tryz.results49) rfl ⟨by simp [bndB, h1d], rfl⟩)
set_option maxHeartbeats 4000000 in
set_option maxRecDepth 100000 in
theorem mfloor_c (H : AHeap) (a : Int) (b : Int) (hb : 0 < b) (hw : -4611686018427387904 ≤ a ∧ a ≤ 4611686018427387904) : ACalls Tryz.prog 55 [.int .i64 a, .int .i64 b] H (fun v H' => v = .int .i64 (a / b) ∧ H' = H) := by
  have htd := tdiv_bd (a := a) (b := b) hb hw
  (refine ACalls_run try_mixed Tryz.func55 true _ rfl (Nat.le_of_ble_eq_true (by kernel_rfl)) (by kernel_rfl) ?_; intro hbel Q hQ hQ' c hc; unfold Tryz.f55 at hc; simp only [Option.some.injEq] at hc; subst hc; clear hQ')
  refine runT ?_
  refine cond_split (fun h1 => ?_) (fun h1 => ?_)
  · have h1d := h1
    try simp only [boolset, beq_iff_eq, ne_eq] at h1d
    have hfinq : Int.tdiv a b - 1 = a / b := by rw [← floor_eq hb, if_pos h1d]
    have g'33 := (jn @h1 @h1d)
    refine runTf g'33 ?_
    exact hQ _ _ (end_plain0 (.inl rfl) hbel (x := .int .i64 ((Int.tdiv a b) - 1)) (resT Tryz.results55) rfl ⟨congrArg (AV.int .i64) hfinq, rfl⟩)
  · have h1d := h1
    try simp only [boolset, beq_iff_eq, ne_eq] at h1d
    have hfinq : Int.tdiv a b = a / b := by rw [← floor_eq hb, if_neg (by omega)]
    have g'34 := (jn @h1 @h1d)
    refine runTf g'34 ?_
    exact hQ _ _ (end_plain0 (.inl rfl) hbel (x := .int .i64 (Int.tdiv a b)) (resT Tryz.results55) rfl ⟨congrArg (AV.int .i64) hfinq, rfl⟩)
set_option maxHeartbeats 4000000 in
set_option maxRecDepth 100000 in
theorem bmod_c (H : AHeap) (a : Int) (b : Int) (hb : 0 < b) (hw : b ≤ 4611686018427387904) : ACalls Tryz.prog 29 [.int .i64 a, .int .i64 b] H (fun v H' => v = .int .i64 (((a % b).toNat : Nat) : Int) ∧ H' = H) := by
  have hmd := mod_nn (a := a) hb
  have hm1 := Int.emod_nonneg a (by omega : b ≠ 0)
  have hm2 := Int.emod_lt_of_pos a hb
  have hm3 : -b ≤ Int.tmod a b ∧ Int.tmod a b < b := by split at hmd <;> omega
  (refine ACalls_run try_mixed Tryz.func29 true _ rfl (Nat.le_of_ble_eq_true (by kernel_rfl)) (by kernel_rfl) ?_; intro hbel Q hQ hQ' c hc; unfold Tryz.f29 at hc; simp only [Option.some.injEq] at hc; subst hc; clear hQ')
  refine runT ?_
  refine cond_split (fun h1 => ?_) (fun h1 => ?_)
  · have h1d := h1
    try simp only [boolset, beq_iff_eq, ne_eq] at h1d
    have hfinq : Int.tmod a b + b = (((a % b).toNat : Nat) : Int) := by rw [if_pos h1d] at hmd; omega
    have g'39 := (jn @h1 @h1d)
    refine runTf g'39 ?_
    exact hQ _ _ (end_plain0 (.inl rfl) hbel (x := .int .i64 ((Int.tmod a b) + b)) (resT Tryz.results29) rfl ⟨congrArg (AV.int .i64) hfinq, rfl⟩)
  · have h1d := h1
    try simp only [boolset, beq_iff_eq, ne_eq] at h1d
    have hfinq : Int.tmod a b = (((a % b).toNat : Nat) : Int) := by rw [if_neg (by omega)] at hmd; omega
    have g'40 := (jn @h1 @h1d)
    refine runTf g'40 ?_
    exact hQ _ _ (end_plain0 (.inl rfl) hbel (x := .int .i64 (Int.tmod a b)) (resT Tryz.results29) rfl ⟨congrArg (AV.int .i64) hfinq, rfl⟩)
set_option maxHeartbeats 4000000 in
set_option maxRecDepth 100000 in
theorem mark_c (H : AHeap) (h : Int) : ACalls Tryz.prog 111 [.int .i64 h] H (fun v H' => v = .int .i64 (((h % 256).toNat : Nat) : Int) ∧ H' = H) := by
  (refine ACalls_run try_mixed Tryz.func111 true _ rfl (Nat.le_of_ble_eq_true (by kernel_rfl)) (by kernel_rfl) ?_; intro hbel Q hQ hQ' c hc; unfold Tryz.f111 at hc; simp only [Option.some.injEq] at hc; subst hc; clear hQ')
  have g'41 := @i64_and255
  refine runTf g'41 ?_
  exact hQ _ _ (end_plain0 (.inl rfl) hbel (x := .int .i64 (((h % 256).toNat : Nat) : Int)) (resT Tryz.results111) rfl ⟨rfl, rfl⟩)
end Go.Proofs.YtoimakfecmhjkaaGreat

/- Plain facts on arcs of marks. Conditions: as each theorem states. -/
namespace Go.Proofs.YtoimakfecmhjkaaGreat
set_option linter.unusedSimpArgs false
set_option linter.unusedVariables false
open Go.RowKit
/-- The way from a mark to another one. -/
def delI (a b : Int) : Int := if 128 ≤ (b - a) % 256 then (b - a) % 256 - 256 else (b - a) % 256
/-- A mark is in an arc. -/
def inArc (f c m : Int) : Prop := (m - f) % 256 < c
instance (f c m : Int) : Decidable (inArc f c m) := by unfold inArc; exact inferInstance
end Go.Proofs.YtoimakfecmhjkaaGreat

/- Walks by the abstract machine: Delta, both. Conditions: as each theorem states. -/
namespace Go.Proofs.YtoimakfecmhjkaaGreat
set_option linter.unusedSimpArgs false
set_option linter.unusedVariables false
open Go.RowKit
def clipI (d : Int) : Int := if d < -32 then -32 else if 32 < d then 32 else d
set_option maxHeartbeats 4000000 in
set_option maxRecDepth 100000 in
theorem delta_c (H : AHeap) (a : Int) (b : Int) (ka : -1152921504606846976 ≤ a ∧ a ≤ 1152921504606846976) (kb : -1152921504606846976 ≤ b ∧ b ≤ 1152921504606846976) : ACalls Tryz.prog 99 [.int .i64 a, .int .i64 b] H (fun v H' => v = .int .i64 (delI a b) ∧ H' = H) := by
  (refine ACalls_run try_mixed Tryz.func99 true _ rfl (Nat.le_of_ble_eq_true (by kernel_rfl)) (by kernel_rfl) ?_; intro hbel Q hQ hQ' c hc; unfold Tryz.f99 at hc; simp only [Option.some.injEq] at hc; subst hc; clear hQ')
  refine runT ?_
  refine call_v (by kernel_rfl) (mark_c _ (b - a)) ?_
  refine runT ?_
  refine cond_split (fun h1 => ?_) (fun h1 => ?_)
  · have h1d := h1
    try simp only [boolset, beq_iff_eq, ne_eq] at h1d
    have g'1 := (jn @h1 @h1d)
    refine runTf g'1 ?_
    exact hQ _ _ (end_plain0 (.inl rfl) hbel (x := .int .i64 (((((b - a) % 256).toNat : Nat) : Int) - 256)) (resT Tryz.results99) rfl ⟨congrArg (AV.int .i64) (by unfold delI; split <;> omega), rfl⟩)
  · have h1d := h1
    try simp only [boolset, beq_iff_eq, ne_eq] at h1d
    have g'2 := (jn @h1 @h1d)
    refine runTf g'2 ?_
    exact hQ _ _ (end_plain0 (.inl rfl) hbel (x := .int .i64 ((((b - a) % 256).toNat : Nat) : Int)) (resT Tryz.results99) rfl ⟨congrArg (AV.int .i64) (by unfold delI; split <;> omega), rfl⟩)
set_option maxHeartbeats 4000000 in
set_option maxRecDepth 100000 in
theorem rdelta_c (H : AHeap) (a : Int) (b : Int) (ka : -1152921504606846976 ≤ a ∧ a ≤ 1152921504606846976) (kb : -1152921504606846976 ≤ b ∧ b ≤ 1152921504606846976) : ACalls Tryz.prog 100 [.int .i64 a, .int .i64 b] H (fun v H' => v = .int .i64 (delI a b) ∧ H' = H) := by
  (refine ACalls_run try_mixed Tryz.func100 true _ rfl (Nat.le_of_ble_eq_true (by kernel_rfl)) (by kernel_rfl) ?_; intro hbel Q hQ hQ' c hc; unfold Tryz.f100 at hc; simp only [Option.some.injEq] at hc; subst hc; clear hQ')
  refine runT ?_
  refine call_v (by kernel_rfl) (bmod_c _ b 256 (by omega) (by omega)) ?_
  refine runT ?_
  refine call_v (by kernel_rfl) (bmod_c _ a 256 (by omega) (by omega)) ?_
  refine runT ?_
  refine call_v (by kernel_rfl) (bmod_c _ ((((b % 256).toNat : Nat) : Int) - (((a % 256).toNat : Nat) : Int)) 256 (by omega) (by omega)) ?_
  refine runT ?_
  refine cond_split (fun h1 => ?_) (fun h1 => ?_)
  · have h1d := h1
    try simp only [boolset, beq_iff_eq, ne_eq] at h1d
    have g'3 := (jn @h1 @h1d)
    refine runTf g'3 ?_
    exact hQ _ _ (end_plain0 (.inl rfl) hbel (x := .int .i64 ((((((((b % 256).toNat : Nat) : Int) - (((a % 256).toNat : Nat) : Int)) % 256).toNat : Nat) : Int) - 256)) (resT Tryz.results100) rfl ⟨congrArg (AV.int .i64) (by unfold delI; split <;> omega), rfl⟩)
  · have h1d := h1
    try simp only [boolset, beq_iff_eq, ne_eq] at h1d
    have g'4 := (jn @h1 @h1d)
    refine runTf g'4 ?_
    exact hQ _ _ (end_plain0 (.inl rfl) hbel (x := .int .i64 (((((((b % 256).toNat : Nat) : Int) - (((a % 256).toNat : Nat) : Int)) % 256).toNat : Nat) : Int)) (resT Tryz.results100) rfl ⟨congrArg (AV.int .i64) (by unfold delI; split <;> omega), rfl⟩)
end Go.Proofs.YtoimakfecmhjkaaGreat

/- Walks by the abstract machine: directions of marks, both. Conditions: as each theorem states. -/
namespace Go.Proofs.YtoimakfecmhjkaaGreat
set_option linter.unusedSimpArgs false
set_option linter.unusedVariables false
open Go.RowKit
/-- The state of the search for the common divisor. -/
def gst (x y d : Int) : Nat → Nat
  | 0 => d.natAbs
  | 1 => Nat.gcd d.natAbs x.natAbs
  | _ + 2 => gcd3 x y d
def nst (x y : Int) : Nat → Nat
  | 0 => x.natAbs
  | _ + 1 => y.natAbs
theorem gcd_step (a b : Nat) : Nat.gcd b (a % b) = Nat.gcd a b := by rw [Nat.gcd_comm b, ← Nat.gcd_rec, Nat.gcd_comm]
theorem rot_ok {v : Vec} (h : vecOK v = true) : ∀ n, vecOK (rotN v n) = true
  | 0 => h
  | n + 1 => by
    have ih := vecOK_iff.1 (rot_ok h n)
    rw [vecOK_iff]
    unfold rotN
    simp only
    refine ⟨ih.1, by omega, by omega, ?_⟩
    rw [Int.neg_mul_neg]; omega
theorem dir0_ok {k : Nat} (h : k < 64) : vecOK (dir0 k) = true := by
  have := List.all_eq_true.1 dirs_ok k (by simp; omega)
  unfold dirN at this
  rwa [Nat.mod_eq_of_lt h, Nat.div_eq_of_lt h] at this
theorem rotN_D (v : Vec) : ∀ n, (rotN v n).2.2 = v.2.2
  | 0 => rfl
  | n + 1 => rotN_D v n
set_option maxHeartbeats 4000000 in
set_option maxRecDepth 100000 in
theorem abs4_c (H : AHeap) (n : Int) (h : -4611686018427387904 ≤ n ∧ n ≤ 4611686018427387904) : ACalls Tryz.prog 149 [.int .i64 n] H (fun v H' => v = .int .i64 ((n.natAbs : Nat) : Int) ∧ H' = H) := by
  (refine ACalls_run try_mixed Tryz.func149 true _ rfl (Nat.le_of_ble_eq_true (by kernel_rfl)) (by kernel_rfl) ?_; intro hbel Q hQ hQ' c hc; unfold Tryz.f149 at hc; simp only [Option.some.injEq] at hc; subst hc; clear hQ')
  refine runT ?_
  refine cond_split (fun h1 => ?_) (fun h1 => ?_)
  · have h1d := h1
    try simp only [boolset, beq_iff_eq, ne_eq] at h1d
    have g'1 := (jn @h1 @h1d)
    refine runTf g'1 ?_
    exact hQ _ _ (end_plain0 (.inl rfl) hbel (x := .int .i64 (0 - n)) (resT Tryz.results149) rfl ⟨congrArg (AV.int .i64) (by omega), rfl⟩)
  · have h1d := h1
    try simp only [boolset, beq_iff_eq, ne_eq] at h1d
    have g'2 := (jn @h1 @h1d)
    refine runTf g'2 ?_
    exact hQ _ _ (end_plain0 (.inl rfl) hbel (x := .int .i64 n) (resT Tryz.results149) rfl ⟨congrArg (AV.int .i64) (by omega), rfl⟩)
set_option maxHeartbeats 4000000 in
set_option maxRecDepth 100000 in
theorem gcd_n (H : AHeap) (a0 : Nat) (b0 : Nat) (c0 : Nat) : ACalls Tryz.prog 148 [.int .i64 ((a0 : Nat) : Int), .int .i64 ((b0 : Nat) : Int), .int .i64 ((c0 : Nat) : Int)] H (fun v H' => v = .int .i64 ((Nat.gcd (Nat.gcd a0 b0) c0 : Nat) : Int) ∧ H' = H) := by
  (refine ACalls_run try_mixed Tryz.func148 true _ rfl (Nat.le_of_ble_eq_true (by kernel_rfl)) (by kernel_rfl) ?_; intro hbel Q hQ hQ' c hc; unfold Tryz.f148 at hc; simp only [Option.some.injEq] at hc; subst hc; clear hQ')
  have g'3 := @rem_nat
  refine runTf g'3 ?_
  refine go_loop try_mixed (by kernel_rfl) (fun k F Hx => ∃ a : Nat, ∃ b : Nat, b = k ∧ Nat.gcd a b = Nat.gcd a0 b0 ∧ F = [(0, .int .i64 ((a : Nat) : Int)), (1, .int .i64 ((b : Nat) : Int)), (2, .int .i64 ((c0 : Nat) : Int))] ∧ H = Hx) (b0) ?_ ?_
  · refine ⟨_, _, _, ⟨a0, b0, by omega, rfl, rfl, rfl⟩, Abs.by0 hbel ?_⟩
    exact absW
  · rintro k0 F Hx ⟨a, b, hm0, hG, rfl, rfl⟩ J0 hJ0
    refine runTf g'3 ?_
    refine cond_split (fun h1 => ?_) (fun h1 => ?_)
    · have h1d := h1
      try simp only [boolset, beq_iff_eq, ne_eq] at h1d
      have hlt : a % b < b := Nat.mod_lt _ (by omega)
      have g'4 := (jn @h1 (jn @h1d g'3))
      refine runTf g'4 ?_
      refine hJ0 _ _ ⟨a % b, by omega, _, _, _, ⟨b, a % b, by omega, by rw [← hG, gcd_step], rfl, rfl⟩, Abs.by0 hbel ?_⟩
      exact absW
    · have h1d := h1
      try simp only [boolset, beq_iff_eq, ne_eq] at h1d
      obtain rfl : b = 0 := by omega
      rw [Nat.gcd_zero_right] at hG
      have g'5 := (jn @h1 (jn @h1d g'3))
      refine runTf g'5 ?_
      refine go_loop try_mixed (by kernel_rfl) (fun k F Hx => ∃ a2 : Nat, ∃ c : Nat, c = k ∧ Nat.gcd a2 c = Nat.gcd (Nat.gcd a0 b0) c0 ∧ F = [(0, .int .i64 ((a2 : Nat) : Int)), (2, .int .i64 ((c : Nat) : Int))] ∧ H = Hx) (c0) ?_ ?_
      · refine ⟨_, _, _, ⟨a, c0, by omega, by rw [hG], rfl, rfl⟩, Abs.by0 hbel ?_⟩
        exact absW
      · rintro k1 F Hx ⟨a2, c, hm1, hG, rfl, rfl⟩ J1 hJ1
        refine runTf g'5 ?_
        refine cond_split (fun h2 => ?_) (fun h2 => ?_)
        · have h2d := h2
          try simp only [boolset, beq_iff_eq, ne_eq] at h2d
          have hlt : a2 % c < c := Nat.mod_lt _ (by omega)
          have g'6 := (jn @h2 (jn @h2d g'5))
          refine runTf g'6 ?_
          refine hJ1 _ _ ⟨a2 % c, by omega, _, _, _, ⟨c, a2 % c, by omega, by rw [← hG, gcd_step], rfl, rfl⟩, Abs.by0 hbel ?_⟩
          exact absW
        · have h2d := h2
          try simp only [boolset, beq_iff_eq, ne_eq] at h2d
          obtain rfl : c = 0 := by omega
          rw [Nat.gcd_zero_right] at hG
          have hfing := hG
          have g'7 := (jn @h2 (jn @h2d g'5))
          refine runTf g'7 ?_
          exact hQ _ _ (end_plain0 (.inl rfl) hbel (x := .int .i64 ((a2 : Nat) : Int)) (resT Tryz.results148) rfl ⟨congrArg (AV.int .i64) (by rw [hfing]), rfl⟩)
theorem gcd_x (H : AHeap) (x y d : Int) (hd : 0 ≤ d) : ACalls Tryz.prog 148 [.int .i64 ((x.natAbs : Nat) : Int), .int .i64 ((y.natAbs : Nat) : Int), .int .i64 d] H (fun v H' => v = .int .i64 ((gcd3 x y d : Nat) : Int) ∧ H' = H) := by
  obtain ⟨n, rfl⟩ := Int.eq_ofNat_of_zero_le hd
  have h := gcd_n H x.natAbs y.natAbs n
  rw [← gcd3_comm, Int.natAbs_natCast]
  exact h
set_option maxHeartbeats 4000000 in
set_option maxRecDepth 100000 in
theorem rlow_c (H : AHeap) (x : Int) (y : Int) (d : Int) (hd : 0 < d) (kbx : -1152921504606846976 ≤ x ∧ x ≤ 1152921504606846976) (kby : -1152921504606846976 ≤ y ∧ y ≤ 1152921504606846976) (kbd : -1152921504606846976 ≤ d ∧ d ≤ 1152921504606846976) : ACalls Tryz.prog 98 [.int .i64 x, .int .i64 y, .int .i64 d] H (fun v H' => v = .agg [.int .i64 ((lowV x y d).1), .int .i64 ((lowV x y d).2.1), .int .i64 ((lowV x y d).2.2)] ∧ H' = H) := by
  (refine ACalls_run try_mixed Tryz.func98 true _ rfl (Nat.le_of_ble_eq_true (by kernel_rfl)) (by kernel_rfl) ?_; intro hbel Q hQ hQ' c hc; unfold Tryz.f98 at hc; simp only [Option.some.injEq] at hc; subst hc; clear hQ')
  refine runT ?_
  refine call_v (by kernel_rfl) (abs4_c _ x (by omega)) ?_
  refine runT ?_
  refine call_v (by kernel_rfl) (abs4_c _ y (by omega)) ?_
  refine runT ?_
  refine call_v (by kernel_rfl) (gcd_x _ x y d (by omega)) ?_
  have hg0 : 0 < gcd3 x y d := gcd3_pos (by omega)
  have t1 := tdiv_bd (a := x) (b := ((gcd3 x y d : Nat) : Int)) (by omega) (by omega)
  have t2 := tdiv_bd (a := y) (b := ((gcd3 x y d : Nat) : Int)) (by omega) (by omega)
  have t3 := tdiv_bd (a := d) (b := ((gcd3 x y d : Nat) : Int)) (by omega) (by omega)
  refine runT ?_
  exact hQ _ _ (end_plain (.inl rfl) hbel (x := .agg [.int .i64 (Int.tdiv x ((gcd3 x y d : Nat) : Int)), .int .i64 (Int.tdiv y ((gcd3 x y d : Nat) : Int)), .int .i64 (Int.tdiv d ((gcd3 x y d : Nat) : Int))]) (resT Tryz.results98) rfl ⟨rfl, rfl⟩)
set_option maxHeartbeats 4000000 in
set_option maxRecDepth 100000 in
theorem low_c (H : AHeap) (x : Int) (y : Int) (d : Int) (hd : 0 < d) (kbx : -1152921504606846976 ≤ x ∧ x ≤ 1152921504606846976) (kby : -1152921504606846976 ≤ y ∧ y ≤ 1152921504606846976) (kbd : -1152921504606846976 ≤ d ∧ d ≤ 1152921504606846976) : ACalls Tryz.prog 112 [.int .i64 x, .int .i64 y, .int .i64 d] H (fun v H' => v = .agg [.int .i64 ((lowV x y d).1), .int .i64 ((lowV x y d).2.1), .int .i64 ((lowV x y d).2.2)] ∧ H' = H) := by
  have hmx : (if x < 0 - x then 0 - x else x) = ((x.natAbs : Nat) : Int) := by split <;> omega
  have hmy : (if y < 0 - y then 0 - y else y) = ((y.natAbs : Nat) : Int) := by split <;> omega
  have hg00 : ((gst x y d 0 : Nat) : Int) = d := by simp only [gst]; omega
  have hg2 : gst x y d 2 = gcd3 x y d := rfl
  have hg0 : 0 < gcd3 x y d := gcd3_pos (by omega)
  have t1 := tdiv_bd (a := x) (b := ((gcd3 x y d : Nat) : Int)) (by omega) (by omega)
  have t2 := tdiv_bd (a := y) (b := ((gcd3 x y d : Nat) : Int)) (by omega) (by omega)
  have t3 := tdiv_bd (a := d) (b := ((gcd3 x y d : Nat) : Int)) (by omega) (by omega)
  (refine ACalls_run try_mixed Tryz.func112 true _ rfl (Nat.le_of_ble_eq_true (by kernel_rfl)) (by kernel_rfl) ?_; intro hbel Q hQ hQ' c hc; unfold Tryz.f112 at hc; simp only [Option.some.injEq] at hc; subst hc; clear hQ')
  have g'8 := (jn @hmx (jn @hmy (jn @hg2 @rem_nat)))
  refine runTf g'8 ?_
  refine go_loop try_mixed (by kernel_rfl) (fun k F Hx => ∃ j : Nat, j + k = 2 ∧ F = [(0, .int .i64 x), (1, .int .i64 y), (2, .int .i64 d), (6, .ptr (some (H.length, 0))), (7, .int .i64 ((gst x y d j : Nat) : Int)), (13, .agg [.int .i64 x, .int .i64 y]), (14, .int .i64 ((j : Nat) : Int))] ∧ Hx = H ++ [.cells true 0 [.int .i64 0, .int .i64 0, .int .i64 0]]) (2) ?_ ?_
  · refine ⟨_, _, _, ⟨0, by omega, rfl, rfl⟩, Abs.byG hbel [] rfl [0] (by decide) ?_⟩
    exact absWf (jn @hg00 @Int.natCast_zero)
  · rintro k0 F Hx ⟨j, hm0, rfl, rfl⟩ J0 hJ0
    refine runTf g'8 ?_
    refine cond_split (fun h1 => ?_) (fun h1 => ?_)
    · have h1d := h1
      try simp only [boolset, beq_iff_eq, ne_eq] at h1d
      obtain rfl | rfl := (by omega : j = 0 ∨ j = 1)
      · skip
        have g'9 := (jn @h1 (jn @h1d g'8))
        refine runTf g'9 ?_
        refine go_loop try_mixed (by kernel_rfl) (fun k F Hx => ∃ a : Nat, ∃ b : Nat, b = k ∧ Nat.gcd a b = gst x y d (0 + 1) ∧ F = [(0, .int .i64 x), (1, .int .i64 y), (2, .int .i64 d), (6, .ptr (some (H.length, 0))), (7, .int .i64 ((a : Nat) : Int)), (9, .int .i64 ((b : Nat) : Int)), (13, .agg [.int .i64 x, .int .i64 y]), (14, .int .i64 0)] ∧ Hx = H ++ [.cells true 0 [.int .i64 0, .int .i64 0, .int .i64 0]]) (nst x y 0) ?_ ?_
        · refine ⟨_, _, _, ⟨gst x y d 0, nst x y 0, by omega, rfl, rfl, rfl⟩, Abs.byG hbel [] rfl [0] (by decide) ?_⟩
          exact absWf (jn @nst.eq_1 @nst.eq_2)
        · rintro k1 F Hx ⟨a, b, hm1, hG, rfl, rfl⟩ J1 hJ1
          refine runTf g'9 ?_
          refine cond_split (fun h2 => ?_) (fun h2 => ?_)
          · have h2d := h2
            try simp only [boolset, beq_iff_eq, ne_eq] at h2d
            have hlt : a % b < b := Nat.mod_lt _ (by omega)
            have g'10 := (jn @h2 (jn @h2d (jn @int_bne (jn @int_beq g'9))))
            refine runTf g'10 ?_
            refine hJ1 _ _ ⟨a % b, by omega, _, _, _, ⟨b, a % b, by omega, by rw [← hG, gcd_step], rfl, rfl⟩, Abs.byG hbel [] rfl [0] (by decide) ?_⟩
            exact absWf @h2d
          · have h2d := h2
            try simp only [boolset, beq_iff_eq, ne_eq] at h2d
            obtain rfl : b = 0 := by omega
            rw [Nat.gcd_zero_right] at hG
            have g'11 := (jn @h2 (jn @h2d (jn @int_bne (jn @int_beq g'9))))
            refine runTf g'11 ?_
            refine hJ0 _ _ ⟨k0 - 1, by omega, _, _, _, ⟨0 + 1, by omega, rfl, rfl⟩, Abs.byG hbel [] rfl [0] (by decide) ?_⟩
            exact absWf (jn @hG @h2d)
      · skip
        have g'12 := (jn @h1 (jn @h1d g'8))
        refine runTf g'12 ?_
        refine go_loop try_mixed (by kernel_rfl) (fun k F Hx => ∃ a : Nat, ∃ b : Nat, b = k ∧ Nat.gcd a b = gst x y d (1 + 1) ∧ F = [(0, .int .i64 x), (1, .int .i64 y), (2, .int .i64 d), (6, .ptr (some (H.length, 0))), (7, .int .i64 ((a : Nat) : Int)), (9, .int .i64 ((b : Nat) : Int)), (13, .agg [.int .i64 x, .int .i64 y]), (14, .int .i64 1)] ∧ Hx = H ++ [.cells true 0 [.int .i64 0, .int .i64 0, .int .i64 0]]) (nst x y 1) ?_ ?_
        · refine ⟨_, _, _, ⟨gst x y d 1, nst x y 1, by omega, rfl, rfl, rfl⟩, Abs.byG hbel [] rfl [0] (by decide) ?_⟩
          exact absWf (jn @nst.eq_1 @nst.eq_2)
        · rintro k1 F Hx ⟨a, b, hm1, hG, rfl, rfl⟩ J1 hJ1
          refine runTf g'12 ?_
          refine cond_split (fun h3 => ?_) (fun h3 => ?_)
          · have h3d := h3
            try simp only [boolset, beq_iff_eq, ne_eq] at h3d
            have hlt : a % b < b := Nat.mod_lt _ (by omega)
            have g'13 := (jn @h3 (jn @h3d (jn @int_bne (jn @int_beq g'12))))
            refine runTf g'13 ?_
            refine hJ1 _ _ ⟨a % b, by omega, _, _, _, ⟨b, a % b, by omega, by rw [← hG, gcd_step], rfl, rfl⟩, Abs.byG hbel [] rfl [0] (by decide) ?_⟩
            exact absWf @h3d
          · have h3d := h3
            try simp only [boolset, beq_iff_eq, ne_eq] at h3d
            obtain rfl : b = 0 := by omega
            rw [Nat.gcd_zero_right] at hG
            have g'14 := (jn @h3 (jn @h3d (jn @int_bne (jn @int_beq g'12))))
            refine runTf g'14 ?_
            refine hJ0 _ _ ⟨k0 - 1, by omega, _, _, _, ⟨1 + 1, by omega, rfl, rfl⟩, Abs.byG hbel [] rfl [0] (by decide) ?_⟩
            exact absWf (jn @hG @h3d)
    · have h1d := h1
      try simp only [boolset, beq_iff_eq, ne_eq] at h1d
      obtain rfl : j = 2 := by omega
      skip
      have g'15 := (jn @h1 (jn @h1d g'8))
      refine runTf g'15 ?_
      exact hQ _ _ (end_plain (.inl rfl) hbel (x := .agg [.int .i64 (Int.tdiv x ((gcd3 x y d : Nat) : Int)), .int .i64 (Int.tdiv y ((gcd3 x y d : Nat) : Int)), .int .i64 (Int.tdiv d ((gcd3 x y d : Nat) : Int))]) (resT Tryz.results112) rfl ⟨rfl, rfl⟩)
set_option maxHeartbeats 4000000 in
set_option maxRecDepth 100000 in
theorem dir_c (H : AHeap) (h : Int) : ACalls Tryz.prog 53 [.int .i64 h] H (fun v H' => v = .agg [.int .i64 ((dirV h).1), .int .i64 ((dirV h).2.1), .int .i64 ((dirV h).2.2)] ∧ H' = H) := by
  have hK : ((h % 256).toNat % 64) < 64 := Nat.mod_lt _ (by decide)
  have hN : ((h % 256).toNat / 64) ≤ 3 := by omega
  have hkk := mul_bd (a := ((((h % 256).toNat % 64) : Nat) : Int)) (b := ((((h % 256).toNat % 64) : Nat) : Int)) (A := 63) (B := 63) (by omega) (by omega)
  (refine ACalls_run try_mixed Tryz.func53 true _ rfl (Nat.le_of_ble_eq_true (by kernel_rfl)) (by kernel_rfl) ?_; intro hbel Q hQ hQ' c hc; unfold Tryz.f53 at hc; simp only [Option.some.injEq] at hc; subst hc; clear hQ')
  have g'16 := (jn @rem_n64 @quo_n64)
  refine runTf g'16 ?_
  refine call_v (by kernel_rfl) (mark_c _ h) ?_
  refine runTf g'16 ?_
  refine call_v (by kernel_rfl) (low_c _ (4096 - (((((h % 256).toNat) % 64 : Nat) : Int) * ((((h % 256).toNat) % 64 : Nat) : Int))) (128 * ((((h % 256).toNat) % 64 : Nat) : Int)) (4096 + (((((h % 256).toNat) % 64 : Nat) : Int) * ((((h % 256).toNat) % 64 : Nat) : Int))) (by omega) (by omega) (by omega) (by omega)) ?_
  refine runTf g'16 ?_
  refine go_loop try_mixed (by kernel_rfl) (fun k F Hx => ∃ n : Nat, n + k = ((h % 256).toNat / 64) ∧ F = [(2, .ptr (some (H.length, 0))), (4, .ptr (some (H.length + 1, 0))), (21, .int .i64 ((((h % 256).toNat) / 64 : Nat) : Int)), (22, .int .i64 ((n : Nat) : Int))] ∧ Hx = H ++ [.cells true 0 [.int .i64 0, .int .i64 0, .int .i64 0], .cells true 0 [.int .i64 ((rotN (dir0 ((h % 256).toNat % 64)) n).1), .int .i64 ((rotN (dir0 ((h % 256).toNat % 64)) n).2.1), .int .i64 ((lowV (4096 - (((((h % 256).toNat) % 64 : Nat) : Int) * ((((h % 256).toNat) % 64 : Nat) : Int))) (128 * ((((h % 256).toNat) % 64 : Nat) : Int)) (4096 + (((((h % 256).toNat) % 64 : Nat) : Int) * ((((h % 256).toNat) % 64 : Nat) : Int)))).2.2)]]) (((h % 256).toNat / 64)) ?_ ?_
  · refine ⟨_, _, _, ⟨0, by omega, rfl, rfl⟩, Abs.byG hbel [] rfl [0, 1] (by decide) ?_⟩
    exact absWf (jn @rotN.eq_1 @dir0.eq_1)
  · rintro k0 F Hx ⟨n, hm0, rfl, rfl⟩ J0 hJ0
    refine runTf g'16 ?_
    refine cond_split (fun h1 => ?_) (fun h1 => ?_)
    · have h1d := h1
      try simp only [boolset, beq_iff_eq, ne_eq] at h1d
      have hro := vecOK_iff.1 (rot_ok (dir0_ok hK) n)
      have g'17 := (jn @h1 (jn @h1d g'16))
      refine runTf g'17 ?_
      refine hJ0 _ _ ⟨k0 - 1, by omega, _, _, _, ⟨n + 1, by omega, rfl, rfl⟩, Abs.byG hbel [] rfl [0, 1] (by decide) ?_⟩
      exact absWf (jn @rotN.eq_2 @Int.zero_sub)
    · have h1d := h1
      try simp only [boolset, beq_iff_eq, ne_eq] at h1d
      have hfinn : n = ((h % 256).toNat / 64) := by omega
      have g'18 := (jn @h1 (jn @h1d g'16))
      refine runTf g'18 ?_
      exact hQ _ _ (end_plain (.inl rfl) hbel (x := .agg [.int .i64 ((rotN (dir0 ((h % 256).toNat % 64)) n).1), .int .i64 ((rotN (dir0 ((h % 256).toNat % 64)) n).2.1), .int .i64 ((lowV (4096 - (((((h % 256).toNat) % 64 : Nat) : Int) * ((((h % 256).toNat) % 64 : Nat) : Int))) (128 * ((((h % 256).toNat) % 64 : Nat) : Int)) (4096 + (((((h % 256).toNat) % 64 : Nat) : Int) * ((((h % 256).toNat) % 64 : Nat) : Int)))).2.2)]) (resT Tryz.results53) rfl ⟨by subst hfinn; rw [show dirV h = rotN (dir0 ((h % 256).toNat % 64)) ((h % 256).toNat / 64) from rfl, rotN_D]; rfl, rfl⟩)
set_option maxHeartbeats 4000000 in
set_option maxRecDepth 100000 in
theorem rdir_c (H : AHeap) (h : Int) : ACalls Tryz.prog 39 [.int .i64 h] H (fun v H' => v = .agg [.int .i64 ((dirV h).1), .int .i64 ((dirV h).2.1), .int .i64 ((dirV h).2.2)] ∧ H' = H) := by
  have hK : ((h % 256).toNat % 64) < 64 := Nat.mod_lt _ (by decide)
  have hN : ((h % 256).toNat / 64) ≤ 3 := by omega
  have hkk := mul_bd (a := ((((h % 256).toNat % 64) : Nat) : Int)) (b := ((((h % 256).toNat % 64) : Nat) : Int)) (A := 63) (B := 63) (by omega) (by omega)
  (refine ACalls_run try_mixed Tryz.func39 true _ rfl (Nat.le_of_ble_eq_true (by kernel_rfl)) (by kernel_rfl) ?_; intro hbel Q hQ hQ' c hc; unfold Tryz.f39 at hc; simp only [Option.some.injEq] at hc; subst hc; clear hQ')
  have g'19 := (jn @rem_n64 @quo_n64)
  refine runTf g'19 ?_
  refine call_v (by kernel_rfl) (bmod_c _ h 256 (by omega) (by omega)) ?_
  refine runTf g'19 ?_
  refine call_v (by kernel_rfl) (rlow_c _ (4096 - (((((h % 256).toNat) % 64 : Nat) : Int) * ((((h % 256).toNat) % 64 : Nat) : Int))) (128 * ((((h % 256).toNat) % 64 : Nat) : Int)) (4096 + (((((h % 256).toNat) % 64 : Nat) : Int) * ((((h % 256).toNat) % 64 : Nat) : Int))) (by omega) (by omega) (by omega) (by omega)) ?_
  refine runTf g'19 ?_
  refine go_loop try_mixed (by kernel_rfl) (fun k F Hx => ∃ n : Nat, n + k = ((h % 256).toNat / 64) ∧ F = [(0, .int .i64 (((h % 256).toNat : Nat) : Int)), (2, .ptr (some (H.length, 0))), (4, .ptr (some (H.length + 1, 0))), (5, .int .i64 ((n : Nat) : Int))] ∧ Hx = H ++ [.cells true 0 [.int .i64 0, .int .i64 0, .int .i64 0], .cells true 0 [.int .i64 ((rotN (dir0 ((h % 256).toNat % 64)) n).1), .int .i64 ((rotN (dir0 ((h % 256).toNat % 64)) n).2.1), .int .i64 ((lowV (4096 - (((((h % 256).toNat) % 64 : Nat) : Int) * ((((h % 256).toNat) % 64 : Nat) : Int))) (128 * ((((h % 256).toNat) % 64 : Nat) : Int)) (4096 + (((((h % 256).toNat) % 64 : Nat) : Int) * ((((h % 256).toNat) % 64 : Nat) : Int)))).2.2)]]) (((h % 256).toNat / 64)) ?_ ?_
  · refine ⟨_, _, _, ⟨0, by omega, rfl, rfl⟩, Abs.byG hbel [] rfl [0, 1] (by decide) ?_⟩
    exact absWf (jn @rotN.eq_1 @dir0.eq_1)
  · rintro k0 F Hx ⟨n, hm0, rfl, rfl⟩ J0 hJ0
    refine runTf g'19 ?_
    refine cond_split (fun h1 => ?_) (fun h1 => ?_)
    · have h1d := h1
      try simp only [boolset, beq_iff_eq, ne_eq] at h1d
      have hro := vecOK_iff.1 (rot_ok (dir0_ok hK) n)
      have g'20 := (jn @h1 (jn @h1d g'19))
      refine runTf g'20 ?_
      refine hJ0 _ _ ⟨k0 - 1, by omega, _, _, _, ⟨n + 1, by omega, rfl, rfl⟩, Abs.byG hbel [] rfl [0, 1] (by decide) ?_⟩
      exact absWf (jn @rotN.eq_2 @Int.zero_sub)
    · have h1d := h1
      try simp only [boolset, beq_iff_eq, ne_eq] at h1d
      have hfinn : n = ((h % 256).toNat / 64) := by omega
      have g'21 := (jn @h1 (jn @h1d g'19))
      refine runTf g'21 ?_
      exact hQ _ _ (end_plain (.inl rfl) hbel (x := .agg [.int .i64 ((rotN (dir0 ((h % 256).toNat % 64)) n).1), .int .i64 ((rotN (dir0 ((h % 256).toNat % 64)) n).2.1), .int .i64 ((lowV (4096 - (((((h % 256).toNat) % 64 : Nat) : Int) * ((((h % 256).toNat) % 64 : Nat) : Int))) (128 * ((((h % 256).toNat) % 64 : Nat) : Int)) (4096 + (((((h % 256).toNat) % 64 : Nat) : Int) * ((((h % 256).toNat) % 64 : Nat) : Int)))).2.2)]) (resT Tryz.results39) rfl ⟨by subst hfinn; rw [show dirV h = rotN (dir0 ((h % 256).toNat % 64)) ((h % 256).toNat / 64) from rfl, rotN_D]; rfl, rfl⟩)
end Go.Proofs.YtoimakfecmhjkaaGreat

/- Walks by the abstract machine: Toward, both. Conditions: as each theorem states. -/
namespace Go.Proofs.YtoimakfecmhjkaaGreat
set_option linter.unusedSimpArgs false
set_option linter.unusedVariables false
open Go.RowKit
theorem dirV_nat {n : Nat} (h : n < 256) : dirV ((n : Nat) : Int) = dirN n := by
  unfold dirV
  rw [show (((n : Nat) : Int) % 256).toNat = n by omega]
theorem bey_lt {v : Vec} {x y : Int} (h : halfI v.1 v.2.1 < halfI x y) : beyB v x y = false := by
  unfold beyB
  have := halfI_or v.1 v.2.1
  have := halfI_or x y
  rw [if_neg (by omega)]
  exact decide_eq_false (by omega)
theorem bey_gt {v : Vec} {x y : Int} (h : ¬ halfI v.1 v.2.1 < halfI x y) (h2 : ¬ halfI v.1 v.2.1 = halfI x y) : beyB v x y = true := by
  unfold beyB
  have := halfI_or v.1 v.2.1
  have := halfI_or x y
  rw [if_neg h2]
  exact decide_eq_true (by omega)
theorem bey_eq {v : Vec} {x y : Int} (h : halfI v.1 v.2.1 = halfI x y) : beyB v x y = decide (v.1 * y - v.2.1 * x < 0) := by
  unfold beyB; rw [if_pos h]; rfl
/-- As the reference asks it. -/
def lowB (x y : Int) : Bool := decide (y < 0) || (y == 0 && decide (x < 0))
def beyR (v1 v2 dx dy : Int) : Bool := bif (lowB v1 v2 != lowB dx dy) then lowB v1 v2 else decide (0 < dx * v2 - dy * v1)
theorem lowB_half {x y : Int} (h : ¬ (x = 0 ∧ y = 0)) : lowB x y = decide (halfI x y = 1) := by
  rw [Bool.eq_iff_iff]
  unfold lowB halfI
  simp only [Bool.or_eq_true, Bool.and_eq_true, decide_eq_true_eq, beq_iff_eq]
  split <;> omega
theorem vec_ne {v : Vec} (h : vecOK v = true) : ¬ (v.1 = 0 ∧ v.2.1 = 0) := by
  rintro ⟨a, b⟩
  have := vecOK_iff.1 h
  rw [a, b] at this
  have h1 := this.1.1
  have h2 : 0 < v.2.2 * v.2.2 := Int.mul_pos (by omega) (by omega)
  omega
theorem beyR_eq {v : Vec} (hv : vecOK v = true) {x y : Int} (hd : ¬ (x = 0 ∧ y = 0)) : beyR v.1 v.2.1 x y = beyB v x y := by
  unfold beyR beyB
  rw [lowB_half (vec_ne hv), lowB_half hd]
  have h1 := halfI_or v.1 v.2.1
  have h2 := halfI_or x y
  have hc : crs (v.1, v.2.1) (x, y) = -(x * v.2.1 - y * v.1) := by unfold crs; simp only; rw [Int.mul_comm v.1, Int.mul_comm v.2.1]; omega
  rw [hc]
  by_cases he : halfI v.1 v.2.1 = halfI x y
  · rw [if_pos he, he]
    simp only [bne_self_eq_false, cond_false]
    rw [Bool.eq_iff_iff]; simp only [decide_eq_true_eq]; omega
  · rw [if_neg he]
    rcases h1 with h1 | h1 <;> rcases h2 with h2 | h2 <;> rw [h1, h2] at he ⊢ <;> first | omega | rfl
def ptB (x y : Int) : Bool := within x 1048576 && within y 1048576
def towE (fx fy tx ty : Int) : Int := if (ptB fx fy && ptB tx ty) = true then (if fx = tx ∧ fy = ty then 9 else 0) else 1
def towI (fx fy tx ty : Int) : Int := if towE fx fy tx ty = 0 then ((towN (tx - fx) (ty - fy) 256 : Nat) : Int) else 0
set_option maxHeartbeats 4000000 in
set_option maxRecDepth 100000 in
theorem mvpt_c (H : AHeap) (x : Int) (y : Int) : ACalls Tryz.prog 95 [.agg [.int .i64 x, .int .i64 y]] H (fun v H' => v = .bool (ptB x y) ∧ H' = H) := by
  (refine ACalls_run try_mixed Tryz.func95 true _ rfl (Nat.le_of_ble_eq_true (by kernel_rfl)) (by kernel_rfl) ?_; intro hbel Q hQ hQ' c hc; unfold Tryz.f95 at hc; simp only [Option.some.injEq] at hc; subst hc; clear hQ')
  refine runT ?_
  refine call_v (by kernel_rfl) (mnear_c _ x) ?_
  refine runT ?_
  refine gd_split (fun h1 => ?_) (fun h1 => ?_)
  · have h1d := h1
    try simp only [boolset, beq_iff_eq, ne_eq] at h1d
    have g'1 := (jn @h1 @h1d)
    refine runTf g'1 ?_
    refine call_v (by kernel_rfl) (mnear_c _ y) ?_
    refine runTf g'1 ?_
    exact hQ _ _ (end_plain (.inl rfl) hbel (x := .bool (within y 1048576)) (resT Tryz.results95) rfl ⟨by simp [ptB, h1d], rfl⟩)
  · have h1d := h1
    try simp only [boolset, beq_iff_eq, ne_eq] at h1d
    have g'2 := (jn @h1 @h1d)
    refine runTf g'2 ?_
    exact hQ _ _ (end_plain (.inl rfl) hbel (x := .bool false) (resT Tryz.results95) rfl ⟨by simp [ptB, h1d], rfl⟩)
set_option maxHeartbeats 4000000 in
set_option maxRecDepth 100000 in
theorem bpt_c (H : AHeap) (x : Int) (y : Int) : ACalls Tryz.prog 97 [.agg [.int .i64 x, .int .i64 y]] H (fun v H' => v = .bool (ptB x y) ∧ H' = H) := by
  (refine ACalls_run try_mixed Tryz.func97 true _ rfl (Nat.le_of_ble_eq_true (by kernel_rfl)) (by kernel_rfl) ?_; intro hbel Q hQ hQ' c hc; unfold Tryz.f97 at hc; simp only [Option.some.injEq] at hc; subst hc; clear hQ')
  refine runT ?_
  refine call_v (by kernel_rfl) (bsize_c _ _ _ (by decide)) ?_
  refine runT ?_
  refine gd_split (fun h1 => ?_) (fun h1 => ?_)
  · have h1d := h1
    try simp only [boolset, beq_iff_eq, ne_eq] at h1d
    have g'3 := (jn @h1 @h1d)
    refine runTf g'3 ?_
    refine call_v (by kernel_rfl) (bsize_c _ _ _ (by decide)) ?_
    refine runTf g'3 ?_
    exact hQ _ _ (end_plain (.inl rfl) hbel (x := .bool (within y 1048576)) (resT Tryz.results97) rfl ⟨by simp [ptB, h1d], rfl⟩)
  · have h1d := h1
    try simp only [boolset, beq_iff_eq, ne_eq] at h1d
    have g'4 := (jn @h1 @h1d)
    refine runTf g'4 ?_
    exact hQ _ _ (end_plain (.inl rfl) hbel (x := .bool false) (resT Tryz.results97) rfl ⟨by simp [ptB, h1d], rfl⟩)
set_option maxHeartbeats 4000000 in
set_option maxRecDepth 100000 in
theorem mhalf_c (H : AHeap) (x : Int) (y : Int) : ACalls Tryz.prog 96 [.int .i64 x, .int .i64 y] H (fun v H' => v = .int .i64 (halfI x y) ∧ H' = H) := by
  (refine ACalls_run try_mixed Tryz.func96 true _ rfl (Nat.le_of_ble_eq_true (by kernel_rfl)) (by kernel_rfl) ?_; intro hbel Q hQ hQ' c hc; unfold Tryz.f96 at hc; simp only [Option.some.injEq] at hc; subst hc; clear hQ')
  refine runT ?_
  refine gd_split (fun h1 => ?_) (fun h1 => ?_)
  · have h1d := h1
    try simp only [boolset, beq_iff_eq, ne_eq] at h1d
    have g'5 := (jn @h1 @h1d)
    refine runTf g'5 ?_
    refine gd_split (fun h2 => ?_) (fun h2 => ?_)
    · have h2d := h2
      try simp only [boolset, beq_iff_eq, ne_eq] at h2d
      have g'6 := (jn @h2 (jn @h2d (jn @int_bne (jn @int_beq g'5))))
      refine runTf g'6 ?_
      refine cond_split (fun h3 => ?_) (fun h3 => ?_)
      · have h3d := h3
        try simp only [boolset, beq_iff_eq, ne_eq] at h3d
        have g'7 := (jn @h3 (jn @h3d g'6))
        refine runTf g'7 ?_
        exact hQ _ _ (end_plain0 (.inl rfl) hbel (x := .int .i64 0) (resT Tryz.results96) rfl ⟨congrArg (AV.int .i64) (by unfold halfI; first | rw [if_pos (by omega)] | rw [if_neg (by omega)]), rfl⟩)
      · have h3d := h3
        try simp only [boolset, beq_iff_eq, ne_eq] at h3d
        have g'8 := (jn @h3 (jn @h3d g'6))
        refine runTf g'8 ?_
        exact hQ _ _ (end_plain0 (.inl rfl) hbel (x := .int .i64 1) (resT Tryz.results96) rfl ⟨congrArg (AV.int .i64) (by unfold halfI; first | rw [if_pos (by omega)] | rw [if_neg (by omega)]), rfl⟩)
    · have h2d := h2
      try simp only [boolset, beq_iff_eq, ne_eq] at h2d
      have g'9 := (jn @h2 (jn @h2d (jn @int_bne (jn @int_beq g'5))))
      refine runTf g'9 ?_
      exact hQ _ _ (end_plain0 (.inl rfl) hbel (x := .int .i64 1) (resT Tryz.results96) rfl ⟨congrArg (AV.int .i64) (by unfold halfI; first | rw [if_pos (by omega)] | rw [if_neg (by omega)]), rfl⟩)
  · have h1d := h1
    try simp only [boolset, beq_iff_eq, ne_eq] at h1d
    have g'10 := (jn @h1 @h1d)
    refine runTf g'10 ?_
    exact hQ _ _ (end_plain0 (.inl rfl) hbel (x := .int .i64 0) (resT Tryz.results96) rfl ⟨congrArg (AV.int .i64) (by unfold halfI; first | rw [if_pos (by omega)] | rw [if_neg (by omega)]), rfl⟩)
set_option maxHeartbeats 4000000 in
set_option maxRecDepth 100000 in
theorem beyond_c (H : AHeap) (v1 : Int) (v2 : Int) (v3 : Int) (dx : Int) (dy : Int) (k1 : -8065 ≤ v1 ∧ v1 ≤ 8065) (k2 : -8065 ≤ v2 ∧ v2 ≤ 8065) (k3 : -4194304 ≤ dx ∧ dx ≤ 4194304) (k4 : -4194304 ≤ dy ∧ dy ≤ 4194304) : ACalls Tryz.prog 38 [.agg [.int .i64 v1, .int .i64 v2, .int .i64 v3], .agg [.int .i64 dx, .int .i64 dy]] H (fun v H' => v = .bool (beyR v1 v2 dx dy) ∧ H' = H) := by
  have hm1 := mul_bd (a := dx) (b := v2) (A := 4194304) (B := 8065) (by omega) (by omega)
  have hm2 := mul_bd (a := dy) (b := v1) (A := 4194304) (B := 8065) (by omega) (by omega)
  (refine ACalls_run try_mixed Tryz.func38 true _ rfl (Nat.le_of_ble_eq_true (by kernel_rfl)) (by kernel_rfl) ?_; intro hbel Q hQ hQ' c hc; unfold Tryz.f38 at hc; simp only [Option.some.injEq] at hc; subst hc; clear hQ')
  refine runT ?_
  refine gd_split (fun h1 => ?_) (fun h1 => ?_)
  · have h1d := h1
    try simp only [boolset, beq_iff_eq, ne_eq] at h1d
    have g'11 := (jn @h1 @h1d)
    refine runTf g'11 ?_
    refine gd_split (fun h2 => ?_) (fun h2 => ?_)
    · have h2d := h2
      try simp only [boolset, beq_iff_eq, ne_eq] at h2d
      have h2n := h2
      try simp only [int_bne, int_beq] at h2n
      have g'12 := (jn @h2 (jn @h2n (jn @int_bne (jn @int_beq g'11))))
      refine runTf g'12 ?_
      refine gd_split (fun h3 => ?_) (fun h3 => ?_)
      · have h3d := h3
        try simp only [boolset, beq_iff_eq, ne_eq] at h3d
        have g'13 := (jn @h3 (jn @h3d g'12))
        refine runTf g'13 ?_
        refine gd_split (fun h4 => ?_) (fun h4 => ?_)
        · have h4d := h4
          try simp only [boolset, beq_iff_eq, ne_eq] at h4d
          have h4n := h4
          try simp only [int_bne, int_beq] at h4n
          have g'14 := (jn @h4 (jn @h4n g'13))
          refine runTf g'14 ?_
          refine cond_split (fun h5 => ?_) (fun h5 => ?_)
          · have h5d := h5
            try simp only [boolset, beq_iff_eq, ne_eq] at h5d
            try simp at h5d
            have h5n := h5
            try simp only [int_bne, int_beq] at h5n
            have g'15 := (jn @h5 (jn @h5n g'14))
            refine runTf g'15 ?_
            exact hQ _ _ (end_plain (.inl rfl) hbel (x := .bool (decide (v1 < 0))) (resT Tryz.results38) rfl ⟨by first | (simp [beyR, lowB, h1d, h3d, h2d, h4d, h5d, h1, h2, h3, h4, h5, h2d, h4d, h5d]; done) | (simp_all [beyR, lowB]; done) | (simp_all [beyR, lowB]; omega) | (have e1 : lowB v1 v2 = decide (v2 < 0 ∨ (v2 = 0 ∧ v1 < 0)) := (by rw [Bool.eq_iff_iff]; simp [lowB]); have e2 : lowB dx dy = decide (dy < 0 ∨ (dy = 0 ∧ dx < 0)) := (by rw [Bool.eq_iff_iff]; simp [lowB]); unfold beyR; rw [e1, e2]; first | (rw [decide_eq_true (by omega), decide_eq_true (by omega)]; simp) | (rw [decide_eq_true (by omega), decide_eq_false (by omega)]; simp) | (rw [decide_eq_false (by omega), decide_eq_true (by omega)]; simp) | (rw [decide_eq_false (by omega), decide_eq_false (by omega)]; simp)), rfl⟩)
          · have h5d := h5
            try simp only [boolset, beq_iff_eq, ne_eq] at h5d
            try simp at h5d
            have h5n := h5
            try simp only [int_bne, int_beq] at h5n
            have g'16 := (jn @h5 (jn @h5n g'14))
            refine runTf g'16 ?_
            exact hQ _ _ (end_plain (.inl rfl) hbel (x := .bool (decide (0 < ((dx * v2) - (dy * v1))))) (resT Tryz.results38) rfl ⟨by first | (simp [beyR, lowB, h1d, h3d, h2d, h4d, h5d, h1, h2, h3, h4, h5, h2d, h4d, h5d]; done) | (simp_all [beyR, lowB]; done) | (simp_all [beyR, lowB]; omega) | (have e1 : lowB v1 v2 = decide (v2 < 0 ∨ (v2 = 0 ∧ v1 < 0)) := (by rw [Bool.eq_iff_iff]; simp [lowB]); have e2 : lowB dx dy = decide (dy < 0 ∨ (dy = 0 ∧ dx < 0)) := (by rw [Bool.eq_iff_iff]; simp [lowB]); unfold beyR; rw [e1, e2]; first | (rw [decide_eq_true (by omega), decide_eq_true (by omega)]; simp) | (rw [decide_eq_true (by omega), decide_eq_false (by omega)]; simp) | (rw [decide_eq_false (by omega), decide_eq_true (by omega)]; simp) | (rw [decide_eq_false (by omega), decide_eq_false (by omega)]; simp)), rfl⟩)
        · have h4d := h4
          try simp only [boolset, beq_iff_eq, ne_eq] at h4d
          have h4n := h4
          try simp only [int_bne, int_beq] at h4n
          have g'17 := (jn @h4 (jn @h4n g'13))
          refine runTf g'17 ?_
          refine cond_split (fun h6 => ?_) (fun h6 => ?_)
          · have h6d := h6
            try simp only [boolset, beq_iff_eq, ne_eq] at h6d
            have g'18 := (jn @h6 (jn @h6d g'17))
            refine runTf g'18 ?_
            exact hQ _ _ (end_plain (.inl rfl) hbel (x := .bool true) (resT Tryz.results38) rfl ⟨by first | (simp [beyR, lowB, h1d, h3d, h6d, h2d, h4d, h1, h2, h3, h4, h6, h2d, h4d]; done) | (simp_all [beyR, lowB]; done) | (simp_all [beyR, lowB]; omega) | (have e1 : lowB v1 v2 = decide (v2 < 0 ∨ (v2 = 0 ∧ v1 < 0)) := (by rw [Bool.eq_iff_iff]; simp [lowB]); have e2 : lowB dx dy = decide (dy < 0 ∨ (dy = 0 ∧ dx < 0)) := (by rw [Bool.eq_iff_iff]; simp [lowB]); unfold beyR; rw [e1, e2]; first | (rw [decide_eq_true (by omega), decide_eq_true (by omega)]; simp) | (rw [decide_eq_true (by omega), decide_eq_false (by omega)]; simp) | (rw [decide_eq_false (by omega), decide_eq_true (by omega)]; simp) | (rw [decide_eq_false (by omega), decide_eq_false (by omega)]; simp)), rfl⟩)
          · have h6d := h6
            try simp only [boolset, beq_iff_eq, ne_eq] at h6d
            have g'19 := (jn @h6 (jn @h6d g'17))
            refine runTf g'19 ?_
            exact hQ _ _ (end_plain (.inl rfl) hbel (x := .bool (decide (0 < ((dx * v2) - (dy * v1))))) (resT Tryz.results38) rfl ⟨by first | (simp [beyR, lowB, h1d, h3d, h6d, h2d, h4d, h1, h2, h3, h4, h6, h2d, h4d]; done) | (simp_all [beyR, lowB]; done) | (simp_all [beyR, lowB]; omega) | (have e1 : lowB v1 v2 = decide (v2 < 0 ∨ (v2 = 0 ∧ v1 < 0)) := (by rw [Bool.eq_iff_iff]; simp [lowB]); have e2 : lowB dx dy = decide (dy < 0 ∨ (dy = 0 ∧ dx < 0)) := (by rw [Bool.eq_iff_iff]; simp [lowB]); unfold beyR; rw [e1, e2]; first | (rw [decide_eq_true (by omega), decide_eq_true (by omega)]; simp) | (rw [decide_eq_true (by omega), decide_eq_false (by omega)]; simp) | (rw [decide_eq_false (by omega), decide_eq_true (by omega)]; simp) | (rw [decide_eq_false (by omega), decide_eq_false (by omega)]; simp)), rfl⟩)
      · have h3d := h3
        try simp only [boolset, beq_iff_eq, ne_eq] at h3d
        have g'20 := (jn @h3 (jn @h3d g'12))
        refine runTf g'20 ?_
        refine cond_split (fun h7 => ?_) (fun h7 => ?_)
        · have h7d := h7
          try simp only [boolset, beq_iff_eq, ne_eq] at h7d
          have g'21 := (jn @h7 (jn @h7d g'20))
          refine runTf g'21 ?_
          exact hQ _ _ (end_plain (.inl rfl) hbel (x := .bool false) (resT Tryz.results38) rfl ⟨by first | (simp [beyR, lowB, h1d, h3d, h7d, h2d, h1, h2, h3, h7, h2d]; done) | (simp_all [beyR, lowB]; done) | (simp_all [beyR, lowB]; omega) | (have e1 : lowB v1 v2 = decide (v2 < 0 ∨ (v2 = 0 ∧ v1 < 0)) := (by rw [Bool.eq_iff_iff]; simp [lowB]); have e2 : lowB dx dy = decide (dy < 0 ∨ (dy = 0 ∧ dx < 0)) := (by rw [Bool.eq_iff_iff]; simp [lowB]); unfold beyR; rw [e1, e2]; first | (rw [decide_eq_true (by omega), decide_eq_true (by omega)]; simp) | (rw [decide_eq_true (by omega), decide_eq_false (by omega)]; simp) | (rw [decide_eq_false (by omega), decide_eq_true (by omega)]; simp) | (rw [decide_eq_false (by omega), decide_eq_false (by omega)]; simp)), rfl⟩)
        · have h7d := h7
          try simp only [boolset, beq_iff_eq, ne_eq] at h7d
          have g'22 := (jn @h7 (jn @h7d g'20))
          refine runTf g'22 ?_
          exact hQ _ _ (end_plain (.inl rfl) hbel (x := .bool (decide (0 < ((dx * v2) - (dy * v1))))) (resT Tryz.results38) rfl ⟨by first | (simp [beyR, lowB, h1d, h3d, h7d, h2d, h1, h2, h3, h7, h2d]; done) | (simp_all [beyR, lowB]; done) | (simp_all [beyR, lowB]; omega) | (have e1 : lowB v1 v2 = decide (v2 < 0 ∨ (v2 = 0 ∧ v1 < 0)) := (by rw [Bool.eq_iff_iff]; simp [lowB]); have e2 : lowB dx dy = decide (dy < 0 ∨ (dy = 0 ∧ dx < 0)) := (by rw [Bool.eq_iff_iff]; simp [lowB]); unfold beyR; rw [e1, e2]; first | (rw [decide_eq_true (by omega), decide_eq_true (by omega)]; simp) | (rw [decide_eq_true (by omega), decide_eq_false (by omega)]; simp) | (rw [decide_eq_false (by omega), decide_eq_true (by omega)]; simp) | (rw [decide_eq_false (by omega), decide_eq_false (by omega)]; simp)), rfl⟩)
    · have h2d := h2
      try simp only [boolset, beq_iff_eq, ne_eq] at h2d
      have h2n := h2
      try simp only [int_bne, int_beq] at h2n
      have g'23 := (jn @h2 (jn @h2n (jn @int_bne (jn @int_beq g'11))))
      refine runTf g'23 ?_
      refine gd_split (fun h8 => ?_) (fun h8 => ?_)
      · have h8d := h8
        try simp only [boolset, beq_iff_eq, ne_eq] at h8d
        have g'24 := (jn @h8 (jn @h8d g'23))
        refine runTf g'24 ?_
        refine gd_split (fun h9 => ?_) (fun h9 => ?_)
        · have h9d := h9
          try simp only [boolset, beq_iff_eq, ne_eq] at h9d
          have h9n := h9
          try simp only [int_bne, int_beq] at h9n
          have g'25 := (jn @h9 (jn @h9n g'24))
          refine runTf g'25 ?_
          refine cond_split (fun h10 => ?_) (fun h10 => ?_)
          · have h10d := h10
            try simp only [boolset, beq_iff_eq, ne_eq] at h10d
            try simp at h10d
            have h10n := h10
            try simp only [int_bne, int_beq] at h10n
            have g'26 := (jn @h10 (jn @h10n g'25))
            refine runTf g'26 ?_
            exact hQ _ _ (end_plain (.inl rfl) hbel (x := .bool false) (resT Tryz.results38) rfl ⟨by first | (simp [beyR, lowB, h1d, h8d, h2d, h9d, h10d, h1, h2, h8, h9, h10, h2d, h9d, h10d]; done) | (simp_all [beyR, lowB]; done) | (simp_all [beyR, lowB]; omega) | (have e1 : lowB v1 v2 = decide (v2 < 0 ∨ (v2 = 0 ∧ v1 < 0)) := (by rw [Bool.eq_iff_iff]; simp [lowB]); have e2 : lowB dx dy = decide (dy < 0 ∨ (dy = 0 ∧ dx < 0)) := (by rw [Bool.eq_iff_iff]; simp [lowB]); unfold beyR; rw [e1, e2]; first | (rw [decide_eq_true (by omega), decide_eq_true (by omega)]; simp) | (rw [decide_eq_true (by omega), decide_eq_false (by omega)]; simp) | (rw [decide_eq_false (by omega), decide_eq_true (by omega)]; simp) | (rw [decide_eq_false (by omega), decide_eq_false (by omega)]; simp)), rfl⟩)
          · have h10d := h10
            try simp only [boolset, beq_iff_eq, ne_eq] at h10d
            try simp at h10d
            have h10n := h10
            try simp only [int_bne, int_beq] at h10n
            have g'27 := (jn @h10 (jn @h10n g'25))
            refine runTf g'27 ?_
            exact hQ _ _ (end_plain (.inl rfl) hbel (x := .bool (decide (0 < ((dx * v2) - (dy * v1))))) (resT Tryz.results38) rfl ⟨by first | (simp [beyR, lowB, h1d, h8d, h2d, h9d, h10d, h1, h2, h8, h9, h10, h2d, h9d, h10d]; done) | (simp_all [beyR, lowB]; done) | (simp_all [beyR, lowB]; omega) | (have e1 : lowB v1 v2 = decide (v2 < 0 ∨ (v2 = 0 ∧ v1 < 0)) := (by rw [Bool.eq_iff_iff]; simp [lowB]); have e2 : lowB dx dy = decide (dy < 0 ∨ (dy = 0 ∧ dx < 0)) := (by rw [Bool.eq_iff_iff]; simp [lowB]); unfold beyR; rw [e1, e2]; first | (rw [decide_eq_true (by omega), decide_eq_true (by omega)]; simp) | (rw [decide_eq_true (by omega), decide_eq_false (by omega)]; simp) | (rw [decide_eq_false (by omega), decide_eq_true (by omega)]; simp) | (rw [decide_eq_false (by omega), decide_eq_false (by omega)]; simp)), rfl⟩)
        · have h9d := h9
          try simp only [boolset, beq_iff_eq, ne_eq] at h9d
          have h9n := h9
          try simp only [int_bne, int_beq] at h9n
          have g'28 := (jn @h9 (jn @h9n g'24))
          refine runTf g'28 ?_
          exact hQ _ _ (end_plain (.inl rfl) hbel (x := .bool (decide (0 < ((dx * v2) - (dy * v1))))) (resT Tryz.results38) rfl ⟨by first | (simp [beyR, lowB, h1d, h8d, h2d, h9d, h1, h2, h8, h9, h2d, h9d]; done) | (simp_all [beyR, lowB]; done) | (simp_all [beyR, lowB]; omega) | (have e1 : lowB v1 v2 = decide (v2 < 0 ∨ (v2 = 0 ∧ v1 < 0)) := (by rw [Bool.eq_iff_iff]; simp [lowB]); have e2 : lowB dx dy = decide (dy < 0 ∨ (dy = 0 ∧ dx < 0)) := (by rw [Bool.eq_iff_iff]; simp [lowB]); unfold beyR; rw [e1, e2]; first | (rw [decide_eq_true (by omega), decide_eq_true (by omega)]; simp) | (rw [decide_eq_true (by omega), decide_eq_false (by omega)]; simp) | (rw [decide_eq_false (by omega), decide_eq_true (by omega)]; simp) | (rw [decide_eq_false (by omega), decide_eq_false (by omega)]; simp)), rfl⟩)
      · have h8d := h8
        try simp only [boolset, beq_iff_eq, ne_eq] at h8d
        have g'29 := (jn @h8 (jn @h8d g'23))
        refine runTf g'29 ?_
        exact hQ _ _ (end_plain (.inl rfl) hbel (x := .bool false) (resT Tryz.results38) rfl ⟨by first | (simp [beyR, lowB, h1d, h8d, h2d, h1, h2, h8, h2d]; done) | (simp_all [beyR, lowB]; done) | (simp_all [beyR, lowB]; omega) | (have e1 : lowB v1 v2 = decide (v2 < 0 ∨ (v2 = 0 ∧ v1 < 0)) := (by rw [Bool.eq_iff_iff]; simp [lowB]); have e2 : lowB dx dy = decide (dy < 0 ∨ (dy = 0 ∧ dx < 0)) := (by rw [Bool.eq_iff_iff]; simp [lowB]); unfold beyR; rw [e1, e2]; first | (rw [decide_eq_true (by omega), decide_eq_true (by omega)]; simp) | (rw [decide_eq_true (by omega), decide_eq_false (by omega)]; simp) | (rw [decide_eq_false (by omega), decide_eq_true (by omega)]; simp) | (rw [decide_eq_false (by omega), decide_eq_false (by omega)]; simp)), rfl⟩)
  · have h1d := h1
    try simp only [boolset, beq_iff_eq, ne_eq] at h1d
    have g'30 := (jn @h1 @h1d)
    refine runTf g'30 ?_
    refine gd_split (fun h11 => ?_) (fun h11 => ?_)
    · have h11d := h11
      try simp only [boolset, beq_iff_eq, ne_eq] at h11d
      have g'31 := (jn @h11 (jn @h11d g'30))
      refine runTf g'31 ?_
      refine gd_split (fun h12 => ?_) (fun h12 => ?_)
      · have h12d := h12
        try simp only [boolset, beq_iff_eq, ne_eq] at h12d
        have h12n := h12
        try simp only [int_bne, int_beq] at h12n
        have g'32 := (jn @h12 (jn @h12n (jn @int_bne (jn @int_beq g'31))))
        refine runTf g'32 ?_
        refine cond_split (fun h13 => ?_) (fun h13 => ?_)
        · have h13d := h13
          try simp only [boolset, beq_iff_eq, ne_eq] at h13d
          try simp at h13d
          have h13n := h13
          try simp only [int_bne, int_beq] at h13n
          have g'33 := (jn @h13 (jn @h13n g'32))
          refine runTf g'33 ?_
          exact hQ _ _ (end_plain (.inl rfl) hbel (x := .bool true) (resT Tryz.results38) rfl ⟨by first | (simp [beyR, lowB, h1d, h11d, h12d, h13d, h1, h11, h12, h13, h12d, h13d]; done) | (simp_all [beyR, lowB]; done) | (simp_all [beyR, lowB]; omega) | (have e1 : lowB v1 v2 = decide (v2 < 0 ∨ (v2 = 0 ∧ v1 < 0)) := (by rw [Bool.eq_iff_iff]; simp [lowB]); have e2 : lowB dx dy = decide (dy < 0 ∨ (dy = 0 ∧ dx < 0)) := (by rw [Bool.eq_iff_iff]; simp [lowB]); unfold beyR; rw [e1, e2]; first | (rw [decide_eq_true (by omega), decide_eq_true (by omega)]; simp) | (rw [decide_eq_true (by omega), decide_eq_false (by omega)]; simp) | (rw [decide_eq_false (by omega), decide_eq_true (by omega)]; simp) | (rw [decide_eq_false (by omega), decide_eq_false (by omega)]; simp)), rfl⟩)
        · have h13d := h13
          try simp only [boolset, beq_iff_eq, ne_eq] at h13d
          try simp at h13d
          have h13n := h13
          try simp only [int_bne, int_beq] at h13n
          have g'34 := (jn @h13 (jn @h13n g'32))
          refine runTf g'34 ?_
          exact hQ _ _ (end_plain (.inl rfl) hbel (x := .bool (decide (0 < ((dx * v2) - (dy * v1))))) (resT Tryz.results38) rfl ⟨by first | (simp [beyR, lowB, h1d, h11d, h12d, h13d, h1, h11, h12, h13, h12d, h13d]; done) | (simp_all [beyR, lowB]; done) | (simp_all [beyR, lowB]; omega) | (have e1 : lowB v1 v2 = decide (v2 < 0 ∨ (v2 = 0 ∧ v1 < 0)) := (by rw [Bool.eq_iff_iff]; simp [lowB]); have e2 : lowB dx dy = decide (dy < 0 ∨ (dy = 0 ∧ dx < 0)) := (by rw [Bool.eq_iff_iff]; simp [lowB]); unfold beyR; rw [e1, e2]; first | (rw [decide_eq_true (by omega), decide_eq_true (by omega)]; simp) | (rw [decide_eq_true (by omega), decide_eq_false (by omega)]; simp) | (rw [decide_eq_false (by omega), decide_eq_true (by omega)]; simp) | (rw [decide_eq_false (by omega), decide_eq_false (by omega)]; simp)), rfl⟩)
      · have h12d := h12
        try simp only [boolset, beq_iff_eq, ne_eq] at h12d
        have h12n := h12
        try simp only [int_bne, int_beq] at h12n
        have g'35 := (jn @h12 (jn @h12n (jn @int_bne (jn @int_beq g'31))))
        refine runTf g'35 ?_
        exact hQ _ _ (end_plain (.inl rfl) hbel (x := .bool true) (resT Tryz.results38) rfl ⟨by first | (simp [beyR, lowB, h1d, h11d, h12d, h1, h11, h12, h12d]; done) | (simp_all [beyR, lowB]; done) | (simp_all [beyR, lowB]; omega) | (have e1 : lowB v1 v2 = decide (v2 < 0 ∨ (v2 = 0 ∧ v1 < 0)) := (by rw [Bool.eq_iff_iff]; simp [lowB]); have e2 : lowB dx dy = decide (dy < 0 ∨ (dy = 0 ∧ dx < 0)) := (by rw [Bool.eq_iff_iff]; simp [lowB]); unfold beyR; rw [e1, e2]; first | (rw [decide_eq_true (by omega), decide_eq_true (by omega)]; simp) | (rw [decide_eq_true (by omega), decide_eq_false (by omega)]; simp) | (rw [decide_eq_false (by omega), decide_eq_true (by omega)]; simp) | (rw [decide_eq_false (by omega), decide_eq_false (by omega)]; simp)), rfl⟩)
    · have h11d := h11
      try simp only [boolset, beq_iff_eq, ne_eq] at h11d
      have g'36 := (jn @h11 (jn @h11d g'30))
      refine runTf g'36 ?_
      exact hQ _ _ (end_plain (.inl rfl) hbel (x := .bool (decide (0 < ((dx * v2) - (dy * v1))))) (resT Tryz.results38) rfl ⟨by first | (simp [beyR, lowB, h1d, h11d, h1, h11]; done) | (simp_all [beyR, lowB]; done) | (simp_all [beyR, lowB]; omega) | (have e1 : lowB v1 v2 = decide (v2 < 0 ∨ (v2 = 0 ∧ v1 < 0)) := (by rw [Bool.eq_iff_iff]; simp [lowB]); have e2 : lowB dx dy = decide (dy < 0 ∨ (dy = 0 ∧ dx < 0)) := (by rw [Bool.eq_iff_iff]; simp [lowB]); unfold beyR; rw [e1, e2]; first | (rw [decide_eq_true (by omega), decide_eq_true (by omega)]; simp) | (rw [decide_eq_true (by omega), decide_eq_false (by omega)]; simp) | (rw [decide_eq_false (by omega), decide_eq_true (by omega)]; simp) | (rw [decide_eq_false (by omega), decide_eq_false (by omega)]; simp)), rfl⟩)
set_option maxHeartbeats 4000000 in
set_option maxRecDepth 100000 in
theorem toward_c (H : AHeap) (fx : Int) (fy : Int) (tx : Int) (ty : Int) : ACalls Tryz.prog 36 [.agg [.int .i64 fx, .int .i64 fy], .agg [.int .i64 tx, .int .i64 ty]] H (fun v H' => v = .tup [.int .i64 (towI fx fy tx ty), .int .i64 (towE fx fy tx ty)] ∧ H' = H) := by
  (refine ACalls_run try_mixed Tryz.func36 true _ rfl (Nat.le_of_ble_eq_true (by kernel_rfl)) (by kernel_rfl) ?_; intro hbel Q hQ hQ' c hc; unfold Tryz.f36 at hc; simp only [Option.some.injEq] at hc; subst hc; clear hQ')
  refine runT ?_
  refine call_v (by kernel_rfl) (mvpt_c _ fx fy) ?_
  refine runT ?_
  refine gd_split (fun h1 => ?_) (fun h1 => ?_)
  · have h1d := h1
    try simp only [boolset, beq_iff_eq, ne_eq] at h1d
    have hp1 := h1d
    simp only [ptB, Bool.and_eq_true, within_iff] at hp1
    have g'37 := (jn @h1 @h1d)
    refine runTf g'37 ?_
    refine call_v (by kernel_rfl) (mvpt_c _ tx ty) ?_
    refine runTf g'37 ?_
    refine cond_split (fun h2 => ?_) (fun h2 => ?_)
    · have h2d := h2
      try simp only [boolset, beq_iff_eq, ne_eq] at h2d
      have g'38 := (jn @h2 (jn @h2d g'37))
      refine runTf g'38 ?_
      exact hQ _ _ (end_plain (.inl rfl) hbel (x := .tup [.int .i64 0, .int .i64 1]) (resT Tryz.results36) rfl ⟨by first | (simp [towI, towE, h1d, h2d]; done) | (simp [towI, hfinE]; done) | (rw [show towI fx fy tx ty = ((towN (tx - fx) (ty - fy) 256 : Nat) : Int) from if_pos hfinE, hfinE]), rfl⟩)
    · have h2d := h2
      try simp only [boolset, beq_iff_eq, ne_eq] at h2d
      have hp2 := h2d
      simp only [ptB, Bool.and_eq_true, within_iff] at hp2
      have g'39 := (jn @h2 (jn @h2d g'37))
      refine runTf g'39 ?_
      refine cond_split (fun h3 => ?_) (fun h3 => ?_)
      · have h3d := h3
        try simp only [boolset, beq_iff_eq, ne_eq] at h3d
        have h3n := h3
        try simp only [int_bne, int_beq] at h3n
        have g'40 := (jn @h3 (jn @h3d (jn @h3n (jn @int_bne (jn @int_beq g'39)))))
        refine runTf g'40 ?_
        exact hQ _ _ (end_plain (.inl rfl) hbel (x := .tup [.int .i64 0, .int .i64 9]) (resT Tryz.results36) rfl ⟨by first | (simp [towI, towE, h1d, h2d, h3d]; done) | (simp [towI, hfinE]; done) | (rw [show towI fx fy tx ty = ((towN (tx - fx) (ty - fy) 256 : Nat) : Int) from if_pos hfinE, hfinE]), rfl⟩)
      · have h3d := h3
        try simp only [boolset, beq_iff_eq, ne_eq] at h3d
        have h3n := h3
        try simp only [int_bne, int_beq] at h3n
        have hfinE : towE fx fy tx ty = 0 := by unfold towE; simp_all
        have g'41 := (jn @h3 (jn @h3d (jn @h3n (jn @int_bne (jn @int_beq g'39)))))
        refine runTf g'41 ?_
        refine go_loop try_mixed (by kernel_rfl) (fun k F Hx => ∃ n : Nat, n + k = 256 ∧ F = [(6, .int .i64 (tx - fx)), (7, .int .i64 (ty - fy)), (8, .int .i64 ((towN (tx - fx) (ty - fy) n : Nat) : Int)), (36, .int .i64 ((n : Nat) : Int))] ∧ H = Hx) (256) ?_ ?_
        · refine ⟨_, _, _, ⟨0, by omega, rfl, rfl⟩, Abs.byN hbel ?_⟩
          exact absWf (jn @towN.eq_1 @Int.natCast_zero)
        · rintro k0 F Hx ⟨n, hm0, rfl, rfl⟩ J0 hJ0
          refine runTf g'41 ?_
          refine cond_split (fun h4 => ?_) (fun h4 => ?_)
          · have h4d := h4
            try simp only [boolset, beq_iff_eq, ne_eq] at h4d
            have hdv := vecOK_iff.1 (dirV_ok ((n : Nat) : Int))
            have hdn := dirV_nat (n := n) (by omega)
            have hm1 := mul_bd (a := (dirV ((n : Nat) : Int)).1) (b := (ty - fy)) (A := 8065) (B := 2097152) (by omega) (by omega)
            have hm2 := mul_bd (a := (dirV ((n : Nat) : Int)).2.1) (b := (tx - fx)) (A := 8065) (B := 2097152) (by omega) (by omega)
            have g'42 := (jn @h4 (jn @h4d g'41))
            refine runTf g'42 ?_
            refine call_v (by kernel_rfl) (dir_c _ ((n : Nat) : Int)) ?_
            refine runTf g'42 ?_
            refine call_v (by kernel_rfl) (mhalf_c _ ((dirV ((n : Nat) : Int)).1) ((dirV ((n : Nat) : Int)).2.1)) ?_
            refine runTf g'42 ?_
            refine call_v (by kernel_rfl) (mhalf_c _ (tx - fx) (ty - fy)) ?_
            refine runTf g'42 ?_
            refine gd_split (fun h5 => ?_) (fun h5 => ?_)
            · have h5d := h5
              try simp only [boolset, beq_iff_eq, ne_eq] at h5d
              have hnl := h5d
              have g'43 := (jn @h5 (jn @h5d g'42))
              refine runTf g'43 ?_
              refine gd_split (fun h6 => ?_) (fun h6 => ?_)
              · have h6d := h6
                try simp only [boolset, beq_iff_eq, ne_eq] at h6d
                have heq := h6d
                have g'44 := (jn @h6 (jn @h6d g'43))
                refine runTf g'44 ?_
                refine cond_split (fun h7 => ?_) (fun h7 => ?_)
                · have h7d := h7
                  try simp only [boolset, beq_iff_eq, ne_eq] at h7d
                  have hbey : beyB (dirN n) (tx - fx) (ty - fy) = false := by rw [← hdn, bey_eq heq]; exact decide_eq_false (by omega)
                  have g'45 := (jn @h7 (jn @h7d g'44))
                  refine runTf g'45 ?_
                  refine hJ0 _ _ ⟨k0 - 1, by omega, _, _, _, ⟨n + 1, by omega, rfl, rfl⟩, Abs.byN hbel ?_⟩
                  exact absWf (jn @towN.eq_2 (jn @hbey (jn @if_true.{1} (jn @if_false.{1} (jn @Bool.false_eq_true (jn @h3d @h6d))))))
                · have h7d := h7
                  try simp only [boolset, beq_iff_eq, ne_eq] at h7d
                  have hbey : beyB (dirN n) (tx - fx) (ty - fy) = true := by rw [← hdn, bey_eq heq]; exact decide_eq_true (by omega)
                  have g'46 := (jn @h7 (jn @h7d g'44))
                  refine runTf g'46 ?_
                  refine hJ0 _ _ ⟨k0 - 1, by omega, _, _, _, ⟨n + 1, by omega, rfl, rfl⟩, Abs.byN hbel ?_⟩
                  exact absWf (jn @towN.eq_2 (jn @hbey (jn @if_true.{1} (jn @if_false.{1} (jn @Bool.false_eq_true (jn @h3d @h6d))))))
              · have h6d := h6
                try simp only [boolset, beq_iff_eq, ne_eq] at h6d
                have hbey : beyB (dirN n) (tx - fx) (ty - fy) = true := by rw [← hdn]; exact bey_gt (by omega) h6d
                have g'47 := (jn @h6 (jn @h6d g'43))
                refine runTf g'47 ?_
                refine hJ0 _ _ ⟨k0 - 1, by omega, _, _, _, ⟨n + 1, by omega, rfl, rfl⟩, Abs.byN hbel ?_⟩
                exact absWf (jn @towN.eq_2 (jn @hbey (jn @if_true.{1} (jn @if_false.{1} (jn @Bool.false_eq_true (jn @h3d @h6d))))))
            · have h5d := h5
              try simp only [boolset, beq_iff_eq, ne_eq] at h5d
              have hbey : beyB (dirN n) (tx - fx) (ty - fy) = false := by rw [← hdn]; exact bey_lt h5d
              have g'48 := (jn @h5 (jn @h5d g'42))
              refine runTf g'48 ?_
              refine hJ0 _ _ ⟨k0 - 1, by omega, _, _, _, ⟨n + 1, by omega, rfl, rfl⟩, Abs.byN hbel ?_⟩
              exact absWf (jn @towN.eq_2 (jn @hbey (jn @if_true.{1} (jn @if_false.{1} (jn @Bool.false_eq_true @h3d)))))
          · have h4d := h4
            try simp only [boolset, beq_iff_eq, ne_eq] at h4d
            obtain rfl : n = 256 := by omega
            have g'49 := (jn @h4 (jn @h4d g'41))
            refine runTf g'49 ?_
            exact hQ _ _ (end_plain0 (.inl rfl) hbel (x := .tup [.int .i64 ((towN (tx - fx) (ty - fy) 256 : Nat) : Int), .int .i64 0]) (resT Tryz.results36) rfl ⟨by first | (simp [towI, towE, h1d, h2d, h3d, h4d, hfinE]; done) | (simp [towI, hfinE]; done) | (rw [show towI fx fy tx ty = ((towN (tx - fx) (ty - fy) 256 : Nat) : Int) from if_pos hfinE, hfinE]), rfl⟩)
  · have h1d := h1
    try simp only [boolset, beq_iff_eq, ne_eq] at h1d
    have g'50 := (jn @h1 @h1d)
    refine runTf g'50 ?_
    exact hQ _ _ (end_plain (.inl rfl) hbel (x := .tup [.int .i64 0, .int .i64 1]) (resT Tryz.results36) rfl ⟨by first | (simp [towI, towE, h1d]; done) | (simp [towI, hfinE]; done) | (rw [show towI fx fy tx ty = ((towN (tx - fx) (ty - fy) 256 : Nat) : Int) from if_pos hfinE, hfinE]), rfl⟩)
end Go.Proofs.YtoimakfecmhjkaaGreat

/- Walks by the abstract machine: Toward of the reference. Conditions: as each theorem states. -/
namespace Go.Proofs.YtoimakfecmhjkaaGreat
set_option linter.unusedSimpArgs false
set_option linter.unusedVariables false
open Go.RowKit
set_option maxHeartbeats 4000000 in
set_option maxRecDepth 100000 in
theorem rtoward_c (H : AHeap) (fx : Int) (fy : Int) (tx : Int) (ty : Int) : ACalls Tryz.prog 37 [.agg [.int .i64 fx, .int .i64 fy], .agg [.int .i64 tx, .int .i64 ty]] H (fun v H' => v = .tup [.int .i64 (towI fx fy tx ty), .int .i64 (towE fx fy tx ty)] ∧ H' = H) := by
  (refine ACalls_run try_mixed Tryz.func37 true _ rfl (Nat.le_of_ble_eq_true (by kernel_rfl)) (by kernel_rfl) ?_; intro hbel Q hQ hQ' c hc; unfold Tryz.f37 at hc; simp only [Option.some.injEq] at hc; subst hc; clear hQ')
  refine runT ?_
  refine call_v (by kernel_rfl) (bpt_c _ fx fy) ?_
  refine runT ?_
  refine gd_split (fun h1 => ?_) (fun h1 => ?_)
  · have h1d := h1
    try simp only [boolset, beq_iff_eq, ne_eq] at h1d
    have hp1 := h1d
    simp only [ptB, Bool.and_eq_true, within_iff] at hp1
    have g'1 := (jn @h1 @h1d)
    refine runTf g'1 ?_
    refine call_v (by kernel_rfl) (bpt_c _ tx ty) ?_
    refine runTf g'1 ?_
    refine cond_split (fun h2 => ?_) (fun h2 => ?_)
    · have h2d := h2
      try simp only [boolset, beq_iff_eq, ne_eq] at h2d
      have g'2 := (jn @h2 (jn @h2d g'1))
      refine runTf g'2 ?_
      exact hQ _ _ (end_plain (.inl rfl) hbel (x := .tup [.int .i64 0, .int .i64 1]) (resT Tryz.results37) rfl ⟨by first | (simp [towI, towE, h1d, h2d]; done) | (rw [show towI fx fy tx ty = ((towN (tx - fx) (ty - fy) 256 : Nat) : Int) from if_pos hfinE, hfinE, hfinT]), rfl⟩)
    · have h2d := h2
      try simp only [boolset, beq_iff_eq, ne_eq] at h2d
      have hp2 := h2d
      simp only [ptB, Bool.and_eq_true, within_iff] at hp2
      have g'3 := (jn @h2 (jn @h2d g'1))
      refine runTf g'3 ?_
      refine cond_split (fun h3 => ?_) (fun h3 => ?_)
      · have h3d := h3
        try simp only [boolset, beq_iff_eq, ne_eq] at h3d
        have h3n := h3
        try simp only [int_bne, int_beq] at h3n
        have g'4 := (jn @h3 (jn @h3d (jn @h3n (jn @int_bne (jn @int_beq g'3)))))
        refine runTf g'4 ?_
        exact hQ _ _ (end_plain (.inl rfl) hbel (x := .tup [.int .i64 0, .int .i64 9]) (resT Tryz.results37) rfl ⟨by first | (simp [towI, towE, h1d, h2d, h3d]; done) | (rw [show towI fx fy tx ty = ((towN (tx - fx) (ty - fy) 256 : Nat) : Int) from if_pos hfinE, hfinE, hfinT]), rfl⟩)
      · have h3d := h3
        try simp only [boolset, beq_iff_eq, ne_eq] at h3d
        have h3n := h3
        try simp only [int_bne, int_beq] at h3n
        have hfinE : towE fx fy tx ty = 0 := by unfold towE; simp_all
        have hd : ¬ ((tx - fx) = 0 ∧ (ty - fy) = 0) := fun hh => by
          have e1 : fx = tx := by omega
          have e2 : fy = ty := by omega
          simp_all
        have g'5 := (jn @h3 (jn @h3d (jn @h3n (jn @int_bne (jn @int_beq g'3)))))
        refine runTf g'5 ?_
        refine go_loop try_mixed (by kernel_rfl) (fun k F Hx => ∃ n : Nat, n + k = 255 ∧ (∀ j : Nat, j ≤ n → beyB (dirN j) (tx - fx) (ty - fy) = false) ∧ F = [(2, .ptr (some (H.length, 0))), (3, .ptr (some (H.length + 1, 0))), (6, .int .i64 ((n : Nat) : Int))] ∧ Hx = H ++ [.cells true 0 [.int .i64 fx, .int .i64 fy], .cells true 0 [.int .i64 tx, .int .i64 ty]]) (255) ?_ ?_
        · refine ⟨_, _, _, ⟨0, by omega, fun j hj => by rw [show j = 0 by omega]; exact bey_0 hd, rfl, rfl⟩, Abs.byG hbel [] rfl [0, 1] (by decide) ?_⟩
          exact absW
        · rintro k0 F Hx ⟨n, hm0, hbn, rfl, rfl⟩ J0 hJ0
          refine runTf g'5 ?_
          refine gd_split (fun h4 => ?_) (fun h4 => ?_)
          · have h4d := h4
            try simp only [boolset, beq_iff_eq, ne_eq] at h4d
            have hdv := vecOK_iff.1 (dirV_ok ((n + 1 : Nat) : Int))
            have hdn := dirV_nat (n := n + 1) (by omega)
            have g'6 := (jn @h4 (jn @h4d g'5))
            refine runTf g'6 ?_
            refine call_d (by kernel_rfl) (rdir_c _ ((n + 1 : Nat) : Int)) ?_
            refine runTf g'6 ?_
            refine call_d (by kernel_rfl) (beyond_c _ ((dirV ((n + 1 : Nat) : Int)).1) ((dirV ((n + 1 : Nat) : Int)).2.1) ((dirV ((n + 1 : Nat) : Int)).2.2) (tx - fx) (ty - fy) (by omega) (by omega) (by omega) (by omega)) ?_
            refine runTf g'6 ?_
            refine cond_split (fun h5 => ?_) (fun h5 => ?_)
            · have h5d := h5
              try simp only [boolset, beq_iff_eq, ne_eq] at h5d
              have hbF : beyB (dirN (n + 1)) (tx - fx) (ty - fy) = false := by rw [← hdn, ← beyR_eq (dirV_ok _) hd]; exact h5d
              have g'7 := (jn @h5 (jn @h5d g'6))
              refine runTf g'7 ?_
              refine hJ0 _ _ ⟨k0 - 1, by omega, _, _, _, ⟨n + 1, by omega, fun j hj => by
                            rcases Nat.lt_or_ge n j with hjn | hjn
                            · rw [show j = n + 1 by omega]; exact hbF
                            · exact hbn j hjn, rfl, rfl⟩, Abs.byG hbel [] rfl [0, 1] (by decide) ?_⟩
              exact absWf @h3d
            · have h5d := h5
              try simp only [boolset, beq_iff_eq, ne_eq] at h5d
              have hbT : beyB (dirN (n + 1)) (tx - fx) (ty - fy) = true := by rw [← hdn, ← beyR_eq (dirV_ok _) hd]; exact h5d
              have hfinT : towN (tx - fx) (ty - fy) 256 = n := towN_all hd hbn hbT 256 (by omega) (Nat.le_refl _)
              have g'8 := (jn @h5 (jn @h5d g'6))
              refine runTf g'8 ?_
              exact hQ _ _ (end_plain (.inl rfl) hbel (x := .tup [.int .i64 ((n : Nat) : Int), .int .i64 0]) (resT Tryz.results37) rfl ⟨by first | (simp [towI, towE, h1d, h2d, h3d, h4d, h5d, hfinE, hfinT]; done) | (rw [show towI fx fy tx ty = ((towN (tx - fx) (ty - fy) 256 : Nat) : Int) from if_pos hfinE, hfinE, hfinT]), rfl⟩)
          · have h4d := h4
            try simp only [boolset, beq_iff_eq, ne_eq] at h4d
            have hn255 : n = 255 := by omega
            have hfinT : towN (tx - fx) (ty - fy) 256 = n := by rw [hn255]; exact towN_last (hbn 255 (by omega))
            have g'9 := (jn @h4 (jn @h4d g'5))
            refine runTf g'9 ?_
            exact hQ _ _ (end_plain (.inl rfl) hbel (x := .tup [.int .i64 ((n : Nat) : Int), .int .i64 0]) (resT Tryz.results37) rfl ⟨by first | (simp [towI, towE, h1d, h2d, h3d, h4d, hfinE, hfinT]; done) | (rw [show towI fx fy tx ty = ((towN (tx - fx) (ty - fy) 256 : Nat) : Int) from if_pos hfinE, hfinE, hfinT]), rfl⟩)
  · have h1d := h1
    try simp only [boolset, beq_iff_eq, ne_eq] at h1d
    have g'10 := (jn @h1 @h1d)
    refine runTf g'10 ?_
    exact hQ _ _ (end_plain (.inl rfl) hbel (x := .tup [.int .i64 0, .int .i64 1]) (resT Tryz.results37) rfl ⟨by first | (simp [towI, towE, h1d]; done) | (rw [show towI fx fy tx ty = ((towN (tx - fx) (ty - fy) 256 : Nat) : Int) from if_pos hfinE, hfinE, hfinT]), rfl⟩)
end Go.Proofs.YtoimakfecmhjkaaGreat

/- Walks by the abstract machine: facts on marks towards a point. Conditions: as each theorem states. -/
namespace Go.Proofs.YtoimakfecmhjkaaGreat
set_option linter.unusedSimpArgs false
set_option linter.unusedVariables false
open Go.RowKit
theorem tow_spec {x y : Int} (hd : ¬ (x = 0 ∧ y = 0)) : ∀ n : Nat, 1 ≤ n → towN x y n < n ∧ beyB (dirN (towN x y n)) x y = false ∧ ∀ j : Nat, towN x y n < j → j < n → beyB (dirN j) x y = true
  | 0, h => by omega
  | n + 1, _ => by
    rw [towN]
    cases hb : beyB (dirN n) x y with
    | false => simp only [Bool.false_eq_true, if_false]; exact ⟨Nat.lt_succ_self n, hb, fun j h1 h2 => by omega⟩
    | true =>
      simp only [if_true]
      rcases Nat.eq_zero_or_pos n with rfl | h0
      · rw [bey_0 hd] at hb; cases hb
      · obtain ⟨h1, h2, h3⟩ := tow_spec hd n h0
        exact ⟨by omega, h2, fun j k1 k2 => by
          rcases Nat.lt_or_ge j n with h | h
          · exact h3 j k1 h
          · rw [show j = n by omega]; exact hb⟩
theorem towE0 {fx fy tx ty : Int} (h : towE fx fy tx ty = 0) : ((-1048576 ≤ fx ∧ fx ≤ 1048576) ∧ -1048576 ≤ fy ∧ fy ≤ 1048576) ∧ ((-1048576 ≤ tx ∧ tx ≤ 1048576) ∧ -1048576 ≤ ty ∧ ty ≤ 1048576) ∧ ¬ (tx - fx = 0 ∧ ty - fy = 0) ∧ towI fx fy tx ty = ((towN (tx - fx) (ty - fy) 256 : Nat) : Int) := by
  have hI : towI fx fy tx ty = ((towN (tx - fx) (ty - fy) 256 : Nat) : Int) := if_pos h
  unfold towE at h
  split at h
  · rename_i h1
    simp only [ptB, Bool.and_eq_true, within_iff] at h1
    split at h
    · omega
    · rename_i h2; exact ⟨by omega, by omega, by omega, hI⟩
  · omega
theorem tow_bey {fx fy tx ty : Int} (h : towE fx fy tx ty = 0) : (0 ≤ towI fx fy tx ty ∧ towI fx fy tx ty ≤ 255) ∧ beyR (dirV (towI fx fy tx ty)).1 (dirV (towI fx fy tx ty)).2.1 (tx - fx) (ty - fy) = false ∧ (¬ towI fx fy tx ty = 255 → beyR (dirV (towI fx fy tx ty + 1)).1 (dirV (towI fx fy tx ty + 1)).2.1 (tx - fx) (ty - fy) = true) := by
  obtain ⟨-, -, hd, hI⟩ := towE0 h
  obtain ⟨s1, s2, s3⟩ := tow_spec hd 256 (by decide)
  rw [hI, beyR_eq (dirV_ok _) hd, dirV_nat s1]
  refine ⟨by omega, s2, fun hn => ?_⟩
  rw [beyR_eq (dirV_ok _) hd]
  have e : ((towN (tx - fx) (ty - fy) 256 : Nat) : Int) + 1 = ((towN (tx - fx) (ty - fy) 256 + 1 : Nat) : Int) := by omega
  rw [e, dirV_nat (by omega)]
  exact s3 _ (by omega) (by omega)
end Go.Proofs.YtoimakfecmhjkaaGreat

/- Walks by the abstract machine: Aim. Conditions: as each theorem states. -/
namespace Go.Proofs.YtoimakfecmhjkaaGreat
set_option linter.unusedSimpArgs false
set_option linter.unusedVariables false
open Go.RowKit
/-- The steps of a forward motion: at most k more than n. -/
def fwM (q : Int) : Nat → Nat → Nat
  | 0, n => n
  | k + 1, n => if ((n : Int) + 1) * ((n : Int) + 1) ≤ q then fwM q k (n + 1) else n
theorem fwM_le (q : Int) : ∀ k n : Nat, n ≤ fwM q k n ∧ fwM q k n ≤ n + k
  | 0, n => ⟨Nat.le_refl _, Nat.le_refl _⟩
  | k + 1, n => by
    rw [fwM]; split
    · have := fwM_le q k (n + 1); omega
    · omega
theorem fwM_go {q : Int} {k n : Nat} (hk : 0 < k) (h : ((n : Int) + 1) * ((n : Int) + 1) ≤ q) : fwM q k n = fwM q (k - 1) (n + 1) := by
  obtain ⟨j, rfl⟩ : ∃ j, k = j + 1 := ⟨k - 1, by omega⟩
  rw [fwM, if_pos h, Nat.add_sub_cancel]
theorem fwM_stop {q : Int} {k n : Nat} (h : ¬ ((n : Int) + 1) * ((n : Int) + 1) ≤ q) : fwM q k n = n := by
  cases k with
  | zero => rfl
  | succ j => rw [fwM, if_neg h]
def aimE (x y h tx ty : Int) : Int := if btw h 0 255 = true then towE x y tx ty else 1
def aimT (x y h tx ty : Int) : Int := if aimE x y h tx ty = 0 then clipI (delI h (towI x y tx ty)) else 0
def aimF (x y h tx ty : Int) : Int := if aimE x y h tx ty = 0 ∧ btw (delI h (towI x y tx ty)) (-8) 8 = true then ((fwM (((tx - x) * (tx - x)) + ((ty - y) * (ty - y))) 32 0 : Nat) : Int) else 0
theorem aim_cmd (x y h tx ty : Int) : cmdB (aimT x y h tx ty) (aimF x y h tx ty) = true := by
  unfold cmdB
  rw [Bool.and_eq_true, within_iff, btw_iff]
  constructor
  · unfold aimT clipI; split
    · split
      · omega
      · split <;> omega
    · omega
  · unfold aimF; split
    · have := fwM_le (((tx - x) * (tx - x)) + ((ty - y) * (ty - y))) 32 0; omega
    · omega
theorem within8 (d : Int) : within d 8 = btw d (-8) 8 := by rw [Bool.eq_iff_iff, within_iff, btw_iff]
def poseB (x y h : Int) : Bool := within x 1048576 && (within y 1048576 && (decide (0 ≤ h) && decide (h < 256)))
theorem poseB_iff {x y h : Int} : poseB x y h = true ↔ (ptB x y = true ∧ btw h 0 255 = true) := by
  unfold poseB ptB; simp only [Bool.and_eq_true, within_iff, btw_iff, decide_eq_true_eq]; omega
theorem aimE_eq (x y h tx ty : Int) : aimE x y h tx ty = if poseB x y h = true ∧ ptB tx ty = true then towE x y tx ty else 1 := by
  unfold aimE
  by_cases hb : btw h 0 255 = true
  · rw [if_pos hb]
    by_cases h1 : ptB x y = true
    · by_cases h2 : ptB tx ty = true
      · rw [if_pos ⟨poseB_iff.2 ⟨h1, hb⟩, h2⟩]
      · rw [if_neg (fun h => h2 h.2)]; unfold towE; rw [if_neg (by simp [h2])]
    · rw [if_neg (fun h => h1 (poseB_iff.1 h.1).1)]; unfold towE; rw [if_neg (by simp [h1])]
  · rw [if_neg hb, if_neg (fun h => hb (poseB_iff.1 h.1).2)]
theorem clip_r (d : Int) : (if (-32) < (if 32 < d then 32 else d) then (if 32 < d then 32 else d) else (-32)) = clipI d := by
  unfold clipI; repeat' split
  all_goals omega
theorem bclip_c (H : AHeap) (d : Int) : ACalls Tryz.prog 101 [.int .i64 d, .int .i64 (-32), .int .i64 32] H (fun v H' => v = .int .i64 (clipI d) ∧ H' = H) := by
  have hcl := clip_r d
  (refine ACalls_run try_mixed Tryz.func101 true _ rfl (Nat.le_of_ble_eq_true (by kernel_rfl)) (by kernel_rfl) ?_; intro hbel Q hQ hQ' c hc; unfold Tryz.f101 at hc; simp only [Option.some.injEq] at hc; subst hc; clear hQ')
  have g'1 := @hcl
  refine runTf g'1 ?_
  exact hQ _ _ (end_plain0 (.inl rfl) hbel (x := .int .i64 (clipI d)) (resT Tryz.results101) rfl ⟨rfl, rfl⟩)
set_option maxHeartbeats 4000000 in
set_option maxRecDepth 100000 in
theorem bpose_c (H : AHeap) (x : Int) (y : Int) (h : Int) : ACalls Tryz.prog 24 [.agg [.int .i64 x, .int .i64 y, .int .i64 h]] H (fun v H' => v = .bool (poseB x y h) ∧ H' = H) := by
  (refine ACalls_run try_mixed Tryz.func24 true _ rfl (Nat.le_of_ble_eq_true (by kernel_rfl)) (by kernel_rfl) ?_; intro hbel Q hQ hQ' c hc; unfold Tryz.f24 at hc; simp only [Option.some.injEq] at hc; subst hc; clear hQ')
  refine runT ?_
  refine call_v (by kernel_rfl) (bsize_c _ _ _ (by decide)) ?_
  refine runT ?_
  refine gd_split (fun h1 => ?_) (fun h1 => ?_)
  · have h1d := h1
    try simp only [boolset, beq_iff_eq, ne_eq] at h1d
    have g'2 := (jn @h1 @h1d)
    refine runTf g'2 ?_
    refine call_v (by kernel_rfl) (bsize_c _ _ _ (by decide)) ?_
    refine runTf g'2 ?_
    refine gd_split (fun h2 => ?_) (fun h2 => ?_)
    · have h2d := h2
      try simp only [boolset, beq_iff_eq, ne_eq] at h2d
      have g'3 := (jn @h2 (jn @h2d g'2))
      refine runTf g'3 ?_
      refine gd_split (fun h3 => ?_) (fun h3 => ?_)
      · have h3d := h3
        try simp only [boolset, beq_iff_eq, ne_eq] at h3d
        have g'4 := (jn @h3 (jn @h3d g'3))
        refine runTf g'4 ?_
        exact hQ _ _ (end_plain (.inl rfl) hbel (x := .bool (decide (h < 256))) (resT Tryz.results24) rfl ⟨by simp [poseB, h1d, h2d, h3d], rfl⟩)
      · have h3d := h3
        try simp only [boolset, beq_iff_eq, ne_eq] at h3d
        have g'5 := (jn @h3 (jn @h3d g'3))
        refine runTf g'5 ?_
        exact hQ _ _ (end_plain (.inl rfl) hbel (x := .bool false) (resT Tryz.results24) rfl ⟨by simp [poseB, h1d, h2d, h3d], rfl⟩)
    · have h2d := h2
      try simp only [boolset, beq_iff_eq, ne_eq] at h2d
      have g'6 := (jn @h2 (jn @h2d g'2))
      refine runTf g'6 ?_
      exact hQ _ _ (end_plain (.inl rfl) hbel (x := .bool false) (resT Tryz.results24) rfl ⟨by simp [poseB, h1d, h2d], rfl⟩)
  · have h1d := h1
    try simp only [boolset, beq_iff_eq, ne_eq] at h1d
    have g'7 := (jn @h1 @h1d)
    refine runTf g'7 ?_
    exact hQ _ _ (end_plain (.inl rfl) hbel (x := .bool false) (resT Tryz.results24) rfl ⟨by simp [poseB, h1d], rfl⟩)
set_option maxHeartbeats 4000000 in
set_option maxRecDepth 100000 in
theorem aim_c (H : AHeap) (x : Int) (y : Int) (h : Int) (tx : Int) (ty : Int) : ACalls Tryz.prog 40 [.agg [.int .i64 x, .int .i64 y, .int .i64 h], .agg [.int .i64 tx, .int .i64 ty]] H (fun v H' => v = .tup [.agg [.int .i64 (aimT x y h tx ty), .int .i64 (aimF x y h tx ty)], .int .i64 (aimE x y h tx ty)] ∧ H' = H) := by
  have hcl := clip_r (delI h (towI x y tx ty))
  (refine ACalls_run try_mixed Tryz.func40 true _ rfl (Nat.le_of_ble_eq_true (by kernel_rfl)) (by kernel_rfl) ?_; intro hbel Q hQ hQ' c hc; unfold Tryz.f40 at hc; simp only [Option.some.injEq] at hc; subst hc; clear hQ')
  have g'8 := @hcl
  refine runTf g'8 ?_
  refine call_v (by kernel_rfl) (mwithin_c _ h 0 255) ?_
  refine runTf g'8 ?_
  refine cond_split (fun h1 => ?_) (fun h1 => ?_)
  · have h1d := h1
    try simp only [boolset, beq_iff_eq, ne_eq] at h1d
    have hfinE0 : aimE x y h tx ty = 1 := if_neg (by simp [h1d])
    have hfinT0 : aimT x y h tx ty = 0 := if_neg (by rw [hfinE0]; decide)
    have hfinF0 : aimF x y h tx ty = 0 := if_neg (fun hh => by rw [hfinE0] at hh; exact absurd hh.1 (by decide))
    have g'9 := (jn @h1 (jn @h1d g'8))
    refine runTf g'9 ?_
    exact hQ _ _ (end_plain (.inl rfl) hbel (x := .tup [.agg [.int .i64 0, .int .i64 0], .int .i64 1]) (resT Tryz.results40) rfl ⟨by first | (rw [hfinE0, hfinT0, hfinF0]; done) | (rw [hfinE, hfinT, hfinF0]; done) | (rw [hfinE, hfinT, hfinF, hfinN]; first | done | rfl), rfl⟩)
  · have h1d := h1
    try simp only [boolset, beq_iff_eq, ne_eq] at h1d
    have hbt : btw h 0 255 = true := h1d
    have hbi := btw_iff.1 hbt
    have hae : aimE x y h tx ty = towE x y tx ty := if_pos hbt
    have g'10 := (jn @h1 (jn @h1d g'8))
    refine runTf g'10 ?_
    refine call_v (by kernel_rfl) (toward_c _ x y tx ty) ?_
    refine runTf g'10 ?_
    refine cond_split (fun h2 => ?_) (fun h2 => ?_)
    · have h2d := h2
      try simp only [boolset, beq_iff_eq, ne_eq] at h2d
      have h2n := h2
      try simp only [int_bne, int_beq, Bool.not_eq_true', Bool.not_eq_false', Bool.not_not] at h2n
      have hne : ¬ towE x y tx ty = 0 := by simpa using h2d
      have hfinE0 := hae
      have hfinT0 : aimT x y h tx ty = 0 := if_neg (by rw [hae]; exact hne)
      have hfinF0 : aimF x y h tx ty = 0 := if_neg (fun hh => hne (by rw [← hae]; exact hh.1))
      have g'11 := (jn @h2 (jn @h2n (jn @int_bne (jn @int_beq g'10))))
      refine runTf g'11 ?_
      exact hQ _ _ (end_plain (.inl rfl) hbel (x := .tup [.agg [.int .i64 0, .int .i64 0], .int .i64 (towE x y tx ty)]) (resT Tryz.results40) rfl ⟨by first | (rw [hfinE0, hfinT0, hfinF0]; done) | (rw [hfinE, hfinT, hfinF0]; done) | (rw [hfinE, hfinT, hfinF, hfinN]; first | done | rfl), rfl⟩)
    · have h2d := h2
      try simp only [boolset, beq_iff_eq, ne_eq] at h2d
      have h2n := h2
      try simp only [int_bne, int_beq, Bool.not_eq_true', Bool.not_eq_false', Bool.not_not] at h2n
      have he0 : towE x y tx ty = 0 := by simpa using h2d
      obtain ⟨hp1, hp2, hpd, -⟩ := towE0 he0
      obtain ⟨hm, -, -⟩ := tow_bey he0
      have hq1 := mul_bd (a := tx - x) (b := tx - x) (A := 2097152) (B := 2097152) (by omega) (by omega)
      have hq2 := mul_bd (a := ty - y) (b := ty - y) (A := 2097152) (B := 2097152) (by omega) (by omega)
      have hfinE : aimE x y h tx ty = 0 := by rw [hae]; exact he0
      have hfinT : aimT x y h tx ty = clipI (delI h (towI x y tx ty)) := if_pos hfinE
      have g'12 := (jn @h2 (jn @h2n (jn @int_bne (jn @int_beq g'10))))
      refine runTf g'12 ?_
      refine call_v (by kernel_rfl) (delta_c _ h (towI x y tx ty) (by omega) (by omega)) ?_
      refine runTf g'12 ?_
      refine call_v (by kernel_rfl) (mwithin_c _ (delI h (towI x y tx ty)) (-8) 8) ?_
      refine runTf g'12 ?_
      refine cond_split (fun h3 => ?_) (fun h3 => ?_)
      · have h3d := h3
        try simp only [boolset, beq_iff_eq, ne_eq] at h3d
        have hfinF0 : aimF x y h tx ty = 0 := if_neg (fun hh => by rw [hh.2] at h3d; exact absurd h3d (by decide))
        have g'13 := (jn @h3 (jn @h3d g'12))
        refine runTf g'13 ?_
        exact hQ _ _ (end_plain (.inl rfl) hbel (x := .tup [.agg [.int .i64 (clipI (delI h (towI x y tx ty))), .int .i64 0], .int .i64 0]) (resT Tryz.results40) rfl ⟨by first | (rw [hfinE0, hfinT0, hfinF0]; done) | (rw [hfinE, hfinT, hfinF0]; done) | (rw [hfinE, hfinT, hfinF, hfinN]; first | done | rfl), rfl⟩)
      · have h3d := h3
        try simp only [boolset, beq_iff_eq, ne_eq] at h3d
        have hfinF : aimF x y h tx ty = ((fwM (((tx - x) * (tx - x)) + ((ty - y) * (ty - y))) 32 0 : Nat) : Int) := if_pos ⟨hfinE, h3d⟩
        have g'14 := (jn @h3 (jn @h3d g'12))
        refine runTf g'14 ?_
        refine go_loop try_mixed (by kernel_rfl) (fun k F Hx => ∃ n : Nat, n + k = 32 ∧ fwM (((tx - x) * (tx - x)) + ((ty - y) * (ty - y))) k n = fwM (((tx - x) * (tx - x)) + ((ty - y) * (ty - y))) 32 0 ∧ F = [(4, .ptr (some (H.length, 0))), (10, .ptr (some (H.length + 1, 0))), (11, .int .i64 (tx - x)), (12, .int .i64 (ty - y))] ∧ Hx = H ++ [.cells true 0 [.int .i64 0, .int .i64 0], .cells true 0 [.int .i64 (clipI (delI h (towI x y tx ty))), .int .i64 ((n : Nat) : Int)]]) (32) ?_ ?_
        · refine ⟨_, _, _, ⟨0, by omega, rfl, rfl, rfl⟩, Abs.byG hbel [] rfl [2, 4] (by decide) ?_⟩
          exact absWf @Int.natCast_zero
        · rintro k0 F Hx ⟨n, hm0, hf, rfl, rfl⟩ J0 hJ0
          refine runTf g'14 ?_
          refine gd_split (fun h4 => ?_) (fun h4 => ?_)
          · have h4d := h4
            try simp only [boolset, beq_iff_eq, ne_eq] at h4d
            have hnn := mul_bd (a := ((n : Nat) : Int) + 1) (b := ((n : Nat) : Int) + 1) (A := 33) (B := 33) (by omega) (by omega)
            have g'15 := (jn @h4 (jn @h4d g'14))
            refine runTf g'15 ?_
            refine cond_split (fun h5 => ?_) (fun h5 => ?_)
            · have h5d := h5
              try simp only [boolset, beq_iff_eq, ne_eq] at h5d
              have hgo := h5d
              have g'16 := (jn @h5 (jn @h5d g'15))
              refine runTf g'16 ?_
              refine hJ0 _ _ ⟨k0 - 1, by omega, _, _, _, ⟨n + 1, by omega, by rw [← hf]; exact (fwM_go (by omega) hgo).symm, rfl, rfl⟩, Abs.byG hbel [] rfl [0, 1] (by decide) ?_⟩
              exact absWf (jn @Int.natCast_add @Int.natCast_one)
            · have h5d := h5
              try simp only [boolset, beq_iff_eq, ne_eq] at h5d
              have hfinN : fwM (((tx - x) * (tx - x)) + ((ty - y) * (ty - y))) 32 0 = n := by rw [← hf]; exact fwM_stop (by omega)
              have g'17 := (jn @h5 (jn @h5d g'15))
              refine runTf g'17 ?_
              exact hQ _ _ (end_plain (.inl rfl) hbel (x := .tup [.agg [.int .i64 (clipI (delI h (towI x y tx ty))), .int .i64 ((n : Nat) : Int)], .int .i64 0]) (resT Tryz.results40) rfl ⟨by first | (rw [hfinE0, hfinT0, hfinF0]; done) | (rw [hfinE, hfinT, hfinF0]; done) | (rw [hfinE, hfinT, hfinF, hfinN]; first | done | rfl), rfl⟩)
          · have h4d := h4
            try simp only [boolset, beq_iff_eq, ne_eq] at h4d
            obtain rfl : n = 32 := by omega
            have hfinN : fwM (((tx - x) * (tx - x)) + ((ty - y) * (ty - y))) 32 0 = 32 := by rw [← hf, show k0 = 0 by omega]; rfl
            have g'18 := (jn @h4 (jn @h4d g'14))
            refine runTf g'18 ?_
            exact hQ _ _ (end_plain (.inl rfl) hbel (x := .tup [.agg [.int .i64 (clipI (delI h (towI x y tx ty))), .int .i64 32], .int .i64 0]) (resT Tryz.results40) rfl ⟨by first | (rw [hfinE0, hfinT0, hfinF0]; done) | (rw [hfinE, hfinT, hfinF0]; done) | (rw [hfinE, hfinT, hfinF, hfinN]; first | done | rfl), rfl⟩)
set_option maxHeartbeats 4000000 in
set_option maxRecDepth 100000 in
theorem raim_c (H : AHeap) (x : Int) (y : Int) (h : Int) (tx : Int) (ty : Int) : ACalls Tryz.prog 41 [.agg [.int .i64 x, .int .i64 y, .int .i64 h], .agg [.int .i64 tx, .int .i64 ty]] H (fun v H' => v = .tup [.agg [.int .i64 (aimT x y h tx ty), .int .i64 (aimF x y h tx ty)], .int .i64 (aimE x y h tx ty)] ∧ H' = H) := by
  (refine ACalls_run try_mixed Tryz.func41 true _ rfl (Nat.le_of_ble_eq_true (by kernel_rfl)) (by kernel_rfl) ?_; intro hbel Q hQ hQ' c hc; unfold Tryz.f41 at hc; simp only [Option.some.injEq] at hc; subst hc; clear hQ')
  refine runT ?_
  refine call_v (by kernel_rfl) (bpose_c _ x y h) ?_
  refine runT ?_
  refine gd_split (fun h1 => ?_) (fun h1 => ?_)
  · have h1d := h1
    try simp only [boolset, beq_iff_eq, ne_eq] at h1d
    have hps : poseB x y h = true := h1d
    have hbi := btw_iff.1 (poseB_iff.1 hps).2
    have g'19 := (jn @h1 @h1d)
    refine runTf g'19 ?_
    refine call_v (by kernel_rfl) (bpt_c _ tx ty) ?_
    refine runTf g'19 ?_
    refine cond_split (fun h2 => ?_) (fun h2 => ?_)
    · have h2d := h2
      try simp only [boolset, beq_iff_eq, ne_eq] at h2d
      have hfinE0 : aimE x y h tx ty = 1 := by rw [aimE_eq]; exact if_neg (fun hh => by rw [hh.2] at h2d; exact absurd h2d (by decide))
      have hfinT0 : aimT x y h tx ty = 0 := if_neg (by rw [hfinE0]; decide)
      have hfinF0 : aimF x y h tx ty = 0 := if_neg (fun hh => by rw [hfinE0] at hh; exact absurd hh.1 (by decide))
      have g'20 := (jn @h2 (jn @h2d g'19))
      refine runTf g'20 ?_
      exact hQ _ _ (end_plain (.inl rfl) hbel (x := .tup [.agg [.int .i64 0, .int .i64 0], .int .i64 1]) (resT Tryz.results41) rfl ⟨by first | (rw [hfinE0, hfinT0, hfinF0]; done) | (rw [hfinE, hfinT, hfinF0]; done) | (rw [hfinE, hfinT, hfinF, hfinN]; first | done | rfl), rfl⟩)
    · have h2d := h2
      try simp only [boolset, beq_iff_eq, ne_eq] at h2d
      have hae : aimE x y h tx ty = towE x y tx ty := by rw [aimE_eq]; exact if_pos ⟨hps, h2d⟩
      have g'21 := (jn @h2 (jn @h2d g'19))
      refine runTf g'21 ?_
      refine call_v (by kernel_rfl) (rtoward_c _ x y tx ty) ?_
      refine runTf g'21 ?_
      refine cond_split (fun h3 => ?_) (fun h3 => ?_)
      · have h3d := h3
        try simp only [boolset, beq_iff_eq, ne_eq] at h3d
        have h3n := h3
        try simp only [int_bne, int_beq, Bool.not_eq_true', Bool.not_eq_false', Bool.not_not] at h3n
        have hne : ¬ towE x y tx ty = 0 := by simpa using h3d
        have hfinE0 := hae
        have hfinT0 : aimT x y h tx ty = 0 := if_neg (by rw [hae]; exact hne)
        have hfinF0 : aimF x y h tx ty = 0 := if_neg (fun hh => hne (by rw [← hae]; exact hh.1))
        have g'22 := (jn @h3 (jn @h3n (jn @int_bne (jn @int_beq g'21))))
        refine runTf g'22 ?_
        exact hQ _ _ (end_plain (.inl rfl) hbel (x := .tup [.agg [.int .i64 0, .int .i64 0], .int .i64 (towE x y tx ty)]) (resT Tryz.results41) rfl ⟨by first | (rw [hfinE0, hfinT0, hfinF0]; done) | (rw [hfinE, hfinT, hfinF0]; done) | (rw [hfinE, hfinT, hfinF, hfinN]; first | done | rfl), rfl⟩)
      · have h3d := h3
        try simp only [boolset, beq_iff_eq, ne_eq] at h3d
        have h3n := h3
        try simp only [int_bne, int_beq, Bool.not_eq_true', Bool.not_eq_false', Bool.not_not] at h3n
        have he0 : towE x y tx ty = 0 := by simpa using h3d
        obtain ⟨hp1, hp2, hpd, -⟩ := towE0 he0
        obtain ⟨hm, -, -⟩ := tow_bey he0
        have hq1 := mul_bd (a := tx - x) (b := tx - x) (A := 2097152) (B := 2097152) (by omega) (by omega)
        have hq2 := mul_bd (a := ty - y) (b := ty - y) (A := 2097152) (B := 2097152) (by omega) (by omega)
        have hfinE : aimE x y h tx ty = 0 := by rw [hae]; exact he0
        have hfinT : aimT x y h tx ty = clipI (delI h (towI x y tx ty)) := if_pos hfinE
        have g'23 := (jn @h3 (jn @h3n (jn @int_bne (jn @int_beq g'21))))
        refine runTf g'23 ?_
        refine call_v (by kernel_rfl) (rdelta_c _ h (towI x y tx ty) (by omega) (by omega)) ?_
        refine runTf g'23 ?_
        refine call_v (by kernel_rfl) (bclip_c _ (delI h (towI x y tx ty))) ?_
        refine runTf g'23 ?_
        refine go_loop try_mixed (by kernel_rfl) (fun k F Hx => ∃ n : Nat, n + k = 32 ∧ fwM (((tx - x) * (tx - x)) + ((ty - y) * (ty - y))) k n = fwM (((tx - x) * (tx - x)) + ((ty - y) * (ty - y))) 32 0 ∧ (n = 0 ∨ within (delI h (towI x y tx ty)) 8 = true) ∧ F = [(2, .ptr (some (H.length, 0))), (3, .ptr (some (H.length + 1, 0))), (4, .ptr (some (H.length + 2, 0))), (8, .int .i64 (delI h (towI x y tx ty))), (9, .ptr (some (H.length + 3, 0)))] ∧ Hx = H ++ [.cells true 0 [.int .i64 x, .int .i64 y, .int .i64 h], .cells true 0 [.int .i64 tx, .int .i64 ty], .cells true 0 [.int .i64 0, .int .i64 0], .cells true 0 [.int .i64 (clipI (delI h (towI x y tx ty))), .int .i64 ((n : Nat) : Int)]]) (32) ?_ ?_
        · refine ⟨_, _, _, ⟨0, by omega, rfl, Or.inl rfl, rfl, rfl⟩, Abs.byG hbel [] rfl [0, 1, 2, 3] (by decide) ?_⟩
          exact absWf @Int.natCast_zero
        · rintro k0 F Hx ⟨n, hm0, hf, hw, rfl, rfl⟩ J0 hJ0
          have hnn := mul_bd (a := ((n : Nat) : Int) + 1) (b := ((n : Nat) : Int) + 1) (A := 33) (B := 33) (by omega) (by omega)
          refine runTf g'23 ?_
          refine call_v (by kernel_rfl) (bsize_c _ _ _ (by decide)) ?_
          refine runTf g'23 ?_
          refine gd_split (fun h4 => ?_) (fun h4 => ?_)
          · have h4d := h4
            try simp only [boolset, beq_iff_eq, ne_eq] at h4d
            have hw1 := h4d
            have hfinF : aimF x y h tx ty = ((fwM (((tx - x) * (tx - x)) + ((ty - y) * (ty - y))) 32 0 : Nat) : Int) := if_pos ⟨hfinE, by rw [← within8]; exact h4d⟩
            have g'24 := (jn @h4 (jn @h4d g'23))
            refine runTf g'24 ?_
            refine gd_split (fun h5 => ?_) (fun h5 => ?_)
            · have h5d := h5
              try simp only [boolset, beq_iff_eq, ne_eq] at h5d
              have g'25 := (jn @h5 (jn @h5d g'24))
              refine runTf g'25 ?_
              refine cond_split (fun h6 => ?_) (fun h6 => ?_)
              · have h6d := h6
                try simp only [boolset, beq_iff_eq, ne_eq] at h6d
                have hgo := h6d
                have g'26 := (jn @h6 (jn @h6d g'25))
                refine runTf g'26 ?_
                refine hJ0 _ _ ⟨k0 - 1, by omega, _, _, _, ⟨n + 1, by omega, by rw [← hf]; exact (fwM_go (by omega) hgo).symm, Or.inr hw1, rfl, rfl⟩, Abs.byG hbel [] rfl [0, 1, 2, 3] (by decide) ?_⟩
                exact absWf (jn @Int.natCast_add @Int.natCast_one)
              · have h6d := h6
                try simp only [boolset, beq_iff_eq, ne_eq] at h6d
                have hfinN : fwM (((tx - x) * (tx - x)) + ((ty - y) * (ty - y))) 32 0 = n := by rw [← hf]; exact fwM_stop (by omega)
                have g'27 := (jn @h6 (jn @h6d g'25))
                refine runTf g'27 ?_
                exact hQ _ _ (end_plain (.inl rfl) hbel (x := .tup [.agg [.int .i64 (clipI (delI h (towI x y tx ty))), .int .i64 ((n : Nat) : Int)], .int .i64 0]) (resT Tryz.results41) rfl ⟨by first | (rw [hfinE0, hfinT0, hfinF0]; done) | (rw [hfinE, hfinT, hfinF0]; done) | (rw [hfinE, hfinT, hfinF, hfinN]; first | done | rfl), rfl⟩)
            · have h5d := h5
              try simp only [boolset, beq_iff_eq, ne_eq] at h5d
              have hn32 : n = 32 := by omega
              have hfinN : fwM (((tx - x) * (tx - x)) + ((ty - y) * (ty - y))) 32 0 = n := by rw [← hf, show k0 = 0 by omega]; rfl
              have g'28 := (jn @h5 (jn @h5d g'24))
              refine runTf g'28 ?_
              exact hQ _ _ (end_plain (.inl rfl) hbel (x := .tup [.agg [.int .i64 (clipI (delI h (towI x y tx ty))), .int .i64 ((n : Nat) : Int)], .int .i64 0]) (resT Tryz.results41) rfl ⟨by first | (rw [hfinE0, hfinT0, hfinF0]; done) | (rw [hfinE, hfinT, hfinF0]; done) | (rw [hfinE, hfinT, hfinF, hfinN]; first | done | rfl), rfl⟩)
          · have h4d := h4
            try simp only [boolset, beq_iff_eq, ne_eq] at h4d
            have hfinF0 : aimF x y h tx ty = ((n : Nat) : Int) := by
              have hn0 : n = 0 := by rcases hw with hh | hh; exact hh; rw [hh] at h4d; exact absurd h4d (by decide)
              rw [hn0]; exact if_neg (fun hh => by rw [within8, hh.2] at h4d; exact absurd h4d (by decide))
            have g'29 := (jn @h4 (jn @h4d g'23))
            refine runTf g'29 ?_
            exact hQ _ _ (end_plain (.inl rfl) hbel (x := .tup [.agg [.int .i64 (clipI (delI h (towI x y tx ty))), .int .i64 ((n : Nat) : Int)], .int .i64 0]) (resT Tryz.results41) rfl ⟨by first | (rw [hfinE0, hfinT0, hfinF0]; done) | (rw [hfinE, hfinT, hfinF0]; done) | (rw [hfinE, hfinT, hfinF, hfinN]; first | done | rfl), rfl⟩)
  · have h1d := h1
    try simp only [boolset, beq_iff_eq, ne_eq] at h1d
    have hfinE0 : aimE x y h tx ty = 1 := by rw [aimE_eq]; exact if_neg (fun hh => by rw [hh.1] at h1d; exact absurd h1d (by decide))
    have hfinT0 : aimT x y h tx ty = 0 := if_neg (by rw [hfinE0]; decide)
    have hfinF0 : aimF x y h tx ty = 0 := if_neg (fun hh => by rw [hfinE0] at hh; exact absurd hh.1 (by decide))
    have g'30 := (jn @h1 @h1d)
    refine runTf g'30 ?_
    exact hQ _ _ (end_plain (.inl rfl) hbel (x := .tup [.agg [.int .i64 0, .int .i64 0], .int .i64 1]) (resT Tryz.results41) rfl ⟨by first | (rw [hfinE0, hfinT0, hfinF0]; done) | (rw [hfinE, hfinT, hfinF0]; done) | (rw [hfinE, hfinT, hfinF, hfinN]; first | done | rfl), rfl⟩)
end Go.Proofs.YtoimakfecmhjkaaGreat

/- Walks by the abstract machine: squares as zonogons. Conditions: as each theorem states. -/
namespace Go.Proofs.YtoimakfecmhjkaaGreat
set_option linter.unusedSimpArgs false
set_option linter.unusedVariables false
open Go.RowKit
theorem ofrect_0 (H : AHeap) (x0 y0 x1 y1 : Int) (h : rectE x0 y0 x1 y1 = 0) : ACalls Tryz.prog 50 [.agg [.int .i64 x0, .int .i64 y0, .int .i64 x1, .int .i64 y1]] H (fun v H' => v = .tup [.agg [.int .i64 (x0 + x1), .int .i64 (y0 + y1), .sl (some (H.length, 0)) (canonL (recL x0 y0 x1 y1)).length (capG (canonL (recL x0 y0 x1 y1)).length)], .int .i64 0] ∧ H' = H ++ [.cells (ownG (canonL (recL x0 y0 x1 y1)).length) 2 (prs (canonL (recL x0 y0 x1 y1)))]) := by
  have k := ofrect_c H x0 y0 x1 y1
  rw [h] at k
  exact k
theorem ofway_0 (H : AHeap) (a b : Int) (h : segE 0 0 a b = 0) : ACalls Tryz.prog 54 [.agg [.int .i64 0, .int .i64 0], .agg [.int .i64 a, .int .i64 b]] H (fun v H' => v = .tup [.agg [.int .i64 a, .int .i64 b, .sl (some (H.length, 0)) (canonL [(a, b)]).length (capG (canonL [(a, b)]).length)], .int .i64 0] ∧ H' = H ++ [.cells (ownG (canonL [(a, b)]).length) 2 (prs (canonL [(a, b)]))]) := by
  have k := ofseg_c H 0 0 a b
  rw [h, Int.zero_add, Int.zero_add, Int.sub_zero, Int.sub_zero] at k
  exact k
theorem Sum_0 (H : AHeap) (x1 y1 : Int) (s : AV) (l : List Pt) (x2 y2 : Int) (t : AV) (m : List Pt) (hs : SlP H s l) (ht : SlP H t m) (h : sumE x1 y1 l x2 y2 m = 0) : ACalls Tryz.prog 51 [.agg [.int .i64 x1, .int .i64 y1, s], .agg [.int .i64 x2, .int .i64 y2, t]] H (fun v H' => v = .tup [.agg [.int .i64 (x1 + x2), .int .i64 (y1 + y2), .sl (some (H.length, 0)) (canonL (l ++ m)).length (capG (canonL (l ++ m)).length)], .int .i64 0] ∧ H' = H ++ [.cells (ownG (canonL (l ++ m)).length) 2 (prs (canonL (l ++ m)))]) := by
  have k := Sum_c H x1 y1 s l x2 y2 t m hs ht
  rw [h] at k
  exact k
set_option maxHeartbeats 4000000 in
set_option maxRecDepth 100000 in
theorem square_c (H : AHeap) (a : Int) (ha : 0 ≤ a ∧ a ≤ 1000) : ACalls Tryz.prog 52 [.int .i64 a] H (fun v H' => v = .agg [.int .i64 0, .int .i64 0, .sl (some (H.length, 0)) ((canonL (sqrL a)).length) (capG (canonL (sqrL a)).length)] ∧ H' = H ++ [.cells (ownG (canonL (sqrL a)).length) 2 (prs (canonL (sqrL a)))]) := by
  have hre : rectE (0 - a) (0 - a) a a = 0 := if_pos ⟨by unfold far4; simp only [Bool.and_eq_true, within_iff]; omega, by omega, by omega, by omega, by omega⟩
  (refine ACalls_run try_mixed Tryz.func52 true _ rfl (Nat.le_of_ble_eq_true (by kernel_rfl)) (by kernel_rfl) ?_; intro hbel Q hQ hQ' c hc; unfold Tryz.f52 at hc; simp only [Option.some.injEq] at hc; subst hc; clear hQ')
  refine runT ?_
  refine call_v (by kernel_rfl) (ofrect_0 _ (0 - a) (0 - a) a a (by assumption)) ?_
  refine runT ?_
  refine hQ _ _ (end_byG (.inl rfl) hbel (x1 := .agg [.int .i64 ((0 - a) + a), .int .i64 ((0 - a) + a), .sl (some (H.length + 1, 0)) ((canonL (recL (0 - a) (0 - a) a a)).length) (capG (canonL (recL (0 - a) (0 - a) a a)).length)]) (l2 := [.cells (ownG (canonL (recL (0 - a) (0 - a) a a)).length) 2 (prs (canonL (recL (0 - a) (0 - a) a a)))]) (.agg [.int .i64 ((0 - a) + a), .int .i64 ((0 - a) + a), .sl (some (H.length, 0)) ((canonL (recL (0 - a) (0 - a) a a)).length) (capG (canonL (recL (0 - a) (0 - a) a a)).length)]) (resT Tryz.results52) [] rfl [1] (by decide) ⟨by rw [show (0 : Int) - a + a = 0 by omega]; rfl, rfl⟩ ?_)
  exact absW
end Go.Proofs.YtoimakfecmhjkaaGreat

/- Walks by the abstract machine: Sweep. Conditions: as each theorem states. -/
namespace Go.Proofs.YtoimakfecmhjkaaGreat
set_option linter.unusedSimpArgs false
set_option linter.unusedVariables false
open Go.RowKit
set_option maxHeartbeats 4000000 in
set_option maxRecDepth 100000 in
theorem sweep_c (H : AHeap) (x0 : Int) (y0 : Int) (x1 : Int) (y1 : Int) (h : Int) (t : Int) (f : Int) (tu : Int) (le : Int) (sl : Int) (ra : Int) : ACalls Tryz.prog 13 [.agg [.int .i64 x0, .int .i64 y0, .int .i64 x1, .int .i64 y1], .int .i64 h, .agg [.int .i64 t, .int .i64 f], .agg [.int .i64 tu, .int .i64 le, .int .i64 sl, .int .i64 ra]] H (fun v H' => v = .tup [.agg [.int .i64 (mkX (sweE x0 y0 x1 y1 h t f tu le sl ra) (sweX x0 x1 h f le)), .int .i64 (mkX (sweE x0 y0 x1 y1 h t f tu le sl ra) (sweY y0 y1 h f le)), .sl (some (H.length, 0)) ((mkL (sweE x0 y0 x1 y1 h t f tu le sl ra) (sweL x0 y0 x1 y1 h f le sl)).length) (capG (mkL (sweE x0 y0 x1 y1 h t f tu le sl ra) (sweL x0 y0 x1 y1 h f le sl)).length)], .int .i64 (sweE x0 y0 x1 y1 h t f tu le sl ra)] ∧ H' = H ++ [.cells (ownG (mkL (sweE x0 y0 x1 y1 h t f tu le sl ra) (sweL x0 y0 x1 y1 h f le sl)).length) 2 (prs (mkL (sweE x0 y0 x1 y1 h t f tu le sl ra) (sweL x0 y0 x1 y1 h f le sl)))]) := by
  have hwx : (f + le) * (dirV h).1 / (dirV h).2.2 = wayX h (f + le) := rfl
  have hwy : (f + le) * (dirV h).2.1 / (dirV h).2.2 = wayY h (f + le) := rfl
  (refine ACalls_pieces Tryz.func13 _ rfl (Nat.le_of_ble_eq_true (by kernel_rfl)) rfl ?_; intro hbel Q hQ hQ' c hc; unfold Tryz.f13 at hc; simp only [Option.some.injEq] at hc; subst hc; clear hQ')
  refine AW_step false try_mixed (by kernel_rfl) (fun F Hx => look F 1 = .int .i64 h ∧ look F 4 = .ptr (some (H.length, 0)) ∧ look F 6 = .ptr (some (H.length + 1, 0)) ∧ look F 7 = .ptr (some (H.length + 2, 0)) ∧ look F 8 = .ptr (some (H.length + 3, 0)) ∧ look F 9 = .int .i64 0 ∧ Hx = H ++ [.cells true 0 [.int .i64 x0, .int .i64 y0, .int .i64 x1, .int .i64 y1], .cells true 0 [.int .i64 t, .int .i64 f], .cells true 0 [.int .i64 tu, .int .i64 le, .int .i64 sl, .int .i64 ra], .cells true 0 [.int .i64 0, .int .i64 0, .sl none 0 (some 0)]]) ?_ ?_
  · skip
    have g'1 := (jn @hwx @hwy)
    refine runTf g'1 ?_
    refine inv_of ?_
    exact absT
  rintro F Hx ⟨f1, f2, f3, f4, f5, f6, rfl⟩
  refine AW_step false try_mixed (by kernel_rfl) (fun F Hx => within x0 1048576 = true ∧ within y0 1048576 = true ∧ within x1 1048576 = true ∧ within y1 1048576 = true ∧ (btw (x1 - x0) 0 32768) = true ∧ (btw (y1 - y0) 0 32768) = true ∧ cmdB t f = true ∧ bndB tu le sl ra = true ∧ look F 1 = .int .i64 h ∧ look F 4 = .ptr (some (H.length, 0)) ∧ look F 6 = .ptr (some (H.length + 1, 0)) ∧ look F 7 = .ptr (some (H.length + 2, 0)) ∧ look F 8 = .ptr (some (H.length + 3, 0)) ∧ look F 9 = .int .i64 0 ∧ Hx = H ++ [.cells true 0 [.int .i64 x0, .int .i64 y0, .int .i64 x1, .int .i64 y1], .cells true 0 [.int .i64 t, .int .i64 f], .cells true 0 [.int .i64 tu, .int .i64 le, .int .i64 sl, .int .i64 ra], .cells true 0 [.int .i64 0, .int .i64 0, .sl none 0 (some 0)]]) ?_ ?_
  · skip
    have g'2 := (jn @f1 (jn @f2 (jn @f3 (jn @f4 (jn @f5 (jn @f6 (jn @hwx @hwy)))))))
    refine runTf g'2 ?_
    refine call_v (by kernel_rfl) (mnear_c _ x0) ?_
    refine runTf g'2 ?_
    refine gd_split (fun h7 => ?_) (fun h7 => ?_)
    · have h7d := h7
      try simp only [boolset, beq_iff_eq, ne_eq] at h7d
      have hwx0 := within_iff.1 h7d
      have g'3 := (jn @h7 (jn @h7d g'2))
      refine runTf g'3 ?_
      refine call_v (by kernel_rfl) (mnear_c _ y0) ?_
      refine runTf g'3 ?_
      refine gd_split (fun h8 => ?_) (fun h8 => ?_)
      · have h8d := h8
        try simp only [boolset, beq_iff_eq, ne_eq] at h8d
        have hwy0 := within_iff.1 h8d
        have g'4 := (jn @h8 (jn @h8d g'3))
        refine runTf g'4 ?_
        refine call_v (by kernel_rfl) (mnear_c _ x1) ?_
        refine runTf g'4 ?_
        refine gd_split (fun h9 => ?_) (fun h9 => ?_)
        · have h9d := h9
          try simp only [boolset, beq_iff_eq, ne_eq] at h9d
          have hwx1 := within_iff.1 h9d
          have g'5 := (jn @h9 (jn @h9d g'4))
          refine runTf g'5 ?_
          refine call_v (by kernel_rfl) (mnear_c _ y1) ?_
          refine runTf g'5 ?_
          refine gd_split (fun h10 => ?_) (fun h10 => ?_)
          · have h10d := h10
            try simp only [boolset, beq_iff_eq, ne_eq] at h10d
            have hwy1 := within_iff.1 h10d
            have g'6 := (jn @h10 (jn @h10d g'5))
            refine runTf g'6 ?_
            refine call_v (by kernel_rfl) (mwithin_c _ (x1 - x0) 0 32768) ?_
            refine runTf g'6 ?_
            refine gd_split (fun h11 => ?_) (fun h11 => ?_)
            · have h11d := h11
              try simp only [boolset, beq_iff_eq, ne_eq] at h11d
              have g'7 := (jn @h11 (jn @h11d g'6))
              refine runTf g'7 ?_
              refine call_v (by kernel_rfl) (mwithin_c _ (y1 - y0) 0 32768) ?_
              refine runTf g'7 ?_
              refine gd_split (fun h12 => ?_) (fun h12 => ?_)
              · have h12d := h12
                try simp only [boolset, beq_iff_eq, ne_eq] at h12d
                have g'8 := (jn @h12 (jn @h12d g'7))
                refine runTf g'8 ?_
                refine call_v (by kernel_rfl) (vcmd_c _ t f) ?_
                refine runTf g'8 ?_
                refine gd_split (fun h13 => ?_) (fun h13 => ?_)
                · have h13d := h13
                  try simp only [boolset, beq_iff_eq, ne_eq] at h13d
                  have g'9 := (jn @h13 (jn @h13d g'8))
                  refine runTf g'9 ?_
                  refine call_v (by kernel_rfl) (vbnd_c _ tu le sl ra) ?_
                  refine runTf g'9 ?_
                  refine cond_split (fun h14 => ?_) (fun h14 => ?_)
                  · have h14d := h14
                    try simp only [boolset, beq_iff_eq, ne_eq] at h14d
                    have g'10 := (jn @h14 (jn @h14d g'9))
                    refine runTf g'10 ?_
                    refine hQ _ _ (end_byG (.inl rfl) hbel (x1 := .tup [.agg [.int .i64 0, .int .i64 0, .sl none 0 (some 0)], .int .i64 1]) (l2 := [.cells false 2 []]) (.tup [.agg [.int .i64 0, .int .i64 0, .sl (some (H.length, 0)) 0 (some 0)], .int .i64 1]) (resTf (jn @f1 (jn @f2 (jn @f3 (jn @f4 (jn @f5 @f6))))) Tryz.results13) [.cells false 2 []] rfl [4] (by decide) ⟨by first | (simp [mkX, mkL, sweE, sweB, capG_0, ownG_0, prs_nil, h7d, h8d, h9d, h10d, h11d, h12d, h13d, h14d]; done) | (simp [mkX, mkL, sweE, hok, capG_0, ownG_0, prs_nil, h7d, h8d, h9d, h10d, h11d, h12d, h13d, h14d]; done) | (rw [hfinE]; simp only [mkX_0, mkL_0, sweX, sweY, sweL, wayL, hlf, hfinF, if_true, if_false, sw_eq, ← sw_eq0, Int.add_zero]), by first | (simp [mkX, mkL, sweE, sweB, capG_0, ownG_0, prs_nil, h7d, h8d, h9d, h10d, h11d, h12d, h13d, h14d]; done) | (simp [mkX, mkL, sweE, hok, capG_0, ownG_0, prs_nil, h7d, h8d, h9d, h10d, h11d, h12d, h13d, h14d]; done) | (rw [hfinE]; simp only [mkX_0, mkL_0, sweX, sweY, sweL, wayL, hlf, hfinF, if_true, if_false, sw_eq, ← sw_eq0, Int.add_zero])⟩ ?_)
                    exact absW
                  · have h14d := h14
                    try simp only [boolset, beq_iff_eq, ne_eq] at h14d
                    have g'11 := (jn @h14 (jn @h14d g'9))
                    refine runTf g'11 ?_
                    refine inv_of ?_
                    exact absTf (jn @f1 (jn @f2 (jn @f3 (jn @f4 (jn @f5 @f6)))))
                · have h13d := h13
                  try simp only [boolset, beq_iff_eq, ne_eq] at h13d
                  have g'12 := (jn @h13 (jn @h13d g'8))
                  refine runTf g'12 ?_
                  refine hQ _ _ (end_byG (.inl rfl) hbel (x1 := .tup [.agg [.int .i64 0, .int .i64 0, .sl none 0 (some 0)], .int .i64 1]) (l2 := [.cells false 2 []]) (.tup [.agg [.int .i64 0, .int .i64 0, .sl (some (H.length, 0)) 0 (some 0)], .int .i64 1]) (resTf (jn @f1 (jn @f2 (jn @f3 (jn @f4 (jn @f5 @f6))))) Tryz.results13) [.cells false 2 []] rfl [4] (by decide) ⟨by first | (simp [mkX, mkL, sweE, sweB, capG_0, ownG_0, prs_nil, h7d, h8d, h9d, h10d, h11d, h12d, h13d]; done) | (simp [mkX, mkL, sweE, hok, capG_0, ownG_0, prs_nil, h7d, h8d, h9d, h10d, h11d, h12d, h13d]; done) | (rw [hfinE]; simp only [mkX_0, mkL_0, sweX, sweY, sweL, wayL, hlf, hfinF, if_true, if_false, sw_eq, ← sw_eq0, Int.add_zero]), by first | (simp [mkX, mkL, sweE, sweB, capG_0, ownG_0, prs_nil, h7d, h8d, h9d, h10d, h11d, h12d, h13d]; done) | (simp [mkX, mkL, sweE, hok, capG_0, ownG_0, prs_nil, h7d, h8d, h9d, h10d, h11d, h12d, h13d]; done) | (rw [hfinE]; simp only [mkX_0, mkL_0, sweX, sweY, sweL, wayL, hlf, hfinF, if_true, if_false, sw_eq, ← sw_eq0, Int.add_zero])⟩ ?_)
                  exact absW
              · have h12d := h12
                try simp only [boolset, beq_iff_eq, ne_eq] at h12d
                have g'13 := (jn @h12 (jn @h12d g'7))
                refine runTf g'13 ?_
                refine hQ _ _ (end_byG (.inl rfl) hbel (x1 := .tup [.agg [.int .i64 0, .int .i64 0, .sl none 0 (some 0)], .int .i64 1]) (l2 := [.cells false 2 []]) (.tup [.agg [.int .i64 0, .int .i64 0, .sl (some (H.length, 0)) 0 (some 0)], .int .i64 1]) (resTf (jn @f1 (jn @f2 (jn @f3 (jn @f4 (jn @f5 @f6))))) Tryz.results13) [.cells false 2 []] rfl [4] (by decide) ⟨by first | (simp [mkX, mkL, sweE, sweB, capG_0, ownG_0, prs_nil, h7d, h8d, h9d, h10d, h11d, h12d]; done) | (simp [mkX, mkL, sweE, hok, capG_0, ownG_0, prs_nil, h7d, h8d, h9d, h10d, h11d, h12d]; done) | (rw [hfinE]; simp only [mkX_0, mkL_0, sweX, sweY, sweL, wayL, hlf, hfinF, if_true, if_false, sw_eq, ← sw_eq0, Int.add_zero]), by first | (simp [mkX, mkL, sweE, sweB, capG_0, ownG_0, prs_nil, h7d, h8d, h9d, h10d, h11d, h12d]; done) | (simp [mkX, mkL, sweE, hok, capG_0, ownG_0, prs_nil, h7d, h8d, h9d, h10d, h11d, h12d]; done) | (rw [hfinE]; simp only [mkX_0, mkL_0, sweX, sweY, sweL, wayL, hlf, hfinF, if_true, if_false, sw_eq, ← sw_eq0, Int.add_zero])⟩ ?_)
                exact absW
            · have h11d := h11
              try simp only [boolset, beq_iff_eq, ne_eq] at h11d
              have g'14 := (jn @h11 (jn @h11d g'6))
              refine runTf g'14 ?_
              refine hQ _ _ (end_byG (.inl rfl) hbel (x1 := .tup [.agg [.int .i64 0, .int .i64 0, .sl none 0 (some 0)], .int .i64 1]) (l2 := [.cells false 2 []]) (.tup [.agg [.int .i64 0, .int .i64 0, .sl (some (H.length, 0)) 0 (some 0)], .int .i64 1]) (resTf (jn @f1 (jn @f2 (jn @f3 (jn @f4 (jn @f5 @f6))))) Tryz.results13) [.cells false 2 []] rfl [4] (by decide) ⟨by first | (simp [mkX, mkL, sweE, sweB, capG_0, ownG_0, prs_nil, h7d, h8d, h9d, h10d, h11d]; done) | (simp [mkX, mkL, sweE, hok, capG_0, ownG_0, prs_nil, h7d, h8d, h9d, h10d, h11d]; done) | (rw [hfinE]; simp only [mkX_0, mkL_0, sweX, sweY, sweL, wayL, hlf, hfinF, if_true, if_false, sw_eq, ← sw_eq0, Int.add_zero]), by first | (simp [mkX, mkL, sweE, sweB, capG_0, ownG_0, prs_nil, h7d, h8d, h9d, h10d, h11d]; done) | (simp [mkX, mkL, sweE, hok, capG_0, ownG_0, prs_nil, h7d, h8d, h9d, h10d, h11d]; done) | (rw [hfinE]; simp only [mkX_0, mkL_0, sweX, sweY, sweL, wayL, hlf, hfinF, if_true, if_false, sw_eq, ← sw_eq0, Int.add_zero])⟩ ?_)
              exact absW
          · have h10d := h10
            try simp only [boolset, beq_iff_eq, ne_eq] at h10d
            have g'15 := (jn @h10 (jn @h10d g'5))
            refine runTf g'15 ?_
            refine hQ _ _ (end_byG (.inl rfl) hbel (x1 := .tup [.agg [.int .i64 0, .int .i64 0, .sl none 0 (some 0)], .int .i64 1]) (l2 := [.cells false 2 []]) (.tup [.agg [.int .i64 0, .int .i64 0, .sl (some (H.length, 0)) 0 (some 0)], .int .i64 1]) (resTf (jn @f1 (jn @f2 (jn @f3 (jn @f4 (jn @f5 @f6))))) Tryz.results13) [.cells false 2 []] rfl [4] (by decide) ⟨by first | (simp [mkX, mkL, sweE, sweB, capG_0, ownG_0, prs_nil, h7d, h8d, h9d, h10d]; done) | (simp [mkX, mkL, sweE, hok, capG_0, ownG_0, prs_nil, h7d, h8d, h9d, h10d]; done) | (rw [hfinE]; simp only [mkX_0, mkL_0, sweX, sweY, sweL, wayL, hlf, hfinF, if_true, if_false, sw_eq, ← sw_eq0, Int.add_zero]), by first | (simp [mkX, mkL, sweE, sweB, capG_0, ownG_0, prs_nil, h7d, h8d, h9d, h10d]; done) | (simp [mkX, mkL, sweE, hok, capG_0, ownG_0, prs_nil, h7d, h8d, h9d, h10d]; done) | (rw [hfinE]; simp only [mkX_0, mkL_0, sweX, sweY, sweL, wayL, hlf, hfinF, if_true, if_false, sw_eq, ← sw_eq0, Int.add_zero])⟩ ?_)
            exact absW
        · have h9d := h9
          try simp only [boolset, beq_iff_eq, ne_eq] at h9d
          have g'16 := (jn @h9 (jn @h9d g'4))
          refine runTf g'16 ?_
          refine hQ _ _ (end_byG (.inl rfl) hbel (x1 := .tup [.agg [.int .i64 0, .int .i64 0, .sl none 0 (some 0)], .int .i64 1]) (l2 := [.cells false 2 []]) (.tup [.agg [.int .i64 0, .int .i64 0, .sl (some (H.length, 0)) 0 (some 0)], .int .i64 1]) (resTf (jn @f1 (jn @f2 (jn @f3 (jn @f4 (jn @f5 @f6))))) Tryz.results13) [.cells false 2 []] rfl [4] (by decide) ⟨by first | (simp [mkX, mkL, sweE, sweB, capG_0, ownG_0, prs_nil, h7d, h8d, h9d]; done) | (simp [mkX, mkL, sweE, hok, capG_0, ownG_0, prs_nil, h7d, h8d, h9d]; done) | (rw [hfinE]; simp only [mkX_0, mkL_0, sweX, sweY, sweL, wayL, hlf, hfinF, if_true, if_false, sw_eq, ← sw_eq0, Int.add_zero]), by first | (simp [mkX, mkL, sweE, sweB, capG_0, ownG_0, prs_nil, h7d, h8d, h9d]; done) | (simp [mkX, mkL, sweE, hok, capG_0, ownG_0, prs_nil, h7d, h8d, h9d]; done) | (rw [hfinE]; simp only [mkX_0, mkL_0, sweX, sweY, sweL, wayL, hlf, hfinF, if_true, if_false, sw_eq, ← sw_eq0, Int.add_zero])⟩ ?_)
          exact absW
      · have h8d := h8
        try simp only [boolset, beq_iff_eq, ne_eq] at h8d
        have g'17 := (jn @h8 (jn @h8d g'3))
        refine runTf g'17 ?_
        refine hQ _ _ (end_byG (.inl rfl) hbel (x1 := .tup [.agg [.int .i64 0, .int .i64 0, .sl none 0 (some 0)], .int .i64 1]) (l2 := [.cells false 2 []]) (.tup [.agg [.int .i64 0, .int .i64 0, .sl (some (H.length, 0)) 0 (some 0)], .int .i64 1]) (resTf (jn @f1 (jn @f2 (jn @f3 (jn @f4 (jn @f5 @f6))))) Tryz.results13) [.cells false 2 []] rfl [4] (by decide) ⟨by first | (simp [mkX, mkL, sweE, sweB, capG_0, ownG_0, prs_nil, h7d, h8d]; done) | (simp [mkX, mkL, sweE, hok, capG_0, ownG_0, prs_nil, h7d, h8d]; done) | (rw [hfinE]; simp only [mkX_0, mkL_0, sweX, sweY, sweL, wayL, hlf, hfinF, if_true, if_false, sw_eq, ← sw_eq0, Int.add_zero]), by first | (simp [mkX, mkL, sweE, sweB, capG_0, ownG_0, prs_nil, h7d, h8d]; done) | (simp [mkX, mkL, sweE, hok, capG_0, ownG_0, prs_nil, h7d, h8d]; done) | (rw [hfinE]; simp only [mkX_0, mkL_0, sweX, sweY, sweL, wayL, hlf, hfinF, if_true, if_false, sw_eq, ← sw_eq0, Int.add_zero])⟩ ?_)
        exact absW
    · have h7d := h7
      try simp only [boolset, beq_iff_eq, ne_eq] at h7d
      have g'18 := (jn @h7 (jn @h7d g'2))
      refine runTf g'18 ?_
      refine hQ _ _ (end_byG (.inl rfl) hbel (x1 := .tup [.agg [.int .i64 0, .int .i64 0, .sl none 0 (some 0)], .int .i64 1]) (l2 := [.cells false 2 []]) (.tup [.agg [.int .i64 0, .int .i64 0, .sl (some (H.length, 0)) 0 (some 0)], .int .i64 1]) (resTf (jn @f1 (jn @f2 (jn @f3 (jn @f4 (jn @f5 @f6))))) Tryz.results13) [.cells false 2 []] rfl [4] (by decide) ⟨by first | (simp [mkX, mkL, sweE, sweB, capG_0, ownG_0, prs_nil, h7d]; done) | (simp [mkX, mkL, sweE, hok, capG_0, ownG_0, prs_nil, h7d]; done) | (rw [hfinE]; simp only [mkX_0, mkL_0, sweX, sweY, sweL, wayL, hlf, hfinF, if_true, if_false, sw_eq, ← sw_eq0, Int.add_zero]), by first | (simp [mkX, mkL, sweE, sweB, capG_0, ownG_0, prs_nil, h7d]; done) | (simp [mkX, mkL, sweE, hok, capG_0, ownG_0, prs_nil, h7d]; done) | (rw [hfinE]; simp only [mkX_0, mkL_0, sweX, sweY, sweL, wayL, hlf, hfinF, if_true, if_false, sw_eq, ← sw_eq0, Int.add_zero])⟩ ?_)
      exact absW
  rintro F Hx ⟨h15d, h16d, h17d, h18d, h19d, h20d, h21d, h22d, f23, f24, f25, f26, f27, f28, rfl⟩
  have hok : sweB x0 y0 x1 y1 t f tu le sl ra = true := by unfold sweB; rw [h15d, h16d, h17d, h18d, h19d, h20d, h21d, h22d]; rfl
  have hbd := swe_bd hok
  have hre : rectE x0 y0 x1 y1 = 0 := if_pos ⟨by unfold far4; simp only [Bool.and_eq_true, within_iff]; omega, by omega, by omega, by omega, by omega⟩
  have hrs := rec_spr (x0 := x0) (y0 := y0) (x1 := x1) (y1 := y1) (by omega) (by omega)
  have hq1 := sqr_spr (a := 20) (by omega)
  have hq2 := sqr_spr (a := sl + 21) (by omega)
  refine AW_step false try_mixed (by kernel_rfl) (fun F Hx => btw h 0 255 = true ∧ look F 1 = .int .i64 h ∧ look F 4 = .ptr (some (H.length, 0)) ∧ look F 6 = .ptr (some (H.length + 1, 0)) ∧ look F 7 = .ptr (some (H.length + 2, 0)) ∧ look F 8 = .ptr (some (H.length + 3, 0)) ∧ look F 9 = .int .i64 0 ∧ Hx = H ++ [.cells true 0 [.int .i64 x0, .int .i64 y0, .int .i64 x1, .int .i64 y1], .cells true 0 [.int .i64 t, .int .i64 f], .cells true 0 [.int .i64 tu, .int .i64 le, .int .i64 sl, .int .i64 ra], .cells true 0 [.int .i64 0, .int .i64 0, .sl none 0 (some 0)]]) ?_ ?_
  · skip
    have g'19 := (jn @f1 (jn @f2 (jn @f3 (jn @f4 (jn @f5 (jn @f6 (jn @f23 (jn @f24 (jn @f25 (jn @f26 (jn @f27 (jn @f28 (jn @h15d (jn @h16d (jn @h17d (jn @h18d (jn @h19d (jn @h20d (jn @h21d (jn @h22d (jn @hwx @hwy)))))))))))))))))))))
    refine runTf g'19 ?_
    refine call_v (by kernel_rfl) (mwithin_c _ h 0 255) ?_
    refine runTf g'19 ?_
    refine cond_split (fun h29 => ?_) (fun h29 => ?_)
    · have h29d := h29
      try simp only [boolset, beq_iff_eq, ne_eq] at h29d
      have g'20 := (jn @h29 (jn @h29d g'19))
      refine runTf g'20 ?_
      refine hQ _ _ (end_byG (.inl rfl) hbel (x1 := .tup [.agg [.int .i64 0, .int .i64 0, .sl none 0 (some 0)], .int .i64 2]) (l2 := [.cells false 2 []]) (.tup [.agg [.int .i64 0, .int .i64 0, .sl (some (H.length, 0)) 0 (some 0)], .int .i64 2]) (resTf (jn @f1 (jn @f2 (jn @f3 (jn @f4 (jn @f5 (jn @f6 (jn @f23 (jn @f24 (jn @f25 (jn @f26 (jn @f27 @f28))))))))))) Tryz.results13) [.cells false 2 []] rfl [4] (by decide) ⟨by first | (simp [mkX, mkL, sweE, sweB, capG_0, ownG_0, prs_nil, h15d, h16d, h17d, h18d, h19d, h20d, h21d, h22d, h29d]; done) | (simp [mkX, mkL, sweE, hok, capG_0, ownG_0, prs_nil, h15d, h16d, h17d, h18d, h19d, h20d, h21d, h22d, h29d]; done) | (rw [hfinE]; simp only [mkX_0, mkL_0, sweX, sweY, sweL, wayL, hlf, hfinF, if_true, if_false, sw_eq, ← sw_eq0, Int.add_zero]), by first | (simp [mkX, mkL, sweE, sweB, capG_0, ownG_0, prs_nil, h15d, h16d, h17d, h18d, h19d, h20d, h21d, h22d, h29d]; done) | (simp [mkX, mkL, sweE, hok, capG_0, ownG_0, prs_nil, h15d, h16d, h17d, h18d, h19d, h20d, h21d, h22d, h29d]; done) | (rw [hfinE]; simp only [mkX_0, mkL_0, sweX, sweY, sweL, wayL, hlf, hfinF, if_true, if_false, sw_eq, ← sw_eq0, Int.add_zero])⟩ ?_)
      exact absW
    · have h29d := h29
      try simp only [boolset, beq_iff_eq, ne_eq] at h29d
      have g'21 := (jn @h29 (jn @h29d g'19))
      refine runTf g'21 ?_
      refine inv_of ?_
      exact absTf (jn @f1 (jn @f2 (jn @f3 (jn @f4 (jn @f5 (jn @f6 (jn @f23 (jn @f24 (jn @f25 (jn @f26 (jn @f27 @f28)))))))))))
  rintro F Hx ⟨h30d, f31, f32, f33, f34, f35, f36, rfl⟩
  have hfinE : sweE x0 y0 x1 y1 h t f tu le sl ra = 0 := by unfold sweE; rw [hok, h30d]; rfl
  have hz0 : sumE (x0 + x1) (y0 + y1) (canonL (recL x0 y0 x1 y1)) 0 0 (canonL (sqrL 20)) = 0 := sum_ok (by omega) (by omega) (by omega) (by omega) (by simp [recL, sqrL]) (by omega) (by omega)
  refine AW_step false try_mixed (by kernel_rfl) (fun F Hx => look F 1 = .int .i64 h ∧ look F 6 = .ptr (some (H.length + 1, 0)) ∧ look F 7 = .ptr (some (H.length + 2, 0)) ∧ look F 8 = .ptr (some (H.length + 3, 0)) ∧ look F 9 = .int .i64 0 ∧ look F 10 = .ptr (some (H.length + 5, 0)) ∧ Hx = H ++ [.cells true 0 [.int .i64 x0, .int .i64 y0, .int .i64 x1, .int .i64 y1], .cells true 0 [.int .i64 t, .int .i64 f], .cells true 0 [.int .i64 tu, .int .i64 le, .int .i64 sl, .int .i64 ra], .cells true 0 [.int .i64 0, .int .i64 0, .sl none 0 (some 0)], .cells (ownG (canonL (recL x0 y0 x1 y1)).length) 2 (prs (canonL (recL x0 y0 x1 y1))), .cells true 0 [.int .i64 (x0 + x1), .int .i64 (y0 + y1), .sl (some (H.length + 4, 0)) ((canonL (recL x0 y0 x1 y1)).length) (capG (canonL (recL x0 y0 x1 y1)).length)]]) ?_ ?_
  · skip
    have g'22 := (jn @f1 (jn @f2 (jn @f3 (jn @f4 (jn @f5 (jn @f6 (jn @f23 (jn @f24 (jn @f25 (jn @f26 (jn @f27 (jn @f28 (jn @h15d (jn @h16d (jn @h17d (jn @h18d (jn @h19d (jn @h20d (jn @h21d (jn @h22d (jn @f31 (jn @f32 (jn @f33 (jn @f34 (jn @f35 (jn @f36 (jn @h30d (jn @hwx @hwy))))))))))))))))))))))))))))
    refine runTf g'22 ?_
    refine call_v (by kernel_rfl) (ofrect_0 _ x0 y0 x1 y1 (by assumption)) ?_
    refine runTf g'22 ?_
    refine inv_of ?_
    exact absTf (jn @f1 (jn @f2 (jn @f3 (jn @f4 (jn @f5 (jn @f6 (jn @f23 (jn @f24 (jn @f25 (jn @f26 (jn @f27 (jn @f28 (jn @f31 (jn @f32 (jn @f33 (jn @f34 (jn @f35 @f36)))))))))))))))))
  rintro F Hx ⟨f37, f38, f39, f40, f41, f42, rfl⟩
  refine AW_step false try_mixed (by kernel_rfl) (fun F Hx => (f == 0) = false ∧ look F 1 = .int .i64 h ∧ look F 6 = .ptr (some (H.length + 1, 0)) ∧ look F 7 = .ptr (some (H.length + 2, 0)) ∧ look F 8 = .ptr (some (H.length + 3, 0)) ∧ look F 9 = .int .i64 0 ∧ look F 10 = .ptr (some (H.length + 5, 0)) ∧ Hx = H ++ [.cells true 0 [.int .i64 x0, .int .i64 y0, .int .i64 x1, .int .i64 y1], .cells true 0 [.int .i64 t, .int .i64 f], .cells true 0 [.int .i64 tu, .int .i64 le, .int .i64 sl, .int .i64 ra], .cells true 0 [.int .i64 0, .int .i64 0, .sl none 0 (some 0)], .cells (ownG (canonL (recL x0 y0 x1 y1)).length) 2 (prs (canonL (recL x0 y0 x1 y1))), .cells true 0 [.int .i64 (x0 + x1), .int .i64 (y0 + y1), .sl (some (H.length + 4, 0)) ((canonL (recL x0 y0 x1 y1)).length) (capG (canonL (recL x0 y0 x1 y1)).length)]]) ?_ ?_
  · skip
    have g'23 := (jn @f1 (jn @f2 (jn @f3 (jn @f4 (jn @f5 (jn @f6 (jn @f23 (jn @f24 (jn @f25 (jn @f26 (jn @f27 (jn @f28 (jn @h15d (jn @h16d (jn @h17d (jn @h18d (jn @h19d (jn @h20d (jn @h21d (jn @h22d (jn @f31 (jn @f32 (jn @f33 (jn @f34 (jn @f35 (jn @f36 (jn @h30d (jn @f37 (jn @f38 (jn @f39 (jn @f40 (jn @f41 (jn @f42 (jn @hwx @hwy))))))))))))))))))))))))))))))))))
    refine runTf g'23 ?_
    refine cond_split (fun h43 => ?_) (fun h43 => ?_)
    · have h43d := h43
      try simp only [boolset, beq_iff_eq, ne_eq] at h43d
      have hfinF : f = 0 := h43d
      have g'24 := (jn @h43 (jn @h43d (jn @int_bne (jn @int_beq g'23))))
      refine runTf g'24 ?_
      refine call_x (by kernel_rfl) (by simp) (square_c _ 20 (by omega)) ?_
      refine runTf g'24 ?_
      refine call_x (by kernel_rfl) (by simp) (Sum_0 _ (x0 + x1) (y0 + y1) _ (canonL (recL x0 y0 x1 y1)) 0 0 _ (canonL (sqrL 20)) ⟨_, _, _, by first | rfl | (rw [List.length_append]; done) | (rw [List.length_append]; rfl), by first | rfl | (rw [get_newk]; rfl) | (rw [get_new0]; rfl) | (rw [get_newk, prs_append]; rfl) | (rw [get_new0, prs_append]; rfl)⟩ ⟨_, _, _, by first | rfl | (rw [List.length_append]; done) | (rw [List.length_append]; rfl), by first | rfl | (rw [get_newk]; rfl) | (rw [get_new0]; rfl) | (rw [get_newk, prs_append]; rfl) | (rw [get_new0, prs_append]; rfl)⟩ (by assumption)) ?_
      refine runTf g'24 ?_
      refine hQ _ _ (end_byG (.inl rfl) hbel (x1 := .tup [.agg [.int .i64 ((x0 + x1) + 0), .int .i64 ((y0 + y1) + 0), .sl (some (H.length + 7, 0)) ((canonL ((canonL (recL x0 y0 x1 y1)) ++ (canonL (sqrL 20)))).length) (capG (canonL ((canonL (recL x0 y0 x1 y1)) ++ (canonL (sqrL 20)))).length)], .int .i64 0]) (l2 := [.cells (ownG (canonL ((canonL (recL x0 y0 x1 y1)) ++ (canonL (sqrL 20)))).length) 2 (prs (canonL ((canonL (recL x0 y0 x1 y1)) ++ (canonL (sqrL 20)))))]) (.tup [.agg [.int .i64 ((x0 + x1) + 0), .int .i64 ((y0 + y1) + 0), .sl (some (H.length, 0)) ((canonL ((canonL (recL x0 y0 x1 y1)) ++ (canonL (sqrL 20)))).length) (capG (canonL ((canonL (recL x0 y0 x1 y1)) ++ (canonL (sqrL 20)))).length)], .int .i64 0]) (resTf (jn @f1 (jn @f2 (jn @f3 (jn @f4 (jn @f5 (jn @f6 (jn @f23 (jn @f24 (jn @f25 (jn @f26 (jn @f27 (jn @f28 (jn @f31 (jn @f32 (jn @f33 (jn @f34 (jn @f35 (jn @f36 (jn @f37 (jn @f38 (jn @f39 (jn @f40 (jn @f41 @f42))))))))))))))))))))))) Tryz.results13) [] rfl [7] (by decide) ⟨by first | (simp [mkX, mkL, sweE, sweB, capG_0, ownG_0, prs_nil, h15d, h16d, h17d, h18d, h19d, h20d, h21d, h22d, h30d, h43d, hfinE, hfinF]; done) | (simp [mkX, mkL, sweE, hok, capG_0, ownG_0, prs_nil, h15d, h16d, h17d, h18d, h19d, h20d, h21d, h22d, h30d, h43d, hfinE, hfinF]; done) | (rw [hfinE]; simp only [mkX_0, mkL_0, sweX, sweY, sweL, wayL, hlf, hfinF, if_true, if_false, sw_eq, ← sw_eq0, Int.add_zero]), by first | (simp [mkX, mkL, sweE, sweB, capG_0, ownG_0, prs_nil, h15d, h16d, h17d, h18d, h19d, h20d, h21d, h22d, h30d, h43d, hfinE, hfinF]; done) | (simp [mkX, mkL, sweE, hok, capG_0, ownG_0, prs_nil, h15d, h16d, h17d, h18d, h19d, h20d, h21d, h22d, h30d, h43d, hfinE, hfinF]; done) | (rw [hfinE]; simp only [mkX_0, mkL_0, sweX, sweY, sweL, wayL, hlf, hfinF, if_true, if_false, sw_eq, ← sw_eq0, Int.add_zero])⟩ ?_)
      exact absW
    · have h43d := h43
      try simp only [boolset, beq_iff_eq, ne_eq] at h43d
      have g'25 := (jn @h43 (jn @h43d (jn @int_bne (jn @int_beq g'23))))
      refine runTf g'25 ?_
      refine inv_of ?_
      exact absTf (jn @f1 (jn @f2 (jn @f3 (jn @f4 (jn @f5 (jn @f6 (jn @f23 (jn @f24 (jn @f25 (jn @f26 (jn @f27 (jn @f28 (jn @f31 (jn @f32 (jn @f33 (jn @f34 (jn @f35 (jn @f36 (jn @f37 (jn @f38 (jn @f39 (jn @f40 (jn @f41 @f42)))))))))))))))))))))))
  rintro F Hx ⟨h44d, f45, f46, f47, f48, f49, f50, rfl⟩
  have hfinF : ¬ f = 0 := by simpa using h44d
  have hdv := vecOK_iff.1 (dirV_ok h)
  have hpx := mul_bd (a := f + le) (b := (dirV h).1) (A := 48) (B := 8065) (by omega) (by omega)
  have hpy := mul_bd (a := f + le) (b := (dirV h).2.1) (A := 48) (B := 8065) (by omega) (by omega)
  have hwb := way_bd h (m := f + le) (by omega)
  have hws := way_spr (h := h) (m := f + le) (by omega)
  have hwe : segE 0 0 (wayX h (f + le)) (wayY h (f + le)) = 0 := if_pos ⟨by unfold far4; simp only [Bool.and_eq_true, within_iff]; omega, by rw [within_iff]; omega, by rw [within_iff]; omega⟩
  have hz1 : sumE (x0 + x1) (y0 + y1) (canonL (recL x0 y0 x1 y1)) (wayX h (f + le)) (wayY h (f + le)) (canonL [(wayX h (f + le), wayY h (f + le))]) = 0 := sum_ok (by omega) (by omega) (by omega) (by omega) (by simp [recL]) (by omega) (by omega)
  have hz2 : sumE (x0 + x1 + wayX h (f + le)) (y0 + y1 + wayY h (f + le)) (canonL (canonL (recL x0 y0 x1 y1) ++ canonL [(wayX h (f + le), wayY h (f + le))])) 0 0 (canonL (sqrL (sl + 21))) = 0 := sum_ok (by omega) (by omega) (by omega) (by omega) (by have a1 := canonL_len (recL x0 y0 x1 y1); have a2 := canonL_len [(wayX h (f + le), wayY h (f + le))]; have a3 : (recL x0 y0 x1 y1).length = 2 := rfl; have a4 : (sqrL (sl + 21)).length = 2 := rfl; rw [List.length_append]; simp only [List.length_cons, List.length_nil] at a2; omega) (by rw [spr_app, spr_canon, spr_canon]; omega) (by rw [spr_app, spr_canon, spr_canon]; omega)
  refine AW_special false try_mixed [[0, 1, 2, 3, 4, 5, 6, 7, 8, 9], [0, 1, 2, 3, 4, 7, 8, 5, 6, 9], [0, 1, 2, 4, 5, 7, 8, 3, 6, 9], [0, 1, 2, 4, 7, 8, 3, 5, 6, 9], [0, 2, 3, 4, 5, 6, 7, 1, 8, 9], [0, 2, 3, 4, 7, 1, 8, 5, 6, 9], [0, 2, 4, 5, 7, 1, 8, 3, 6, 9], [0, 2, 4, 7, 1, 8, 3, 5, 6, 9]] (by kernel_rfl) (fun F2 H2 => F2 = [(7, .ptr (some (H.length, 0))), (8, .ptr (some (H.length + 1, 0))), (9, .int .i64 0), (10, .ptr (some (H.length + 3, 0))), (12, .ptr (some (H.length + 4, 0))), (13, .int .i64 (f + le))] ∧ H2 = H ++ [.cells true 0 [.int .i64 tu, .int .i64 le, .int .i64 sl, .int .i64 ra], .cells true 0 [.int .i64 0, .int .i64 0, .sl none 0 (some 0)], .cells (ownG (canonL (recL x0 y0 x1 y1)).length) 2 (prs (canonL (recL x0 y0 x1 y1))), .cells true 0 [.int .i64 (x0 + x1), .int .i64 (y0 + y1), .sl (some (H.length + 2, 0)) ((canonL (recL x0 y0 x1 y1)).length) (capG (canonL (recL x0 y0 x1 y1)).length)], .cells true 0 [.int .i64 ((dirV h).1), .int .i64 ((dirV h).2.1), .int .i64 ((dirV h).2.2)]]) ?_ ?_
  · refine reps_cons ?_ (reps_cons ?_ (reps_cons ?_ (reps_cons ?_ (reps_cons ?_ (reps_cons ?_ (reps_cons ?_ (reps_cons ?_ (reps_nil)))))))) <;> intro J hJ
    · skip
      have g'26 := (jn @f1 (jn @f2 (jn @f3 (jn @f4 (jn @f5 (jn @f6 (jn @f23 (jn @f24 (jn @f25 (jn @f26 (jn @f27 (jn @f28 (jn @h15d (jn @h16d (jn @h17d (jn @h18d (jn @h19d (jn @h20d (jn @h21d (jn @h22d (jn @f31 (jn @f32 (jn @f33 (jn @f34 (jn @f35 (jn @f36 (jn @h30d (jn @f37 (jn @f38 (jn @f39 (jn @f40 (jn @f41 (jn @f42 (jn @f45 (jn @f46 (jn @f47 (jn @f48 (jn @f49 (jn @f50 (jn @h44d (jn @hwx @hwy)))))))))))))))))))))))))))))))))))))))))
      refine runDf g'26 ?_
      refine call_d (by kernel_rfl) (dir_c _ h) ?_
      refine runDf g'26 ?_
      refine inv_of (hJ _ _ ⟨_, _, _, ⟨rfl, rfl⟩, Abs.byG hbel [] rfl [2, 3, 4, 5, 6] (by decide) ?_⟩)
      exact absRf (jn @f1 (jn @f2 (jn @f3 (jn @f4 (jn @f5 (jn @f6 (jn @f23 (jn @f24 (jn @f25 (jn @f26 (jn @f27 (jn @f28 (jn @f31 (jn @f32 (jn @f33 (jn @f34 (jn @f35 (jn @f36 (jn @f37 (jn @f38 (jn @f39 (jn @f40 (jn @f41 (jn @f42 (jn @f45 (jn @f46 (jn @f47 (jn @f48 (jn @f49 @f50)))))))))))))))))))))))))))))
    · skip
      have g'27 := (jn @f1 (jn @f2 (jn @f3 (jn @f4 (jn @f5 (jn @f6 (jn @f23 (jn @f24 (jn @f25 (jn @f26 (jn @f27 (jn @f28 (jn @h15d (jn @h16d (jn @h17d (jn @h18d (jn @h19d (jn @h20d (jn @h21d (jn @h22d (jn @f31 (jn @f32 (jn @f33 (jn @f34 (jn @f35 (jn @f36 (jn @h30d (jn @f37 (jn @f38 (jn @f39 (jn @f40 (jn @f41 (jn @f42 (jn @f45 (jn @f46 (jn @f47 (jn @f48 (jn @f49 (jn @f50 (jn @h44d (jn @hwx @hwy)))))))))))))))))))))))))))))))))))))))))
      refine runDf g'27 ?_
      refine call_d (by kernel_rfl) (dir_c _ h) ?_
      refine runDf g'27 ?_
      refine inv_of (hJ _ _ ⟨_, _, _, ⟨rfl, rfl⟩, Abs.byG hbel [] rfl [2, 3, 4, 5, 6] (by decide) ?_⟩)
      exact absRf (jn @f1 (jn @f2 (jn @f3 (jn @f4 (jn @f5 (jn @f6 (jn @f23 (jn @f24 (jn @f25 (jn @f26 (jn @f27 (jn @f28 (jn @f31 (jn @f32 (jn @f33 (jn @f34 (jn @f35 (jn @f36 (jn @f37 (jn @f38 (jn @f39 (jn @f40 (jn @f41 (jn @f42 (jn @f45 (jn @f46 (jn @f47 (jn @f48 (jn @f49 @f50)))))))))))))))))))))))))))))
    · skip
      have g'28 := (jn @f1 (jn @f2 (jn @f3 (jn @f4 (jn @f5 (jn @f6 (jn @f23 (jn @f24 (jn @f25 (jn @f26 (jn @f27 (jn @f28 (jn @h15d (jn @h16d (jn @h17d (jn @h18d (jn @h19d (jn @h20d (jn @h21d (jn @h22d (jn @f31 (jn @f32 (jn @f33 (jn @f34 (jn @f35 (jn @f36 (jn @h30d (jn @f37 (jn @f38 (jn @f39 (jn @f40 (jn @f41 (jn @f42 (jn @f45 (jn @f46 (jn @f47 (jn @f48 (jn @f49 (jn @f50 (jn @h44d (jn @hwx @hwy)))))))))))))))))))))))))))))))))))))))))
      refine runDf g'28 ?_
      refine call_d (by kernel_rfl) (dir_c _ h) ?_
      refine runDf g'28 ?_
      refine inv_of (hJ _ _ ⟨_, _, _, ⟨rfl, rfl⟩, Abs.byG hbel [] rfl [2, 3, 4, 5, 6] (by decide) ?_⟩)
      exact absRf (jn @f1 (jn @f2 (jn @f3 (jn @f4 (jn @f5 (jn @f6 (jn @f23 (jn @f24 (jn @f25 (jn @f26 (jn @f27 (jn @f28 (jn @f31 (jn @f32 (jn @f33 (jn @f34 (jn @f35 (jn @f36 (jn @f37 (jn @f38 (jn @f39 (jn @f40 (jn @f41 (jn @f42 (jn @f45 (jn @f46 (jn @f47 (jn @f48 (jn @f49 @f50)))))))))))))))))))))))))))))
    · skip
      have g'29 := (jn @f1 (jn @f2 (jn @f3 (jn @f4 (jn @f5 (jn @f6 (jn @f23 (jn @f24 (jn @f25 (jn @f26 (jn @f27 (jn @f28 (jn @h15d (jn @h16d (jn @h17d (jn @h18d (jn @h19d (jn @h20d (jn @h21d (jn @h22d (jn @f31 (jn @f32 (jn @f33 (jn @f34 (jn @f35 (jn @f36 (jn @h30d (jn @f37 (jn @f38 (jn @f39 (jn @f40 (jn @f41 (jn @f42 (jn @f45 (jn @f46 (jn @f47 (jn @f48 (jn @f49 (jn @f50 (jn @h44d (jn @hwx @hwy)))))))))))))))))))))))))))))))))))))))))
      refine runDf g'29 ?_
      refine call_d (by kernel_rfl) (dir_c _ h) ?_
      refine runDf g'29 ?_
      refine inv_of (hJ _ _ ⟨_, _, _, ⟨rfl, rfl⟩, Abs.byG hbel [] rfl [2, 3, 4, 5, 6] (by decide) ?_⟩)
      exact absRf (jn @f1 (jn @f2 (jn @f3 (jn @f4 (jn @f5 (jn @f6 (jn @f23 (jn @f24 (jn @f25 (jn @f26 (jn @f27 (jn @f28 (jn @f31 (jn @f32 (jn @f33 (jn @f34 (jn @f35 (jn @f36 (jn @f37 (jn @f38 (jn @f39 (jn @f40 (jn @f41 (jn @f42 (jn @f45 (jn @f46 (jn @f47 (jn @f48 (jn @f49 @f50)))))))))))))))))))))))))))))
    · skip
      have g'30 := (jn @f1 (jn @f2 (jn @f3 (jn @f4 (jn @f5 (jn @f6 (jn @f23 (jn @f24 (jn @f25 (jn @f26 (jn @f27 (jn @f28 (jn @h15d (jn @h16d (jn @h17d (jn @h18d (jn @h19d (jn @h20d (jn @h21d (jn @h22d (jn @f31 (jn @f32 (jn @f33 (jn @f34 (jn @f35 (jn @f36 (jn @h30d (jn @f37 (jn @f38 (jn @f39 (jn @f40 (jn @f41 (jn @f42 (jn @f45 (jn @f46 (jn @f47 (jn @f48 (jn @f49 (jn @f50 (jn @h44d (jn @hwx @hwy)))))))))))))))))))))))))))))))))))))))))
      refine runDf g'30 ?_
      refine call_d (by kernel_rfl) (dir_c _ h) ?_
      refine runDf g'30 ?_
      refine inv_of (hJ _ _ ⟨_, _, _, ⟨rfl, rfl⟩, Abs.byG hbel [] rfl [2, 3, 4, 5, 6] (by decide) ?_⟩)
      exact absRf (jn @f1 (jn @f2 (jn @f3 (jn @f4 (jn @f5 (jn @f6 (jn @f23 (jn @f24 (jn @f25 (jn @f26 (jn @f27 (jn @f28 (jn @f31 (jn @f32 (jn @f33 (jn @f34 (jn @f35 (jn @f36 (jn @f37 (jn @f38 (jn @f39 (jn @f40 (jn @f41 (jn @f42 (jn @f45 (jn @f46 (jn @f47 (jn @f48 (jn @f49 @f50)))))))))))))))))))))))))))))
    · skip
      have g'31 := (jn @f1 (jn @f2 (jn @f3 (jn @f4 (jn @f5 (jn @f6 (jn @f23 (jn @f24 (jn @f25 (jn @f26 (jn @f27 (jn @f28 (jn @h15d (jn @h16d (jn @h17d (jn @h18d (jn @h19d (jn @h20d (jn @h21d (jn @h22d (jn @f31 (jn @f32 (jn @f33 (jn @f34 (jn @f35 (jn @f36 (jn @h30d (jn @f37 (jn @f38 (jn @f39 (jn @f40 (jn @f41 (jn @f42 (jn @f45 (jn @f46 (jn @f47 (jn @f48 (jn @f49 (jn @f50 (jn @h44d (jn @hwx @hwy)))))))))))))))))))))))))))))))))))))))))
      refine runDf g'31 ?_
      refine call_d (by kernel_rfl) (dir_c _ h) ?_
      refine runDf g'31 ?_
      refine inv_of (hJ _ _ ⟨_, _, _, ⟨rfl, rfl⟩, Abs.byG hbel [] rfl [2, 3, 4, 5, 6] (by decide) ?_⟩)
      exact absRf (jn @f1 (jn @f2 (jn @f3 (jn @f4 (jn @f5 (jn @f6 (jn @f23 (jn @f24 (jn @f25 (jn @f26 (jn @f27 (jn @f28 (jn @f31 (jn @f32 (jn @f33 (jn @f34 (jn @f35 (jn @f36 (jn @f37 (jn @f38 (jn @f39 (jn @f40 (jn @f41 (jn @f42 (jn @f45 (jn @f46 (jn @f47 (jn @f48 (jn @f49 @f50)))))))))))))))))))))))))))))
    · skip
      have g'32 := (jn @f1 (jn @f2 (jn @f3 (jn @f4 (jn @f5 (jn @f6 (jn @f23 (jn @f24 (jn @f25 (jn @f26 (jn @f27 (jn @f28 (jn @h15d (jn @h16d (jn @h17d (jn @h18d (jn @h19d (jn @h20d (jn @h21d (jn @h22d (jn @f31 (jn @f32 (jn @f33 (jn @f34 (jn @f35 (jn @f36 (jn @h30d (jn @f37 (jn @f38 (jn @f39 (jn @f40 (jn @f41 (jn @f42 (jn @f45 (jn @f46 (jn @f47 (jn @f48 (jn @f49 (jn @f50 (jn @h44d (jn @hwx @hwy)))))))))))))))))))))))))))))))))))))))))
      refine runDf g'32 ?_
      refine call_d (by kernel_rfl) (dir_c _ h) ?_
      refine runDf g'32 ?_
      refine inv_of (hJ _ _ ⟨_, _, _, ⟨rfl, rfl⟩, Abs.byG hbel [] rfl [2, 3, 4, 5, 6] (by decide) ?_⟩)
      exact absRf (jn @f1 (jn @f2 (jn @f3 (jn @f4 (jn @f5 (jn @f6 (jn @f23 (jn @f24 (jn @f25 (jn @f26 (jn @f27 (jn @f28 (jn @f31 (jn @f32 (jn @f33 (jn @f34 (jn @f35 (jn @f36 (jn @f37 (jn @f38 (jn @f39 (jn @f40 (jn @f41 (jn @f42 (jn @f45 (jn @f46 (jn @f47 (jn @f48 (jn @f49 @f50)))))))))))))))))))))))))))))
    · skip
      have g'33 := (jn @f1 (jn @f2 (jn @f3 (jn @f4 (jn @f5 (jn @f6 (jn @f23 (jn @f24 (jn @f25 (jn @f26 (jn @f27 (jn @f28 (jn @h15d (jn @h16d (jn @h17d (jn @h18d (jn @h19d (jn @h20d (jn @h21d (jn @h22d (jn @f31 (jn @f32 (jn @f33 (jn @f34 (jn @f35 (jn @f36 (jn @h30d (jn @f37 (jn @f38 (jn @f39 (jn @f40 (jn @f41 (jn @f42 (jn @f45 (jn @f46 (jn @f47 (jn @f48 (jn @f49 (jn @f50 (jn @h44d (jn @hwx @hwy)))))))))))))))))))))))))))))))))))))))))
      refine runDf g'33 ?_
      refine call_d (by kernel_rfl) (dir_c _ h) ?_
      refine runDf g'33 ?_
      refine inv_of (hJ _ _ ⟨_, _, _, ⟨rfl, rfl⟩, Abs.byG hbel [] rfl [2, 3, 4, 5, 6] (by decide) ?_⟩)
      exact absRf (jn @f1 (jn @f2 (jn @f3 (jn @f4 (jn @f5 (jn @f6 (jn @f23 (jn @f24 (jn @f25 (jn @f26 (jn @f27 (jn @f28 (jn @f31 (jn @f32 (jn @f33 (jn @f34 (jn @f35 (jn @f36 (jn @f37 (jn @f38 (jn @f39 (jn @f40 (jn @f41 (jn @f42 (jn @f45 (jn @f46 (jn @f47 (jn @f48 (jn @f49 @f50)))))))))))))))))))))))))))))
  rintro F2 H2 ⟨rfl, rfl⟩
  refine AW_special false try_mixed [[0, 1, 2, 3, 4, 5, 6, 7, 8, 9, 10, 11, 12, 13, 14, 15, 16, 17, 18, 19, 20, 21, 22], [0, 1, 2, 3, 4, 5, 6, 7, 8, 9, 10, 11, 12, 13, 14, 15, 20, 16, 17, 18, 19, 21, 22], [0, 1, 2, 3, 4, 5, 6, 7, 8, 9, 10, 11, 12, 13, 20, 14, 15, 16, 17, 18, 19, 21, 22], [0, 1, 2, 3, 4, 5, 6, 8, 9, 10, 11, 12, 13, 20, 7, 14, 15, 16, 17, 18, 19, 21, 22]] (by kernel_rfl) (fun F2 H2 => F2 = [(7, .ptr (some (H.length, 0))), (8, .ptr (some (H.length + 1, 0))), (9, .int .i64 0), (10, .ptr (some (H.length + 3, 0))), (14, .ptr (some (H.length + 5, 0)))] ∧ H2 = H ++ [.cells true 0 [.int .i64 tu, .int .i64 le, .int .i64 sl, .int .i64 ra], .cells true 0 [.int .i64 0, .int .i64 0, .sl none 0 (some 0)], .cells (ownG (canonL (recL x0 y0 x1 y1)).length) 2 (prs (canonL (recL x0 y0 x1 y1))), .cells true 0 [.int .i64 (x0 + x1), .int .i64 (y0 + y1), .sl (some (H.length + 2, 0)) ((canonL (recL x0 y0 x1 y1)).length) (capG (canonL (recL x0 y0 x1 y1)).length)], .cells (ownG (canonL [((wayX h (f + le)), (wayY h (f + le)))]).length) 2 (prs (canonL [((wayX h (f + le)), (wayY h (f + le)))])), .cells true 0 [.int .i64 (wayX h (f + le)), .int .i64 (wayY h (f + le)), .sl (some (H.length + 4, 0)) ((canonL [((wayX h (f + le)), (wayY h (f + le)))]).length) (capG (canonL [((wayX h (f + le)), (wayY h (f + le)))]).length)]]) ?_ ?_
  · refine reps_cons ?_ (reps_cons ?_ (reps_cons ?_ (reps_cons ?_ (reps_nil)))) <;> intro J hJ
    · skip
      have g'34 := (jn @h15d (jn @h16d (jn @h17d (jn @h18d (jn @h19d (jn @h20d (jn @h21d (jn @h22d (jn @h30d (jn @h44d (jn @prs_len (jn @prs_one (jn @hwx @hwy)))))))))))))
      refine runDf g'34 ?_
      refine call_d (by kernel_rfl) (mfloor_c _ ((f + le) * ((dirV h).1)) ((dirV h).2.2) (by omega) (by omega)) ?_
      refine runDf g'34 ?_
      refine call_d (by kernel_rfl) (mfloor_c _ ((f + le) * ((dirV h).2.1)) ((dirV h).2.2) (by omega) (by omega)) ?_
      refine runDf g'34 ?_
      refine call_x (by kernel_rfl) (by simp) (ofway_0 _ (wayX h (f + le)) (wayY h (f + le)) (by assumption)) ?_
      refine runDf g'34 ?_
      refine inv_of (hJ _ _ ⟨_, _, _, ⟨rfl, rfl⟩, Abs.byG hbel [] rfl [0, 1, 2, 3, 5, 6] (by decide) ?_⟩)
      exact absR
    · skip
      have g'35 := (jn @h15d (jn @h16d (jn @h17d (jn @h18d (jn @h19d (jn @h20d (jn @h21d (jn @h22d (jn @h30d (jn @h44d (jn @prs_len (jn @prs_one (jn @hwx @hwy)))))))))))))
      refine runDf g'35 ?_
      refine call_d (by kernel_rfl) (mfloor_c _ ((f + le) * ((dirV h).1)) ((dirV h).2.2) (by omega) (by omega)) ?_
      refine runDf g'35 ?_
      refine call_d (by kernel_rfl) (mfloor_c _ ((f + le) * ((dirV h).2.1)) ((dirV h).2.2) (by omega) (by omega)) ?_
      refine runDf g'35 ?_
      refine call_x (by kernel_rfl) (by simp) (ofway_0 _ (wayX h (f + le)) (wayY h (f + le)) (by assumption)) ?_
      refine runDf g'35 ?_
      refine inv_of (hJ _ _ ⟨_, _, _, ⟨rfl, rfl⟩, Abs.byG hbel [] rfl [0, 1, 2, 3, 6, 5] (by decide) ?_⟩)
      exact absR
    · skip
      have g'36 := (jn @h15d (jn @h16d (jn @h17d (jn @h18d (jn @h19d (jn @h20d (jn @h21d (jn @h22d (jn @h30d (jn @h44d (jn @prs_len (jn @prs_one (jn @hwx @hwy)))))))))))))
      refine runDf g'36 ?_
      refine call_d (by kernel_rfl) (mfloor_c _ ((f + le) * ((dirV h).1)) ((dirV h).2.2) (by omega) (by omega)) ?_
      refine runDf g'36 ?_
      refine call_d (by kernel_rfl) (mfloor_c _ ((f + le) * ((dirV h).2.1)) ((dirV h).2.2) (by omega) (by omega)) ?_
      refine runDf g'36 ?_
      refine call_x (by kernel_rfl) (by simp) (ofway_0 _ (wayX h (f + le)) (wayY h (f + le)) (by assumption)) ?_
      refine runDf g'36 ?_
      refine inv_of (hJ _ _ ⟨_, _, _, ⟨rfl, rfl⟩, Abs.byG hbel [] rfl [0, 1, 2, 3, 6, 5] (by decide) ?_⟩)
      exact absR
    · skip
      have g'37 := (jn @h15d (jn @h16d (jn @h17d (jn @h18d (jn @h19d (jn @h20d (jn @h21d (jn @h22d (jn @h30d (jn @h44d (jn @prs_len (jn @prs_one (jn @hwx @hwy)))))))))))))
      refine runDf g'37 ?_
      refine call_d (by kernel_rfl) (mfloor_c _ ((f + le) * ((dirV h).1)) ((dirV h).2.2) (by omega) (by omega)) ?_
      refine runDf g'37 ?_
      refine call_d (by kernel_rfl) (mfloor_c _ ((f + le) * ((dirV h).2.1)) ((dirV h).2.2) (by omega) (by omega)) ?_
      refine runDf g'37 ?_
      refine call_x (by kernel_rfl) (by simp) (ofway_0 _ (wayX h (f + le)) (wayY h (f + le)) (by assumption)) ?_
      refine runDf g'37 ?_
      refine inv_of (hJ _ _ ⟨_, _, _, ⟨rfl, rfl⟩, Abs.byG hbel [] rfl [0, 1, 2, 3, 6, 5] (by decide) ?_⟩)
      exact absR
  rintro F2 H2 ⟨rfl, rfl⟩
  refine AW_fin false try_mixed (by kernel_rfl) ?_
  have g'38 := (jn @h15d (jn @h16d (jn @h17d (jn @h18d (jn @h19d (jn @h20d (jn @h21d (jn @h22d (jn @h30d (jn @h44d (jn @prs_len (jn @prs_one (jn @hwx @hwy)))))))))))))
  refine runTf g'38 ?_
  refine call_v (by kernel_rfl) (Sum_0 _ (x0 + x1) (y0 + y1) _ (canonL (recL x0 y0 x1 y1)) (wayX h (f + le)) (wayY h (f + le)) _ (canonL [((wayX h (f + le)), (wayY h (f + le)))]) ⟨_, _, _, by first | rfl | (rw [List.length_append]; done) | (rw [List.length_append]; rfl), by first | rfl | (rw [get_newk]; rfl) | (rw [get_new0]; rfl) | (rw [get_newk, prs_append]; rfl) | (rw [get_new0, prs_append]; rfl)⟩ ⟨_, _, _, by first | rfl | (rw [List.length_append]; done) | (rw [List.length_append]; rfl), by first | rfl | (rw [get_newk]; rfl) | (rw [get_new0]; rfl) | (rw [get_newk, prs_append]; rfl) | (rw [get_new0, prs_append]; rfl)⟩ (by assumption)) ?_
  refine runTf g'38 ?_
  refine call_x (by kernel_rfl) (by simp) (square_c _ (sl + 21) (by omega)) ?_
  refine runTf g'38 ?_
  refine call_x (by kernel_rfl) (by simp) (Sum_0 _ ((x0 + x1) + (wayX h (f + le))) ((y0 + y1) + (wayY h (f + le))) _ (canonL ((canonL (recL x0 y0 x1 y1)) ++ (canonL [((wayX h (f + le)), (wayY h (f + le)))]))) 0 0 _ (canonL (sqrL (sl + 21))) ⟨_, _, _, by first | rfl | (rw [List.length_append]; done) | (rw [List.length_append]; rfl), by first | rfl | (rw [get_newk]; rfl) | (rw [get_new0]; rfl) | (rw [get_newk, prs_append]; rfl) | (rw [get_new0, prs_append]; rfl)⟩ ⟨_, _, _, by first | rfl | (rw [List.length_append]; done) | (rw [List.length_append]; rfl), by first | rfl | (rw [get_newk]; rfl) | (rw [get_new0]; rfl) | (rw [get_newk, prs_append]; rfl) | (rw [get_new0, prs_append]; rfl)⟩ (by assumption)) ?_
  refine runTf g'38 ?_
  refine hQ _ _ (end_byG (.inl rfl) hbel (x1 := .tup [.agg [.int .i64 (((x0 + x1) + (wayX h (f + le))) + 0), .int .i64 (((y0 + y1) + (wayY h (f + le))) + 0), .sl (some (H.length + 8, 0)) ((canonL ((canonL ((canonL (recL x0 y0 x1 y1)) ++ (canonL [((wayX h (f + le)), (wayY h (f + le)))]))) ++ (canonL (sqrL (sl + 21))))).length) (capG (canonL ((canonL ((canonL (recL x0 y0 x1 y1)) ++ (canonL [((wayX h (f + le)), (wayY h (f + le)))]))) ++ (canonL (sqrL (sl + 21))))).length)], .int .i64 0]) (l2 := [.cells (ownG (canonL ((canonL ((canonL (recL x0 y0 x1 y1)) ++ (canonL [((wayX h (f + le)), (wayY h (f + le)))]))) ++ (canonL (sqrL (sl + 21))))).length) 2 (prs (canonL ((canonL ((canonL (recL x0 y0 x1 y1)) ++ (canonL [((wayX h (f + le)), (wayY h (f + le)))]))) ++ (canonL (sqrL (sl + 21))))))]) (.tup [.agg [.int .i64 (((x0 + x1) + (wayX h (f + le))) + 0), .int .i64 (((y0 + y1) + (wayY h (f + le))) + 0), .sl (some (H.length, 0)) ((canonL ((canonL ((canonL (recL x0 y0 x1 y1)) ++ (canonL [((wayX h (f + le)), (wayY h (f + le)))]))) ++ (canonL (sqrL (sl + 21))))).length) (capG (canonL ((canonL ((canonL (recL x0 y0 x1 y1)) ++ (canonL [((wayX h (f + le)), (wayY h (f + le)))]))) ++ (canonL (sqrL (sl + 21))))).length)], .int .i64 0]) (resT Tryz.results13) [] rfl [8] (by decide) ⟨by first | (simp [mkX, mkL, sweE, sweB, capG_0, ownG_0, prs_nil, h15d, h16d, h17d, h18d, h19d, h20d, h21d, h22d, h30d, h44d, hfinE, hfinF]; done) | (simp [mkX, mkL, sweE, hok, capG_0, ownG_0, prs_nil, h15d, h16d, h17d, h18d, h19d, h20d, h21d, h22d, h30d, h44d, hfinE, hfinF]; done) | (rw [hfinE]; simp only [mkX_0, mkL_0, sweX, sweY, sweL, wayL, hlf, hfinF, if_true, if_false, sw_eq, ← sw_eq0, Int.add_zero]), by first | (simp [mkX, mkL, sweE, sweB, capG_0, ownG_0, prs_nil, h15d, h16d, h17d, h18d, h19d, h20d, h21d, h22d, h30d, h44d, hfinE, hfinF]; done) | (simp [mkX, mkL, sweE, hok, capG_0, ownG_0, prs_nil, h15d, h16d, h17d, h18d, h19d, h20d, h21d, h22d, h30d, h44d, hfinE, hfinF]; done) | (rw [hfinE]; simp only [mkX_0, mkL_0, sweX, sweY, sweL, wayL, hlf, hfinF, if_true, if_false, sw_eq, ← sw_eq0, Int.add_zero])⟩ ?_)
  exact absW
end Go.Proofs.YtoimakfecmhjkaaGreat

/- Slices of points read off the memory. Conditions: none. -/
namespace Go.Proofs.YtoimakfecmhjkaaGreat
set_option linter.unusedSimpArgs false
set_option linter.unusedVariables false
open Go.RowKit
def prsOf : List AV → Option (List Pt)
  | [] => some []
  | .int .i64 x :: .int .i64 y :: r => (prsOf r).map ((x, y) :: ·)
  | _ => none
theorem prsOf_eq : ∀ (xs : List AV) (l : List Pt), prsOf xs = some l → xs = prs l
  | [], l, h => by simp [prsOf] at h; subst h; rfl
  | .int .i64 x :: .int .i64 y :: r, l, h => by
    simp only [prsOf, Option.map_eq_some_iff] at h
    obtain ⟨m, hm, rfl⟩ := h
    rw [prsOf_eq r m hm]; rfl
  | [x], l, h => by unfold prsOf at h; split at h <;> simp_all
  | x :: y :: r, l, h => by
    unfold prsOf at h
    split at h
    · simp_all
    · rename_i e
      injection e with e1 e2
      injection e2 with e2 e3
      subst e1 e2 e3
      simp only [Option.map_eq_some_iff] at h
      obtain ⟨m, hm, rfl⟩ := h
      rw [prsOf_eq _ m hm]; rfl
    · cases h
/-- The generators of a zonogon's slice. -/
def gensOf (H : AHeap) (s : AV) : Option (List Pt) :=
  match s with
  | .sl (some (b, 0)) n _ => match H[b]? with
    | some (.cells _ 2 xs) => (prsOf xs).bind fun l => bif Nat.beq l.length n then some l else none
    | _ => none
  | _ => none
theorem gensOf_isP {H : AHeap} {s : AV} {l : List Pt} (h : gensOf H s = some l) : SlP H s l := by
  unfold gensOf at h
  split at h
  · rename_i b n c
    split at h
    · rename_i own xs hb
      cases hp : prsOf xs with
      | none => rw [hp] at h; cases h
      | some m =>
        rw [hp, Option.bind_some] at h
        cases hn : Nat.beq m.length n
        · rw [hn] at h; cases h
        · rw [hn, cond_true] at h
          injection h with h
          subst h
          have := Nat.eq_of_beq_eq_true hn
          subst this
          exact ⟨b, own, c, rfl, by rw [hb, prsOf_eq _ _ hp]⟩
    · cases h
  · cases h
theorem TbOk.filter {P : Program} (p : Nat × Bool × Func → Bool) : ∀ {tb : List (Nat × Bool × Func)}, TbOk P tb → TbOk P (tb.filter p)
  | _, .nil => .nil
  | _, .cons (f := f) (q := q) (fn := fn) h1 h2 h3 hr => by
    rw [List.filter_cons]
    split
    · exact .cons h1 h2 h3 (TbOk.filter p hr)
    · exact TbOk.filter p hr
end Go.Proofs.YtoimakfecmhjkaaGreat

/- The functions that the run of chapter 40's awake takes by their contracts. Conditions: none. -/
namespace Go.Proofs.YtoimakfecmhjkaaGreat
set_option linter.unusedSimpArgs false
set_option linter.unusedVariables false
open Go.RowKit
def ext40 : Caller := fun f args H =>
  match args with
  | [.int .i64 h] => bif Nat.beq f 53 then some (.agg [.int .i64 (dirV h).1, .int .i64 (dirV h).2.1, .int .i64 (dirV h).2.2], none) else none
  | [.agg [.int .i64 x0, .int .i64 y0, .int .i64 x1, .int .i64 y1], .int .i64 h, .agg [.int .i64 t, .int .i64 g], .agg [.int .i64 tu, .int .i64 le, .int .i64 sl, .int .i64 ra]] =>
    bif Nat.beq f 13 then some (.tup [.agg [.int .i64 (mkX (sweE x0 y0 x1 y1 h t g tu le sl ra) (sweX x0 x1 h g le)), .int .i64 (mkX (sweE x0 y0 x1 y1 h t g tu le sl ra) (sweY y0 y1 h g le)), .sl (some (H.length, 0)) (mkL (sweE x0 y0 x1 y1 h t g tu le sl ra) (sweL x0 y0 x1 y1 h g le sl)).length (capG (mkL (sweE x0 y0 x1 y1 h t g tu le sl ra) (sweL x0 y0 x1 y1 h g le sl)).length)], .int .i64 (sweE x0 y0 x1 y1 h t g tu le sl ra)],
      some (H ++ [.cells (ownG (mkL (sweE x0 y0 x1 y1 h t g tu le sl ra) (sweL x0 y0 x1 y1 h g le sl)).length) 2 (prs (mkL (sweE x0 y0 x1 y1 h t g tu le sl ra) (sweL x0 y0 x1 y1 h g le sl)))])) else none
  | [.agg [.int .i64 fx, .int .i64 fy], .agg [.int .i64 tx, .int .i64 ty]] => bif Nat.beq f 36 then some (.tup [.int .i64 (towI fx fy tx ty), .int .i64 (towE fx fy tx ty)], none) else none
  | [.agg [.int .i64 x, .int .i64 y, s], .agg [.int .i64 x0, .int .i64 y0, .int .i64 x1, .int .i64 y1]] =>
    bif Nat.beq f 68 then (gensOf H s).map fun l => (.bool (apartB x y l x0 y0 x1 y1), none) else none
  | [.sl none 0 (some 0), .int .i64 n] =>
    bif Nat.beq f 163 && (decide (0 < n) && decide (n ≤ 1000)) then some (.sl (some (H.length, 0)) 0 none, some (H ++ [.cells true 2 []])) else none
  | _ => ext f args H
theorem ext40_ok : CallOk Tryz.prog ext40 := fun f args H x o h => by
  unfold ext40 at h
  split at h
  · rename_i z
    cases hf : Nat.beq f 53
    · rw [hf] at h; cases h
    · rw [hf, cond_true] at h
      have e := Nat.eq_of_beq_eq_true hf
      subst e
      simp only [Option.some.injEq, Prod.mk.injEq] at h
      obtain ⟨rfl, rfl⟩ := h
      exact ⟨by kernel_rfl, Nat.le_refl _, dir_c H z⟩
  · rename_i x0 y0 x1 y1 z t g tu le sl ra
    cases hf : Nat.beq f 13
    · rw [hf] at h; cases h
    · rw [hf, cond_true] at h
      have e := Nat.eq_of_beq_eq_true hf
      subst e
      simp only [Option.some.injEq, Prod.mk.injEq] at h
      obtain ⟨rfl, rfl⟩ := h
      exact ⟨by kernel_rfl, by simp, sweep_c H x0 y0 x1 y1 z t g tu le sl ra⟩
  · rename_i fx fy tx ty
    cases hf : Nat.beq f 36
    · rw [hf] at h; cases h
    · rw [hf, cond_true] at h
      have e := Nat.eq_of_beq_eq_true hf
      subst e
      simp only [Option.some.injEq, Prod.mk.injEq] at h
      obtain ⟨rfl, rfl⟩ := h
      exact ⟨by kernel_rfl, Nat.le_refl _, toward_c H fx fy tx ty⟩
  · rename_i x y s x0 y0 x1 y1
    cases hf : Nat.beq f 68
    · rw [hf] at h; cases h
    · rw [hf, cond_true] at h
      have e := Nat.eq_of_beq_eq_true hf
      subst e
      simp only [Option.map_eq_some_iff, Prod.mk.injEq] at h
      obtain ⟨l1, h1, rfl, rfl⟩ := h
      exact ⟨by kernel_rfl, Nat.le_refl _, apart_c H _ _ _ _ _ _ _ _ (gensOf_isP h1)⟩
  · rename_i n
    cases hf : Nat.beq f 163 && (decide (0 < n) && decide (n ≤ 1000))
    · rw [hf] at h; cases h
    · rw [hf, cond_true] at h
      simp only [Bool.and_eq_true, decide_eq_true_eq] at hf
      obtain ⟨h1, h2, h3⟩ := hf
      have e := Nat.eq_of_beq_eq_true h1
      subst e
      simp only [Option.some.injEq, Prod.mk.injEq] at h
      obtain ⟨rfl, rfl⟩ := h
      obtain ⟨m, rfl⟩ : ∃ m : Nat, n = m := ⟨n.toNat, by omega⟩
      exact ⟨by kernel_rfl, by simp, grow_a (by omega) (by omega)⟩
  · exact ext_ok f args H x o h
/-- The functions that the run enters: all but those. -/
noncomputable def tb40 : List (Nat × Bool × Func) := tb.filter fun p => !Nat.beq p.1 163 && !Nat.beq p.1 53 && !Nat.beq p.1 36
theorem tb40_ok : TbOk Tryz.prog tb40 := tb_ok.filter _
end Go.Proofs.YtoimakfecmhjkaaGreat

/- awake of law 40, by the kernel's own run. Conditions: none. -/
namespace Go.Proofs.YtoimakfecmhjkaaGreat
set_option linter.unusedSimpArgs false
set_option linter.unusedVariables false
open Go.RowKit
theorem awake_a (H : AHeap) : ACalls Tryz.prog 12 [] H (fun v H' => v = .bool true ∧ H' = H) :=
  ACalls.closed (ran try_mixed ext40_ok tb40 tb40_ok 20000 60 (x := .bool true) (o := none) (by kernel_rfl)) rfl rfl H
end Go.Proofs.YtoimakfecmhjkaaGreat

/- Walks by the abstract machine: MotionAims. Conditions: as each theorem states. -/
namespace Go.Proofs.YtoimakfecmhjkaaGreat
set_option linter.unusedSimpArgs false
set_option linter.unusedVariables false
open Go.RowKit
set_option maxHeartbeats 4000000 in
set_option maxRecDepth 100000 in
theorem laims_c (H : AHeap) (x : Int) (y : Int) (h : Int) (tx : Int) (ty : Int) : ACalls Tryz.prog 9 [.agg [.int .i64 x, .int .i64 y, .int .i64 h], .agg [.int .i64 tx, .int .i64 ty]] H (fun v H' => v = .bool true ∧ H' = H) := by
  (refine ACalls_run try_mixed Tryz.func9 true _ rfl (Nat.le_of_ble_eq_true (by kernel_rfl)) (by kernel_rfl) ?_; intro hbel Q hQ hQ' c hc; unfold Tryz.f9 at hc; simp only [Option.some.injEq] at hc; subst hc; clear hQ')
  refine runT ?_
  refine call_v (by kernel_rfl) (awake_a _) ?_
  refine runT ?_
  refine call_v (by kernel_rfl) (aim_c _ x y h tx ty) ?_
  refine runT ?_
  refine call_v (by kernel_rfl) (raim_c _ x y h tx ty) ?_
  refine runT ?_
  refine call_v (by kernel_rfl) (bcmd_c _ (aimT x y h tx ty) (aimF x y h tx ty)) ?_
  refine runT ?_
  exact hQ _ _ (end_plain (.inl rfl) hbel (x := .bool (cmdB (aimT x y h tx ty) (aimF x y h tx ty))) (resT Tryz.results9) rfl ⟨by rw [aim_cmd], rfl⟩)
end Go.Proofs.YtoimakfecmhjkaaGreat
namespace Go.Proofs.YtoimakfecmhjkaaGreat
set_option linter.unusedSimpArgs false
set_option linter.unusedVariables false
open Go.RowKit
set_option maxRecDepth 100000 in
theorem motionAims_top (H : AHeap) (xs : List AV) (hn : xs.length = 2) (hy : ∀ (j : Nat) (t : TypeId) (x : AV), [57, 68][j]? = some t → xs[j]? = some x → ATy Tryz.prog H 9 t x) : ACalls Tryz.prog 9 xs H (fun v H' => v = .bool true ∧ H' = H) := by
  match xs, hn, hy with
  | [a0, a1], _, hy =>
    obtain ⟨ys0, e0, r0_0⟩ := (hy 0 _ a0 rfl rfl).agg (ls := [3, 3, 3]) (by kernel_rfl) (by kernel_rfl)
    obtain ⟨y0_0, q0_0, rfl, t0_0, r0_1⟩ := r0_0.cons
    obtain ⟨z1, rfl, w1⟩ := t0_0.int (k := .i64) (by kernel_rfl)
    obtain ⟨y0_1, q0_1, rfl, t0_1, r0_2⟩ := r0_1.cons
    obtain ⟨z2, rfl, w2⟩ := t0_1.int (k := .i64) (by kernel_rfl)
    obtain ⟨y0_2, q0_2, rfl, t0_2, r0_3⟩ := r0_2.cons
    obtain ⟨z3, rfl, w3⟩ := t0_2.int (k := .i64) (by kernel_rfl)
    obtain rfl := r0_3.nil
    subst e0
    obtain ⟨ys1, e1, r1_0⟩ := (hy 1 _ a1 rfl rfl).agg (ls := [3, 3]) (by kernel_rfl) (by kernel_rfl)
    obtain ⟨y1_0, q1_0, rfl, t1_0, r1_1⟩ := r1_0.cons
    obtain ⟨z4, rfl, w4⟩ := t1_0.int (k := .i64) (by kernel_rfl)
    obtain ⟨y1_1, q1_1, rfl, t1_1, r1_2⟩ := r1_1.cons
    obtain ⟨z5, rfl, w5⟩ := t1_1.int (k := .i64) (by kernel_rfl)
    obtain rfl := r1_2.nil
    subst e1
    exact laims_c H z1 z2 z3 z4 z5
section
open Go.ChangeShapes Go.WideShapes Go.ChangeAt Go.RowKit Go.Joins
open Go.ChangeMaps (open_string shut_string)
set_option maxRecDepth 100000 in
theorem motionAims_lifted (os : Os) (started : os.Started) (H : Type) (enc : TypeId × Value → H) :
    ReturnsInHanded {} Tryz.checked os 9 .any (Rows.motionAimsSpec.pre6 enc Tryz.prog Tryz.f9 Rows.motionAimsRow.domain false) (Rows.motionAimsSpec.post enc Tryz.prog Tryz.f9 false true false false) := by
  refine returnsInHanded_of_change (C := Tryz.checked) own started (by kernel_rfl) Tryz.func9
    (ChangeSpec.witness6 (enc := enc) (C := Tryz.checked) false ⟨#[], #[.agg #[.int .i64 0, .int .i64 0, .int .i64 0], .agg #[.int .i64 0, .int .i64 0]], []⟩ 8 (by kernel_rfl) (by kernel_rfl) (by kernel_rfl) (by kernel_rfl)) ?_
  intro W base args ds gs before hval0 hW hcnd _
  have hval : ∀ (j : Nat) t v, Tryz.f9.params[j]? = some t → args[j]? = some v → Value.okWide Tryz.prog W .any base t v := hval0
  have hW' := hW
  obtain ⟨p, q, hA0, hV, rfl, hfz, hnd⟩ := hW
  have hA : DataW.TrodAll enc Tryz.prog W 0 (fun _ => true) true Tryz.f9.params.toList args.toList ds p := hA0
  rw [Tryz.params9] at hA hval
  have hwalk := calls_top (n := 9) (f := 9) hA (fun j t v a b => hval j t v (by simpa using a) (by simpa using b)) (by kernel_rfl) (fun H xs hn hy => motionAims_top H xs hn hy)
  rw [Array.toArray_toList] at hwalk
  obtain ⟨v0, vs0, d0, ds0, p0, q0, hargs, rfl, rfl, h0, r0⟩ := trodAll_cons hA
  obtain ⟨v1, vs1, d1, ds1, p1, q1, rfl, rfl, rfl, h1, r1⟩ := trodAll_cons r0
  obtain ⟨rfl, rfl, rfl⟩ := trodAll_nil r1
  obtain rfl : args = #[v0, v1] := by cases args; simp_all
  obtain ⟨rfl, rfl⟩ := trodVars_none hV
  have k0 := h0
  have lt0 : ∀ x ∈ p0, x.block < W.heap.size := by obtain ⟨m, hm⟩ := k0; exact DataW.trod_lt m _ _ _ hm
  have k1 := h1
  have lt1 : ∀ x ∈ p1, x.block < W.heap.size := by obtain ⟨m, hm⟩ := k1; exact DataW.trod_lt m _ _ _ hm
  clear hA0 hval0
  refine hwalk.mono fun e W' ⟨he, bel⟩ => ?_
  subst he
  exact ⟨_, rfl, _, _, _, [], _, [], hW', trodAll_mk1 (shut_bool Tryz.underlying4 _), (trodAll_cons_mk (Below.trod laidOut (by kernel_rfl) (of_decide_eq_true (by kernel_rfl)) k0 bel lt0) (trodAll_cons_mk (Below.trod laidOut (by kernel_rfl) (of_decide_eq_true (by kernel_rfl)) k1 bel lt1) trodAll_mk0)), rfl, bel.frame _, fun h => by cases h⟩
theorem motionAims_over : Rows.motionAimsRow.holds Tryz.pinned (OpenSpec.ofChange Rows.motionAimsSpec) :=
  OpenClaim.holds_of_wide 9 Tryz.f9 rfl rfl rfl rfl rfl rfl rfl ⟨rfl, rfl, rfl, rfl, rfl⟩ rfl rfl rfl rfl rfl (by kernel_rfl) Tryz.func9 (by kernel_rfl)
    (of_decide_eq_true (by kernel_rfl)) (by unfold Func.isWrapper; rw [if_neg (by decide +kernel)]; exact ⟨rfl, rfl⟩)
    (fun os started H enc _ => motionAims_lifted os started H enc)
/-- The given statement. -/
theorem motionAims_proved : Rows.MotionAimsSaid := motionAims_over
end
end Go.Proofs.YtoimakfecmhjkaaGreat
