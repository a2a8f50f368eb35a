/- Parts of the proof: walks and plain facts. Conditions: as each theorem states. -/
import Derived.Test.YtoimakfecmhjkaaGreatG3
import Derived.Test.YtoimakfecmhjkaaGreatG2
namespace Go.Proofs.YtoimakfecmhjkaaGreat
set_option linter.unusedSimpArgs false
set_option linter.unusedVariables false
open Go.RowKit
set_option maxHeartbeats 4000000
set_option maxRecDepth 100000
theorem ofrect_c (H : AHeap) (x0 : Int) (y0 : Int) (x1 : Int) (y1 : Int) : ACalls Tryz.prog 50 [.agg [.int .i64 x0, .int .i64 y0, .int .i64 x1, .int .i64 y1]] H (fun v H' => v = .tup [.agg [.int .i64 (mkX (rectE x0 y0 x1 y1) (x0 + x1)), .int .i64 (mkX (rectE x0 y0 x1 y1) (y0 + y1)), .sl (some (H.length, 0)) ((mkL (rectE x0 y0 x1 y1) (canonL [(x1 - x0, 0), (0, y1 - y0)])).length) (capG (mkL (rectE x0 y0 x1 y1) (canonL [(x1 - x0, 0), (0, y1 - y0)])).length)], .int .i64 (rectE x0 y0 x1 y1)] ∧ H' = H ++ [.cells (ownG (mkL (rectE x0 y0 x1 y1) (canonL [(x1 - x0, 0), (0, y1 - y0)])).length) 2 (prs (mkL (rectE x0 y0 x1 y1) (canonL [(x1 - x0, 0), (0, y1 - y0)])))]) := by
  refine AcT true Tryz.func50 ?_; intro hbel Q hQ
  refine runT ?_
  refine call_v (by kernel_rfl) (near_c _ _ [x0, y0, x1, y1] (.inr ⟨_, _, _, by first | rfl | (rw [List.length_append]; rfl), by first | rfl | (rw [get_newk]; rfl) | (rw [get_new0]; rfl) | (rw [get_newk, prs_append]; rfl) | (rw [get_new0, prs_append]; rfl)⟩) (by simp)) ?_
  rw [far4_any]
  refine runT ?_
  refine gd_split (fun h1 => ?_) (fun h1 => ?_)
  · have h1d := h1
    try simp only [Bool.not_eq_true', Bool.not_eq_false', decide_eq_true_eq, decide_eq_false_iff_not, beq_iff_eq, bne_iff_ne, ne_eq, Bool.not_eq_true, Bool.not_eq_false, beq_eq_false_iff_ne, bne_eq_false_iff_eq, Classical.not_not, Bool.and_eq_true, Bool.and_eq_false_imp] at h1d
    have hfar := far4_bd h1d
    have g'1 := (jn @h1 @h1d)
    refine runTf g'1 ?_
    refine gd_split (fun h2 => ?_) (fun h2 => ?_)
    · have h2d := h2
      try simp only [Bool.not_eq_true', Bool.not_eq_false', decide_eq_true_eq, decide_eq_false_iff_not, beq_iff_eq, bne_iff_ne, ne_eq, Bool.not_eq_true, Bool.not_eq_false, beq_eq_false_iff_ne, bne_eq_false_iff_eq, Classical.not_not, Bool.and_eq_true, Bool.and_eq_false_imp] at h2d
      have g'2 := (jn @h2 (jn @h2d g'1))
      refine runTf g'2 ?_
      refine gd_split (fun h3 => ?_) (fun h3 => ?_)
      · have h3d := h3
        try simp only [Bool.not_eq_true', Bool.not_eq_false', decide_eq_true_eq, decide_eq_false_iff_not, beq_iff_eq, bne_iff_ne, ne_eq, Bool.not_eq_true, Bool.not_eq_false, beq_eq_false_iff_ne, bne_eq_false_iff_eq, Classical.not_not, Bool.and_eq_true, Bool.and_eq_false_imp] at h3d
        have g'3 := (jn @h3 (jn @h3d g'2))
        refine runTf g'3 ?_
        refine gd_split (fun h4 => ?_) (fun h4 => ?_)
        · have h4d := h4
          try simp only [Bool.not_eq_true', Bool.not_eq_false', decide_eq_true_eq, decide_eq_false_iff_not, beq_iff_eq, bne_iff_ne, ne_eq, Bool.not_eq_true, Bool.not_eq_false, beq_eq_false_iff_ne, bne_eq_false_iff_eq, Classical.not_not, Bool.and_eq_true, Bool.and_eq_false_imp] at h4d
          have g'4 := (jn @h4 (jn @h4d g'3))
          refine runTf g'4 ?_
          refine cond_split (fun h5 => ?_) (fun h5 => ?_)
          · have h5d := h5
            try simp only [Bool.not_eq_true', Bool.not_eq_false', decide_eq_true_eq, decide_eq_false_iff_not, beq_iff_eq, bne_iff_ne, ne_eq, Bool.not_eq_true, Bool.not_eq_false, beq_eq_false_iff_ne, bne_eq_false_iff_eq, Classical.not_not, Bool.and_eq_true, Bool.and_eq_false_imp] at h5d
            have g'5 := (jn @h5 (jn @h5d g'4))
            refine runTf g'5 ?_
            refine hQ _ _ (end_byG (.inl rfl) hbel (x1 := .tup [.agg [.int .i64 0, .int .i64 0, .sl none 0 (some 0)], .int .i64 1]) (l2 := [.cells false 2 []]) (.tup [.agg [.int .i64 0, .int .i64 0, .sl (some (H.length, 0)) 0 (some 0)], .int .i64 1]) (resT Tryz.results50) [.cells false 2 []] rfl [3] (by decide) ⟨(by first | (simp [mkX, mkL, rectE, capG_0, ownG_0, prs_nil, h1d, h2d, h3d, h4d, h5d]; done) | (rw [show rectE x0 y0 x1 y1 = 1 from if_neg (fun h => by omega)]; rfl) | rw [rectE_bad (fun h => by omega)]; rfl | rw [show rectE x0 y0 x1 y1 = 0 from if_pos ⟨by assumption, by omega, by omega, by omega, by omega⟩]; rfl | rw [rectE_bad (fun h => by simp_all)]; rfl), (by first | (simp [mkX, mkL, rectE, capG_0, ownG_0, prs_nil, h1d, h2d, h3d, h4d, h5d]; done) | (rw [show rectE x0 y0 x1 y1 = 1 from if_neg (fun h => by omega)]; rfl) | rw [rectE_bad (fun h => by omega)]; rfl | rw [show rectE x0 y0 x1 y1 = 0 from if_pos ⟨by assumption, by omega, by omega, by omega, by omega⟩]; rfl | rw [rectE_bad (fun h => by simp_all)]; rfl)⟩ ?_)
            exact absW
          · have h5d := h5
            try simp only [Bool.not_eq_true', Bool.not_eq_false', decide_eq_true_eq, decide_eq_false_iff_not, beq_iff_eq, bne_iff_ne, ne_eq, Bool.not_eq_true, Bool.not_eq_false, beq_eq_false_iff_ne, bne_eq_false_iff_eq, Classical.not_not, Bool.and_eq_true, Bool.and_eq_false_imp] at h5d
            have g'6 := (jn @h5 (jn @h5d g'4))
            refine runTf g'6 ?_
            have hB4 : ∀ e ∈ [((x1 - x0 : Int), (0 : Int)), (0, y1 - y0)], Bd 4194304 e := fun e he => by
              simp only [List.mem_cons, List.not_mem_nil, or_false] at he
              first | (rcases he with rfl | rfl <;> (unfold Bd; simp only; omega)) | (subst he; unfold Bd; simp only; omega)
            refine call_v (by kernel_rfl) (canonical_u _ (x0 + x1) (y0 + y1) _ [(x1 - x0, 0), (0, y1 - y0)] (.inr ⟨_, _, _, by first | rfl | (rw [List.length_append]; rfl), by first | rfl | (rw [get_newk]; rfl) | (rw [get_new0]; rfl) | (rw [get_newk, prs_append]; rfl) | (rw [get_new0, prs_append]; rfl)⟩) (by first | omega | (simp only [List.length_cons, List.length_nil]; omega) | exact Nat.le_trans (mkL_len _ _) (by first | omega | simp) | exact Nat.le_trans (vL_len _ _) (by first | omega | simp) | exact Nat.le_trans corV_len (by omega) | exact Nat.le_trans (canonL_len _) (by first | omega | simp)) (by assumption)) ?_
            refine runTf g'6 ?_
            refine hQ _ _ (end_byG (.inl rfl) hbel (x1 := .tup [.agg [.int .i64 (x0 + x1), .int .i64 (y0 + y1), .sl (some (H.length + 4, 0)) ((canonL [(x1 - x0, 0), (0, y1 - y0)]).length) (capG (canonL [(x1 - x0, 0), (0, y1 - y0)]).length)], .int .i64 0]) (l2 := [.cells (ownG (canonL [(x1 - x0, 0), (0, y1 - y0)]).length) 2 (prs (canonL [(x1 - x0, 0), (0, y1 - y0)]))]) (.tup [.agg [.int .i64 (x0 + x1), .int .i64 (y0 + y1), .sl (some (H.length, 0)) ((canonL [(x1 - x0, 0), (0, y1 - y0)]).length) (capG (canonL [(x1 - x0, 0), (0, y1 - y0)]).length)], .int .i64 0]) (resT Tryz.results50) [] rfl [4] (by decide) ⟨(by first | (simp [mkX, mkL, rectE, capG_0, ownG_0, prs_nil, h1d, h2d, h3d, h4d, h5d]; done) | (rw [show rectE x0 y0 x1 y1 = 1 from if_neg (fun h => by omega)]; rfl) | rw [rectE_bad (fun h => by omega)]; rfl | rw [show rectE x0 y0 x1 y1 = 0 from if_pos ⟨by assumption, by omega, by omega, by omega, by omega⟩]; rfl | rw [rectE_bad (fun h => by simp_all)]; rfl), (by first | (simp [mkX, mkL, rectE, capG_0, ownG_0, prs_nil, h1d, h2d, h3d, h4d, h5d]; done) | (rw [show rectE x0 y0 x1 y1 = 1 from if_neg (fun h => by omega)]; rfl) | rw [rectE_bad (fun h => by omega)]; rfl | rw [show rectE x0 y0 x1 y1 = 0 from if_pos ⟨by assumption, by omega, by omega, by omega, by omega⟩]; rfl | rw [rectE_bad (fun h => by simp_all)]; rfl)⟩ ?_)
            exact absW
        · have h4d := h4
          try simp only [Bool.not_eq_true', Bool.not_eq_false', decide_eq_true_eq, decide_eq_false_iff_not, beq_iff_eq, bne_iff_ne, ne_eq, Bool.not_eq_true, Bool.not_eq_false, beq_eq_false_iff_ne, bne_eq_false_iff_eq, Classical.not_not, Bool.and_eq_true, Bool.and_eq_false_imp] at h4d
          have g'7 := (jn @h4 (jn @h4d g'3))
          refine runTf g'7 ?_
          refine hQ _ _ (end_byG (.inl rfl) hbel (x1 := .tup [.agg [.int .i64 0, .int .i64 0, .sl none 0 (some 0)], .int .i64 1]) (l2 := [.cells false 2 []]) (.tup [.agg [.int .i64 0, .int .i64 0, .sl (some (H.length, 0)) 0 (some 0)], .int .i64 1]) (resT Tryz.results50) [.cells false 2 []] rfl [3] (by decide) ⟨(by first | (simp [mkX, mkL, rectE, capG_0, ownG_0, prs_nil, h1d, h2d, h3d, h4d]; done) | (rw [show rectE x0 y0 x1 y1 = 1 from if_neg (fun h => by omega)]; rfl) | rw [rectE_bad (fun h => by omega)]; rfl | rw [show rectE x0 y0 x1 y1 = 0 from if_pos ⟨by assumption, by omega, by omega, by omega, by omega⟩]; rfl | rw [rectE_bad (fun h => by simp_all)]; rfl), (by first | (simp [mkX, mkL, rectE, capG_0, ownG_0, prs_nil, h1d, h2d, h3d, h4d]; done) | (rw [show rectE x0 y0 x1 y1 = 1 from if_neg (fun h => by omega)]; rfl) | rw [rectE_bad (fun h => by omega)]; rfl | rw [show rectE x0 y0 x1 y1 = 0 from if_pos ⟨by assumption, by omega, by omega, by omega, by omega⟩]; rfl | rw [rectE_bad (fun h => by simp_all)]; rfl)⟩ ?_)
          exact absW
      · have h3d := h3
        try simp only [Bool.not_eq_true', Bool.not_eq_false', decide_eq_true_eq, decide_eq_false_iff_not, beq_iff_eq, bne_iff_ne, ne_eq, Bool.not_eq_true, Bool.not_eq_false, beq_eq_false_iff_ne, bne_eq_false_iff_eq, Classical.not_not, Bool.and_eq_true, Bool.and_eq_false_imp] at h3d
        have g'8 := (jn @h3 (jn @h3d g'2))
        refine runTf g'8 ?_
        refine hQ _ _ (end_byG (.inl rfl) hbel (x1 := .tup [.agg [.int .i64 0, .int .i64 0, .sl none 0 (some 0)], .int .i64 1]) (l2 := [.cells false 2 []]) (.tup [.agg [.int .i64 0, .int .i64 0, .sl (some (H.length, 0)) 0 (some 0)], .int .i64 1]) (resT Tryz.results50) [.cells false 2 []] rfl [3] (by decide) ⟨(by first | (simp [mkX, mkL, rectE, capG_0, ownG_0, prs_nil, h1d, h2d, h3d]; done) | (rw [show rectE x0 y0 x1 y1 = 1 from if_neg (fun h => by omega)]; rfl) | rw [rectE_bad (fun h => by omega)]; rfl | rw [show rectE x0 y0 x1 y1 = 0 from if_pos ⟨by assumption, by omega, by omega, by omega, by omega⟩]; rfl | rw [rectE_bad (fun h => by simp_all)]; rfl), (by first | (simp [mkX, mkL, rectE, capG_0, ownG_0, prs_nil, h1d, h2d, h3d]; done) | (rw [show rectE x0 y0 x1 y1 = 1 from if_neg (fun h => by omega)]; rfl) | rw [rectE_bad (fun h => by omega)]; rfl | rw [show rectE x0 y0 x1 y1 = 0 from if_pos ⟨by assumption, by omega, by omega, by omega, by omega⟩]; rfl | rw [rectE_bad (fun h => by simp_all)]; rfl)⟩ ?_)
        exact absW
    · have h2d := h2
      try simp only [Bool.not_eq_true', Bool.not_eq_false', decide_eq_true_eq, decide_eq_false_iff_not, beq_iff_eq, bne_iff_ne, ne_eq, Bool.not_eq_true, Bool.not_eq_false, beq_eq_false_iff_ne, bne_eq_false_iff_eq, Classical.not_not, Bool.and_eq_true, Bool.and_eq_false_imp] at h2d
      have g'9 := (jn @h2 (jn @h2d g'1))
      refine runTf g'9 ?_
      refine hQ _ _ (end_byG (.inl rfl) hbel (x1 := .tup [.agg [.int .i64 0, .int .i64 0, .sl none 0 (some 0)], .int .i64 1]) (l2 := [.cells false 2 []]) (.tup [.agg [.int .i64 0, .int .i64 0, .sl (some (H.length, 0)) 0 (some 0)], .int .i64 1]) (resT Tryz.results50) [.cells false 2 []] rfl [3] (by decide) ⟨(by first | (simp [mkX, mkL, rectE, capG_0, ownG_0, prs_nil, h1d, h2d]; done) | (rw [show rectE x0 y0 x1 y1 = 1 from if_neg (fun h => by omega)]; rfl) | rw [rectE_bad (fun h => by omega)]; rfl | rw [show rectE x0 y0 x1 y1 = 0 from if_pos ⟨by assumption, by omega, by omega, by omega, by omega⟩]; rfl | rw [rectE_bad (fun h => by simp_all)]; rfl), (by first | (simp [mkX, mkL, rectE, capG_0, ownG_0, prs_nil, h1d, h2d]; done) | (rw [show rectE x0 y0 x1 y1 = 1 from if_neg (fun h => by omega)]; rfl) | rw [rectE_bad (fun h => by omega)]; rfl | rw [show rectE x0 y0 x1 y1 = 0 from if_pos ⟨by assumption, by omega, by omega, by omega, by omega⟩]; rfl | rw [rectE_bad (fun h => by simp_all)]; rfl)⟩ ?_)
      exact absW
  · have h1d := h1
    try simp only [Bool.not_eq_true', Bool.not_eq_false', decide_eq_true_eq, decide_eq_false_iff_not, beq_iff_eq, bne_iff_ne, ne_eq, Bool.not_eq_true, Bool.not_eq_false, beq_eq_false_iff_ne, bne_eq_false_iff_eq, Classical.not_not, Bool.and_eq_true, Bool.and_eq_false_imp] at h1d
    have g'10 := (jn @h1 @h1d)
    refine runTf g'10 ?_
    refine hQ _ _ (end_byG (.inl rfl) hbel (x1 := .tup [.agg [.int .i64 0, .int .i64 0, .sl none 0 (some 0)], .int .i64 1]) (l2 := [.cells false 2 []]) (.tup [.agg [.int .i64 0, .int .i64 0, .sl (some (H.length, 0)) 0 (some 0)], .int .i64 1]) (resT Tryz.results50) [.cells false 2 []] rfl [3] (by decide) ⟨(by first | (simp [mkX, mkL, rectE, capG_0, ownG_0, prs_nil, h1d]; done) | (rw [show rectE x0 y0 x1 y1 = 1 from if_neg (fun h => by omega)]; rfl) | rw [rectE_bad (fun h => by omega)]; rfl | rw [show rectE x0 y0 x1 y1 = 0 from if_pos ⟨by assumption, by omega, by omega, by omega, by omega⟩]; rfl | rw [rectE_bad (fun h => by simp_all)]; rfl), (by first | (simp [mkX, mkL, rectE, capG_0, ownG_0, prs_nil, h1d]; done) | (rw [show rectE x0 y0 x1 y1 = 1 from if_neg (fun h => by omega)]; rfl) | rw [rectE_bad (fun h => by omega)]; rfl | rw [show rectE x0 y0 x1 y1 = 0 from if_pos ⟨by assumption, by omega, by omega, by omega, by omega⟩]; rfl | rw [rectE_bad (fun h => by simp_all)]; rfl)⟩ ?_)
    exact absW
theorem ofseg_c (H : AHeap) (x0 : Int) (y0 : Int) (x1 : Int) (y1 : Int) : ACalls Tryz.prog 54 [.agg [.int .i64 x0, .int .i64 y0], .agg [.int .i64 x1, .int .i64 y1]] H (fun v H' => v = .tup [.agg [.int .i64 (mkX (segE x0 y0 x1 y1) (x0 + x1)), .int .i64 (mkX (segE x0 y0 x1 y1) (y0 + y1)), .sl (some (H.length, 0)) ((mkL (segE x0 y0 x1 y1) (canonL [(x1 - x0, y1 - y0)])).length) (capG (mkL (segE x0 y0 x1 y1) (canonL [(x1 - x0, y1 - y0)])).length)], .int .i64 (segE x0 y0 x1 y1)] ∧ H' = H ++ [.cells (ownG (mkL (segE x0 y0 x1 y1) (canonL [(x1 - x0, y1 - y0)])).length) 2 (prs (mkL (segE x0 y0 x1 y1) (canonL [(x1 - x0, y1 - y0)])))]) := by
  refine AcT true Tryz.func54 ?_; intro hbel Q hQ
  refine runT ?_
  refine call_v (by kernel_rfl) (near_c _ _ [x0, y0, x1, y1] (.inr ⟨_, _, _, by first | rfl | (rw [List.length_append]; rfl), by first | rfl | (rw [get_newk]; rfl) | (rw [get_new0]; rfl) | (rw [get_newk, prs_append]; rfl) | (rw [get_new0, prs_append]; rfl)⟩) (by simp)) ?_
  rw [far4_any]
  refine runT ?_
  refine gd_split (fun h1 => ?_) (fun h1 => ?_)
  · have h1d := h1
    try simp only [Bool.not_eq_true', Bool.not_eq_false', decide_eq_true_eq, decide_eq_false_iff_not, beq_iff_eq, bne_iff_ne, ne_eq, Bool.not_eq_true, Bool.not_eq_false, beq_eq_false_iff_ne, bne_eq_false_iff_eq, Classical.not_not, Bool.and_eq_true, Bool.and_eq_false_imp] at h1d
    have hfar := far4_bd h1d
    have g'11 := (jn @h1 @h1d)
    refine runTf g'11 ?_
    refine call_v (by kernel_rfl) (size_c _ _ _ (by decide)) ?_
    refine runTf g'11 ?_
    refine gd_split (fun h2 => ?_) (fun h2 => ?_)
    · have h2d := h2
      try simp only [Bool.not_eq_true', Bool.not_eq_false', decide_eq_true_eq, decide_eq_false_iff_not, beq_iff_eq, bne_iff_ne, ne_eq, Bool.not_eq_true, Bool.not_eq_false, beq_eq_false_iff_ne, bne_eq_false_iff_eq, Classical.not_not, Bool.and_eq_true, Bool.and_eq_false_imp] at h2d
      have g'12 := (jn @h2 (jn @h2d g'11))
      refine runTf g'12 ?_
      refine call_v (by kernel_rfl) (size_c _ _ _ (by decide)) ?_
      refine runTf g'12 ?_
      refine cond_split (fun h3 => ?_) (fun h3 => ?_)
      · have h3d := h3
        try simp only [Bool.not_eq_true', Bool.not_eq_false', decide_eq_true_eq, decide_eq_false_iff_not, beq_iff_eq, bne_iff_ne, ne_eq, Bool.not_eq_true, Bool.not_eq_false, beq_eq_false_iff_ne, bne_eq_false_iff_eq, Classical.not_not, Bool.and_eq_true, Bool.and_eq_false_imp] at h3d
        have g'13 := (jn @h3 (jn @h3d g'12))
        refine runTf g'13 ?_
        refine hQ _ _ (end_byG (.inl rfl) hbel (x1 := .tup [.agg [.int .i64 0, .int .i64 0, .sl none 0 (some 0)], .int .i64 1]) (l2 := [.cells false 2 []]) (.tup [.agg [.int .i64 0, .int .i64 0, .sl (some (H.length, 0)) 0 (some 0)], .int .i64 1]) (resT Tryz.results54) [.cells false 2 []] rfl [4] (by decide) ⟨by simp [mkX, mkL, segE, capG_0, ownG_0, prs_nil, h1d, h2d, h3d], by simp [mkX, mkL, segE, capG_0, ownG_0, prs_nil, h1d, h2d, h3d]⟩ ?_)
        exact absW
      · have h3d := h3
        try simp only [Bool.not_eq_true', Bool.not_eq_false', decide_eq_true_eq, decide_eq_false_iff_not, beq_iff_eq, bne_iff_ne, ne_eq, Bool.not_eq_true, Bool.not_eq_false, beq_eq_false_iff_ne, bne_eq_false_iff_eq, Classical.not_not, Bool.and_eq_true, Bool.and_eq_false_imp] at h3d
        have g'14 := (jn @h3 (jn @h3d g'12))
        refine runTf g'14 ?_
        have hB4 : ∀ e ∈ [((x1 - x0 : Int), (y1 - y0 : Int))], Bd 4194304 e := fun e he => by
          simp only [List.mem_cons, List.not_mem_nil, or_false] at he
          first | (rcases he with rfl | rfl <;> (unfold Bd; simp only; omega)) | (subst he; unfold Bd; simp only; omega)
        refine call_v (by kernel_rfl) (canonical_u _ (x0 + x1) (y0 + y1) _ [(x1 - x0, y1 - y0)] (.inr ⟨_, _, _, by first | rfl | (rw [List.length_append]; rfl), by first | rfl | (rw [get_newk]; rfl) | (rw [get_new0]; rfl) | (rw [get_newk, prs_append]; rfl) | (rw [get_new0, prs_append]; rfl)⟩) (by first | omega | (simp only [List.length_cons, List.length_nil]; omega) | exact Nat.le_trans (mkL_len _ _) (by first | omega | simp) | exact Nat.le_trans (vL_len _ _) (by first | omega | simp) | exact Nat.le_trans corV_len (by omega) | exact Nat.le_trans (canonL_len _) (by first | omega | simp)) (by assumption)) ?_
        refine runTf g'14 ?_
        refine hQ _ _ (end_byG (.inl rfl) hbel (x1 := .tup [.agg [.int .i64 (x0 + x1), .int .i64 (y0 + y1), .sl (some (H.length + 5, 0)) ((canonL [(x1 - x0, y1 - y0)]).length) (capG (canonL [(x1 - x0, y1 - y0)]).length)], .int .i64 0]) (l2 := [.cells (ownG (canonL [(x1 - x0, y1 - y0)]).length) 2 (prs (canonL [(x1 - x0, y1 - y0)]))]) (.tup [.agg [.int .i64 (x0 + x1), .int .i64 (y0 + y1), .sl (some (H.length, 0)) ((canonL [(x1 - x0, y1 - y0)]).length) (capG (canonL [(x1 - x0, y1 - y0)]).length)], .int .i64 0]) (resT Tryz.results54) [] rfl [5] (by decide) ⟨by simp [mkX, mkL, segE, capG_0, ownG_0, prs_nil, h1d, h2d, h3d], by simp [mkX, mkL, segE, capG_0, ownG_0, prs_nil, h1d, h2d, h3d]⟩ ?_)
        exact absW
    · have h2d := h2
      try simp only [Bool.not_eq_true', Bool.not_eq_false', decide_eq_true_eq, decide_eq_false_iff_not, beq_iff_eq, bne_iff_ne, ne_eq, Bool.not_eq_true, Bool.not_eq_false, beq_eq_false_iff_ne, bne_eq_false_iff_eq, Classical.not_not, Bool.and_eq_true, Bool.and_eq_false_imp] at h2d
      have g'15 := (jn @h2 (jn @h2d g'11))
      refine runTf g'15 ?_
      refine hQ _ _ (end_byG (.inl rfl) hbel (x1 := .tup [.agg [.int .i64 0, .int .i64 0, .sl none 0 (some 0)], .int .i64 1]) (l2 := [.cells false 2 []]) (.tup [.agg [.int .i64 0, .int .i64 0, .sl (some (H.length, 0)) 0 (some 0)], .int .i64 1]) (resT Tryz.results54) [.cells false 2 []] rfl [4] (by decide) ⟨by simp [mkX, mkL, segE, capG_0, ownG_0, prs_nil, h1d, h2d], by simp [mkX, mkL, segE, capG_0, ownG_0, prs_nil, h1d, h2d]⟩ ?_)
      exact absW
  · have h1d := h1
    try simp only [Bool.not_eq_true', Bool.not_eq_false', decide_eq_true_eq, decide_eq_false_iff_not, beq_iff_eq, bne_iff_ne, ne_eq, Bool.not_eq_true, Bool.not_eq_false, beq_eq_false_iff_ne, bne_eq_false_iff_eq, Classical.not_not, Bool.and_eq_true, Bool.and_eq_false_imp] at h1d
    have g'16 := (jn @h1 @h1d)
    refine runTf g'16 ?_
    refine hQ _ _ (end_byG (.inl rfl) hbel (x1 := .tup [.agg [.int .i64 0, .int .i64 0, .sl none 0 (some 0)], .int .i64 1]) (l2 := [.cells false 2 []]) (.tup [.agg [.int .i64 0, .int .i64 0, .sl (some (H.length, 0)) 0 (some 0)], .int .i64 1]) (resT Tryz.results54) [.cells false 2 []] rfl [4] (by decide) ⟨by simp [mkX, mkL, segE, capG_0, ownG_0, prs_nil, h1d], by simp [mkX, mkL, segE, capG_0, ownG_0, prs_nil, h1d]⟩ ?_)
    exact absW
open Go.RowKit Go.Sort
set_option maxRecDepth 100000 in
theorem grow_a {H : AHeap} {n : Nat} (h0 : 0 < n) (h1 : n ≤ 1000) : ACalls Tryz.prog 163 [.sl none 0 (some 0), .int .i64 n] H
    (fun v H' => v = .sl (some (H.length, 0)) 0 none ∧ H' = H ++ [.cells true 2 []]) := fun E w vs hE hv => by
  obtain ⟨v1, l1, rfl, k1, h1'⟩ := rels_cons hv
  obtain ⟨v2, l2, rfl, k2, h2'⟩ := rels_cons h1'
  obtain rfl := rels_nil h2'
  obtain rfl := rel_int k2
  obtain rfl : v1 = .slice none 0 0 := by cases k1; rfl
  have hby : Tryz.prog.types[Tryz.grow163_ren.t 25].bytes = 16 := by kernel_rfl
  have h := Any8.slices_Grow_grow Tryz.grow163 _ _ rfl rfl (by decide) none 0 0 n [] w (Nat.le_refl _) (by omega) (by rw [hby]; omega) (by omega) rfl (fun _ => rfl) (fun a ha => by cases ha)
  refine Calls.mono h ?_
  rintro e w' ⟨rfl, rfl⟩
  have g1 := grownCap_ge w (0 + n) 0 (Tryz.grow163_ren.t 25)
  have g2 := grownCap_le_maxLen w (0 + n) 0 (Tryz.grow163_ren.t 25) (by unfold maxLen; omega)
  generalize grownCap w (0 + n) 0 (Tryz.grow163_ren.t 25) = G at *
  clear hby h
  generalize ht : Tryz.grow163_ren.t 25 = t at *
  have hsz : (#[] ++ Builtin.zeroCells (Value.agg #[Value.int .i64 0, Value.int .i64 0]).cells (0 + n - 0) ++ Builtin.zeroCells (Value.agg #[Value.int .i64 0, Value.int .i64 0]).cells (G - (0 + n))).size = G * 2 := by
    have e : (Value.agg #[Value.int .i64 0, Value.int .i64 0]).cells.size = 2 := rfl
    rw [Array.size_append, Array.size_append, size_zeroCells, size_zeroCells, e]
    simp; omega
  generalize (#[] ++ Builtin.zeroCells (Value.agg #[Value.int .i64 0, Value.int .i64 0]).cells (0 + n - 0) ++ Builtin.zeroCells (Value.agg #[Value.int .i64 0, Value.int .i64 0]).cells (G - (0 + n))) = arr at *
  have hb : Below w.heap.size w (w.drew.alloc (.cells arr t)) := (below_drewN (Below.refl _ _) 1).alloc (Nat.le_refl _) _
  refine ⟨E.push ⟨w.heap.size, 0, G * 2, 2⟩, _, _, .sl (some (H.length, 0)) 0 none, rfl, ⟨rfl, rfl⟩, E.le_push _, ?_, ?_⟩
  · have e1 : (E.push ⟨w.heap.size, 0, G * 2, 2⟩).loc H.length = ⟨w.heap.size, 0, G * 2, 2⟩ := by rw [← hE.n]; exact Env.push_new _ _
    refine .sl _ _ _ _ _ _ (by simp [Env.push, hE.n]) (Nat.zero_le _) g2 (.inl rfl) (.inr (by rw [e1])) ?_
    rw [e1]; simp
  · refine hE.grow (row := none) ⟨hb.os, hb.tape, hb.output, hb.size, fun k hk _ => hb.block k hk⟩ (fun k hk => by cases hk) rfl (fun c x hx => .inr ⟨hx, fun _ => by simp⟩) _ _ ?_ (fun c x hx ho => ?_)
    · refine ⟨fun j x hj => by simp at hj, fun _ => ⟨hE.base, ?_, rfl, Nat.zero_le _, fun j hj => ?_⟩, (fun hf => by cases hf), rfl⟩
      · show w.heap.size < (w.drew.heap.push _).size
        rw [Array.size_push]; exact Nat.lt_succ_self _
      · have e1 := World.cell?_alloc_at (w := w.drew) arr t w.heap.size (0 + j) rfl
        have e2 := World.frozen?_alloc_at (w := w.drew) arr t w.heap.size (0 + j) rfl
        refine ⟨?_, e2⟩
        have hj' : j < G * 2 := hj
        rw [e1, Array.getElem?_eq_getElem (by rw [hsz]; omega)]; rfl
    · have := hE.ownLt hx ho
      show (E.loc c).blk ≠ w.heap.size
      omega
open Go.RowKit
theorem prs_all {l : List Pt} : (prs l).take (l.length * 2) = prs l := by rw [prs_take, List.take_length]
def pre2 (a b : Nat) : Nat → Nat
  | 0 => 0
  | 1 => a
  | _ + 2 => a + b
def appL (l m : List Pt) : Nat → List Pt
  | 0 => []
  | 1 => l
  | _ + 2 => l ++ m
theorem grow_0 {H : AHeap} {n : Int} (hn : n = 0) : ACalls Tryz.prog 163 [.sl none 0 (some 0), .int .i64 n] H
    (fun v H' => v = .sl none 0 (some 0) ∧ H' = H) := fun E w vs hE hv => by
  obtain ⟨v1, l1, rfl, k1, h1'⟩ := rels_cons hv
  obtain ⟨v2, l2, rfl, k2, h2'⟩ := rels_cons h1'
  obtain rfl := rels_nil h2'
  obtain rfl := rel_int k2
  subst hn
  obtain rfl : v1 = .slice none 0 0 := by cases k1; rfl
  have h := Any8.slices_Grow_room Tryz.grow163 none 0 0 0 w (Nat.le_refl _) (by omega) (by omega) (by omega)
  refine Calls.mono h ?_
  rintro e w' ⟨rfl, rfl⟩
  exact ⟨E, _, _, _, rfl, ⟨rfl, rfl⟩, Env.le.refl E, .nilsl, hE⟩
theorem concat_0m (H : AHeap) (s : AV) (t : AV) (m : List (Int × Int)) (w : AV) (hs : Sl H 2 s 0 []) (ht : Sl H 2 t m.length (prs m)) (hw : Sl H 1 w 2 [s, t]) (hl0 : 0 < m.length) (hl1 : m.length ≤ 500) : ACalls Tryz.prog 110 [w] H (fun v H' => v = .sl (some (H.length, 0)) m.length (capG m.length) ∧ H' = H ++ [.cells (ownG m.length) 2 (prs m)]) := by
  obtain ⟨bs, os, cs, rfl, hbs⟩ := hs
  have hbls := getElem?_lt hbs
  have hb0s := fun l => get_app (l := l) hbs
  obtain ⟨bt, ot, ct, rfl, hbt⟩ := ht
  have hblt := getElem?_lt hbt
  have hb0t := fun l => get_app (l := l) hbt
  obtain ⟨bw, ow, cw, rfl, hbw⟩ := hw
  have hblw := getElem?_lt hbw
  have hb0w := fun l => get_app (l := l) hbw
  have hz : (m.length == 0) = false := beq_eq_false_iff_ne.2 (by omega)
  have hs0 : (((pre2 0 m.length 0) : Nat) : Int) + 0 = (((pre2 0 m.length 1) : Nat) : Int) := by simp [pre2]
  have hs1 : (((pre2 0 m.length 1) : Nat) : Int) + ((m.length : Nat) : Int) = (((pre2 0 m.length 2) : Nat) : Int) := by simp [pre2]
  have hb1 : (pre2 0 m.length 1) ≤ 500 := by simp only [pre2]; omega
  have hb2 : (pre2 0 m.length 2) ≤ 1000 := by simp only [pre2]; omega
  have hn1 : (((pre2 0 m.length 1) : Nat) : Int) < 0 ↔ False := ⟨fun h => by omega, fun h => h.elim⟩
  have hn2 : (((pre2 0 m.length 2) : Nat) : Int) < 0 ↔ False := ⟨fun h => by omega, fun h => h.elim⟩
  refine AcT true Tryz.func110 ?_; intro hbel Q hQ
  have g'1 := (jn @hbs (jn @hb0s (jn @hbt (jn @hb0t (jn @hbw (jn @hb0w (jn @hs0 (jn @hs1 (jn @hn1 (jn @hn2 (jn @decide_false (jn @hz (jn @appL.eq_1 (jn @appL.eq_2 (jn @appL.eq_3 (jn @prs_nil (jn @List.length_nil.{0} (jn @Nat.zero_add @List.nil_append.{0}))))))))))))))))))
  refine runTf g'1 ?_
  refine go_loop try_mixed (by kernel_rfl) (fun k F Hx => ∃ j : Nat, j + k = 2 ∧ F = [(0, .sl (some (bw, 0)) 2 cw), (3, .int .i64 (((pre2 0 m.length j) : Nat) : Int)), (9, .sl (some (bw, 0)) 2 cw), (10, .int .i64 2), (11, .int .i64 ((j : Nat) : Int))] ∧ H = Hx) (2) ?_ ?_
  · refine ⟨_, _, _, ⟨0, by omega, rfl, rfl⟩, Abs.by0 hbel ?_⟩
    exact absWf (jn @pre2.eq_1 (jn @Int.natCast_zero @Int.ofNat_zero))
  · rintro k0 F Hx ⟨j, hm0, rfl, rfl⟩ J0 hJ0
    refine runTf g'1 ?_
    refine cond_split (fun h1 => ?_) (fun h1 => ?_)
    · have h1d := h1
      try simp only [Bool.not_eq_true', Bool.not_eq_false', decide_eq_true_eq, decide_eq_false_iff_not, beq_iff_eq, bne_iff_ne, ne_eq, Bool.not_eq_true, Bool.not_eq_false, beq_eq_false_iff_ne, bne_eq_false_iff_eq, Classical.not_not, Bool.and_eq_true, Bool.and_eq_false_imp] at h1d
      obtain rfl | rfl := (by omega : j = 0 ∨ j = 1)
      · skip
        have g'2 := (jn @h1 (jn @h1d g'1))
        refine runTf g'2 ?_
        refine hJ0 _ _ ⟨k0 - 1, by omega, _, _, _, ⟨0 + 1, by omega, rfl, rfl⟩, Abs.by0 hbel ?_⟩
        exact absWf (jn @hs0 @hs1)
      · skip
        have g'3 := (jn @h1 (jn @h1d g'1))
        refine runTf g'3 ?_
        refine hJ0 _ _ ⟨k0 - 1, by omega, _, _, _, ⟨1 + 1, by omega, rfl, rfl⟩, Abs.by0 hbel ?_⟩
        exact absWf (jn @hs0 @hs1)
    · have h1d := h1
      try simp only [Bool.not_eq_true', Bool.not_eq_false', decide_eq_true_eq, decide_eq_false_iff_not, beq_iff_eq, bne_iff_ne, ne_eq, Bool.not_eq_true, Bool.not_eq_false, beq_eq_false_iff_ne, bne_eq_false_iff_eq, Classical.not_not, Bool.and_eq_true, Bool.and_eq_false_imp] at h1d
      obtain rfl : j = 2 := by omega
      have g'4 := (jn @h1 (jn @h1d g'1))
      refine runTf g'4 ?_
      refine call_v (by kernel_rfl) (grow_a (n := (pre2 0 m.length 2)) (by simp [pre2]; omega) (by omega)) ?_
      refine runTf g'4 ?_
      refine go_loop try_mixed (by kernel_rfl) (fun k F Hx => ∃ j : Nat, j + k = 2 ∧ F = [(6, .sl (some (H.length, 0)) ((appL [] m j).length) none), (25, .sl (some (bw, 0)) 2 cw), (26, .int .i64 2), (27, .int .i64 ((j : Nat) : Int))] ∧ Hx = H ++ [.cells true 2 (prs (appL [] m j))]) (2) ?_ ?_
      · refine ⟨_, _, _, ⟨0, by omega, rfl, rfl⟩, Abs.byG hbel [] rfl [0] (by decide) ?_⟩
        exact absRf @appL.eq_1
      · rintro k1 F Hx ⟨j, hm1, rfl, rfl⟩ J1 hJ1
        have g'5 := (jn @prs_len (jn @prs_one g'4))
        refine runTf g'5 ?_
        refine cond_split (fun h2 => ?_) (fun h2 => ?_)
        · have h2d := h2
          try simp only [Bool.not_eq_true', Bool.not_eq_false', decide_eq_true_eq, decide_eq_false_iff_not, beq_iff_eq, bne_iff_ne, ne_eq, Bool.not_eq_true, Bool.not_eq_false, beq_eq_false_iff_ne, bne_eq_false_iff_eq, Classical.not_not, Bool.and_eq_true, Bool.and_eq_false_imp] at h2d
          obtain rfl | rfl := (by omega : j = 0 ∨ j = 1)
          · skip
            have g'6 := (jn @h2 (jn @h2d g'5))
            refine runTf g'6 ?_
            refine hJ1 _ _ ⟨k1 - 1, by omega, _, _, _, ⟨0 + 1, by omega, rfl, rfl⟩, Abs.byG hbel [] rfl [0] (by decide) ?_⟩
            exact absRf (jn @appL.eq_1 (jn @appL.eq_2 @appL.eq_3))
          · skip
            have g'7 := (jn @h2 (jn @h2d (jn @prs_all g'5)))
            refine runTf g'7 ?_
            refine hJ1 _ _ ⟨k1 - 1, by omega, _, _, _, ⟨1 + 1, by omega, rfl, rfl⟩, Abs.byG hbel [] rfl [1] (by decide) ?_⟩
            exact absRf (jn @appL.eq_1 (jn @appL.eq_2 @appL.eq_3))
        · have h2d := h2
          try simp only [Bool.not_eq_true', Bool.not_eq_false', decide_eq_true_eq, decide_eq_false_iff_not, beq_iff_eq, bne_iff_ne, ne_eq, Bool.not_eq_true, Bool.not_eq_false, beq_eq_false_iff_ne, bne_eq_false_iff_eq, Classical.not_not, Bool.and_eq_true, Bool.and_eq_false_imp] at h2d
          obtain rfl : j = 2 := by omega
          have g'8 := (jn @h2 (jn @h2d g'5))
          refine runTf g'8 ?_
          refine hQ _ _ (end_byG (.inl rfl) hbel (x1 := .sl (some (H.length, 0)) ((appL [] m 2).length) none) (l2 := [.cells true 2 (prs (appL [] m 2))]) (.sl (some (H.length, 0)) ((appL [] m 2).length) none) (resTf (jn @appL.eq_3 @List.nil_append.{0}) Tryz.results110) [] rfl [0] (by decide) ⟨by simp [appL, capG_p hl0, ownG_p hl0], by simp [appL, capG_p hl0, ownG_p hl0]⟩ ?_)
          exact absW
theorem concat_lm (H : AHeap) (s : AV) (l : List (Int × Int)) (t : AV) (m : List (Int × Int)) (w : AV) (hs : Sl H 2 s l.length (prs l)) (ht : Sl H 2 t m.length (prs m)) (hw : Sl H 1 w 2 [s, t]) (hl0 : 0 < l.length) (hl1 : l.length ≤ 500) (hl2 : m.length ≤ 500) : ACalls Tryz.prog 110 [w] H (fun v H' => v = .sl (some (H.length, 0)) ((l ++ m).length) (capG (l ++ m).length) ∧ H' = H ++ [.cells (ownG (l ++ m).length) 2 (prs (l ++ m))]) := by
  obtain ⟨bs, os, cs, rfl, hbs⟩ := hs
  have hbls := getElem?_lt hbs
  have hb0s := fun l => get_app (l := l) hbs
  obtain ⟨bt, ot, ct, rfl, hbt⟩ := ht
  have hblt := getElem?_lt hbt
  have hb0t := fun l => get_app (l := l) hbt
  obtain ⟨bw, ow, cw, rfl, hbw⟩ := hw
  have hblw := getElem?_lt hbw
  have hb0w := fun l => get_app (l := l) hbw
  have hz : (l.length == 0) = false := beq_eq_false_iff_ne.2 (by omega)
  have hz2 : (l.length + m.length == 0) = false := beq_eq_false_iff_ne.2 (by omega)
  have hs0 : (((pre2 l.length m.length 0) : Nat) : Int) + ((l.length : Nat) : Int) = (((pre2 l.length m.length 1) : Nat) : Int) := by simp [pre2]
  have hs1 : (((pre2 l.length m.length 1) : Nat) : Int) + ((m.length : Nat) : Int) = (((pre2 l.length m.length 2) : Nat) : Int) := by simp [pre2]
  have hb1 : (pre2 l.length m.length 1) ≤ 500 := by simp only [pre2]; omega
  have hb2 : (pre2 l.length m.length 2) ≤ 1000 := by simp only [pre2]; omega
  have hn1 : (((pre2 l.length m.length 1) : Nat) : Int) < 0 ↔ False := ⟨fun h => by omega, fun h => h.elim⟩
  have hn2 : (((pre2 l.length m.length 2) : Nat) : Int) < 0 ↔ False := ⟨fun h => by omega, fun h => h.elim⟩
  refine AcT true Tryz.func110 ?_; intro hbel Q hQ
  have g'9 := (jn @hbs (jn @hb0s (jn @hbt (jn @hb0t (jn @hbw (jn @hb0w (jn @hs0 (jn @hs1 (jn @hn1 (jn @hn2 (jn @decide_false (jn @hz (jn @hz2 (jn @appL.eq_1 (jn @appL.eq_2 (jn @appL.eq_3 (jn @prs_nil (jn @List.length_nil.{0} (jn @Nat.zero_add @List.nil_append.{0})))))))))))))))))))
  refine runTf g'9 ?_
  refine go_loop try_mixed (by kernel_rfl) (fun k F Hx => ∃ j : Nat, j + k = 2 ∧ F = [(0, .sl (some (bw, 0)) 2 cw), (3, .int .i64 (((pre2 l.length m.length j) : Nat) : Int)), (9, .sl (some (bw, 0)) 2 cw), (10, .int .i64 2), (11, .int .i64 ((j : Nat) : Int))] ∧ H = Hx) (2) ?_ ?_
  · refine ⟨_, _, _, ⟨0, by omega, rfl, rfl⟩, Abs.by0 hbel ?_⟩
    exact absWf (jn @pre2.eq_1 (jn @Int.natCast_zero @Int.ofNat_zero))
  · rintro k0 F Hx ⟨j, hm0, rfl, rfl⟩ J0 hJ0
    refine runTf g'9 ?_
    refine cond_split (fun h1 => ?_) (fun h1 => ?_)
    · have h1d := h1
      try simp only [Bool.not_eq_true', Bool.not_eq_false', decide_eq_true_eq, decide_eq_false_iff_not, beq_iff_eq, bne_iff_ne, ne_eq, Bool.not_eq_true, Bool.not_eq_false, beq_eq_false_iff_ne, bne_eq_false_iff_eq, Classical.not_not, Bool.and_eq_true, Bool.and_eq_false_imp] at h1d
      obtain rfl | rfl := (by omega : j = 0 ∨ j = 1)
      · skip
        have g'10 := (jn @h1 (jn @h1d g'9))
        refine runTf g'10 ?_
        refine hJ0 _ _ ⟨k0 - 1, by omega, _, _, _, ⟨0 + 1, by omega, rfl, rfl⟩, Abs.by0 hbel ?_⟩
        exact absWf (jn @hs0 @hs1)
      · skip
        have g'11 := (jn @h1 (jn @h1d g'9))
        refine runTf g'11 ?_
        refine hJ0 _ _ ⟨k0 - 1, by omega, _, _, _, ⟨1 + 1, by omega, rfl, rfl⟩, Abs.by0 hbel ?_⟩
        exact absWf (jn @hs0 @hs1)
    · have h1d := h1
      try simp only [Bool.not_eq_true', Bool.not_eq_false', decide_eq_true_eq, decide_eq_false_iff_not, beq_iff_eq, bne_iff_ne, ne_eq, Bool.not_eq_true, Bool.not_eq_false, beq_eq_false_iff_ne, bne_eq_false_iff_eq, Classical.not_not, Bool.and_eq_true, Bool.and_eq_false_imp] at h1d
      obtain rfl : j = 2 := by omega
      have g'12 := (jn @h1 (jn @h1d g'9))
      refine runTf g'12 ?_
      refine call_v (by kernel_rfl) (grow_a (n := (pre2 l.length m.length 2)) (by simp [pre2]; omega) (by omega)) ?_
      refine runTf g'12 ?_
      refine go_loop try_mixed (by kernel_rfl) (fun k F Hx => ∃ j : Nat, j + k = 2 ∧ F = [(6, .sl (some (H.length, 0)) ((appL l m j).length) none), (25, .sl (some (bw, 0)) 2 cw), (26, .int .i64 2), (27, .int .i64 ((j : Nat) : Int))] ∧ Hx = H ++ [.cells true 2 (prs (appL l m j))]) (2) ?_ ?_
      · refine ⟨_, _, _, ⟨0, by omega, rfl, rfl⟩, Abs.byG hbel [] rfl [0] (by decide) ?_⟩
        exact absRf @appL.eq_1
      · rintro k1 F Hx ⟨j, hm1, rfl, rfl⟩ J1 hJ1
        have g'13 := (jn @prs_len (jn @prs_one g'12))
        refine runTf g'13 ?_
        refine cond_split (fun h2 => ?_) (fun h2 => ?_)
        · have h2d := h2
          try simp only [Bool.not_eq_true', Bool.not_eq_false', decide_eq_true_eq, decide_eq_false_iff_not, beq_iff_eq, bne_iff_ne, ne_eq, Bool.not_eq_true, Bool.not_eq_false, beq_eq_false_iff_ne, bne_eq_false_iff_eq, Classical.not_not, Bool.and_eq_true, Bool.and_eq_false_imp] at h2d
          obtain rfl | rfl := (by omega : j = 0 ∨ j = 1)
          · skip
            have g'14 := (jn @h2 (jn @h2d (jn @prs_all g'13)))
            refine runTf g'14 ?_
            refine hJ1 _ _ ⟨k1 - 1, by omega, _, _, _, ⟨0 + 1, by omega, rfl, rfl⟩, Abs.byG hbel [] rfl [1] (by decide) ?_⟩
            exact absRf (jn @appL.eq_1 (jn @appL.eq_2 @appL.eq_3))
          · skip
            have g'15 := (jn @h2 (jn @h2d (jn @prs_all g'13)))
            refine runTf g'15 ?_
            refine hJ1 _ _ ⟨k1 - 1, by omega, _, _, _, ⟨1 + 1, by omega, rfl, rfl⟩, Abs.byG hbel [] rfl [1] (by decide) ?_⟩
            exact absRf (jn @appL.eq_1 (jn @appL.eq_2 @appL.eq_3))
        · have h2d := h2
          try simp only [Bool.not_eq_true', Bool.not_eq_false', decide_eq_true_eq, decide_eq_false_iff_not, beq_iff_eq, bne_iff_ne, ne_eq, Bool.not_eq_true, Bool.not_eq_false, beq_eq_false_iff_ne, bne_eq_false_iff_eq, Classical.not_not, Bool.and_eq_true, Bool.and_eq_false_imp] at h2d
          obtain rfl : j = 2 := by omega
          have g'16 := (jn @h2 (jn @h2d g'13))
          refine runTf g'16 ?_
          refine hQ _ _ (end_byG (.inl rfl) hbel (x1 := .sl (some (H.length, 0)) ((appL l m 2).length) none) (l2 := [.cells true 2 (prs (appL l m 2))]) (.sl (some (H.length, 0)) ((appL l m 2).length) none) (resTf (jn @appL.eq_3 @List.length_append.{0}) Tryz.results110) [] rfl [0] (by decide) ⟨by have hlm : 0 < (l ++ m).length := (by rw [List.length_append]; omega); rw [show appL l m 2 = l ++ m from rfl, capG_p hlm], by have hlm : 0 < (l ++ m).length := (by rw [List.length_append]; omega); rw [show appL l m 2 = l ++ m from rfl, ownG_p hlm]⟩ ?_)
          exact absW
theorem concat_00 (H : AHeap) (s : AV) (t : AV) (w : AV) (hs : Sl H 2 s 0 []) (ht : Sl H 2 t 0 []) (hw : Sl H 1 w 2 [s, t]) : ACalls Tryz.prog 110 [w] H (fun v H' => v = .sl (some (H.length, 0)) (([] : List Pt).length) (capG ([] : List Pt).length) ∧ H' = H ++ [.cells (ownG ([] : List Pt).length) 2 (prs ([] : List Pt))]) := by
  obtain ⟨bs, os, cs, rfl, hbs⟩ := hs
  have hbls := getElem?_lt hbs
  have hb0s := fun l => get_app (l := l) hbs
  obtain ⟨bt, ot, ct, rfl, hbt⟩ := ht
  have hblt := getElem?_lt hbt
  have hb0t := fun l => get_app (l := l) hbt
  obtain ⟨bw, ow, cw, rfl, hbw⟩ := hw
  have hblw := getElem?_lt hbw
  have hb0w := fun l => get_app (l := l) hbw
  have hs0 : (((pre2 0 0 0) : Nat) : Int) + 0 = (((pre2 0 0 1) : Nat) : Int) := by simp [pre2]
  have hs1 : (((pre2 0 0 1) : Nat) : Int) + 0 = (((pre2 0 0 2) : Nat) : Int) := by simp [pre2]
  have hb1 : (pre2 0 0 1) ≤ 500 := by simp only [pre2]; omega
  have hb2 : (pre2 0 0 2) ≤ 1000 := by simp only [pre2]; omega
  have hn1 : (((pre2 0 0 1) : Nat) : Int) < 0 ↔ False := ⟨fun h => by omega, fun h => h.elim⟩
  have hn2 : (((pre2 0 0 2) : Nat) : Int) < 0 ↔ False := ⟨fun h => by omega, fun h => h.elim⟩
  refine AcT true Tryz.func110 ?_; intro hbel Q hQ
  have g'17 := (jn @hbs (jn @hb0s (jn @hbt (jn @hb0t (jn @hbw (jn @hb0w (jn @hs0 (jn @hs1 (jn @hn1 (jn @hn2 (jn @decide_false (jn @List.length_nil.{0} @Nat.zero_add))))))))))))
  refine runTf g'17 ?_
  refine go_loop try_mixed (by kernel_rfl) (fun k F Hx => ∃ j : Nat, j + k = 2 ∧ F = [(0, .sl (some (bw, 0)) 2 cw), (3, .int .i64 (((pre2 0 0 j) : Nat) : Int)), (9, .sl (some (bw, 0)) 2 cw), (10, .int .i64 2), (11, .int .i64 ((j : Nat) : Int))] ∧ H = Hx) (2) ?_ ?_
  · refine ⟨_, _, _, ⟨0, by omega, rfl, rfl⟩, Abs.by0 hbel ?_⟩
    exact absWf (jn @pre2.eq_1 (jn @Int.natCast_zero @Int.ofNat_zero))
  · rintro k0 F Hx ⟨j, hm0, rfl, rfl⟩ J0 hJ0
    refine runTf g'17 ?_
    refine cond_split (fun h1 => ?_) (fun h1 => ?_)
    · have h1d := h1
      try simp only [Bool.not_eq_true', Bool.not_eq_false', decide_eq_true_eq, decide_eq_false_iff_not, beq_iff_eq, bne_iff_ne, ne_eq, Bool.not_eq_true, Bool.not_eq_false, beq_eq_false_iff_ne, bne_eq_false_iff_eq, Classical.not_not, Bool.and_eq_true, Bool.and_eq_false_imp] at h1d
      obtain rfl | rfl := (by omega : j = 0 ∨ j = 1)
      · skip
        have g'18 := (jn @h1 (jn @h1d g'17))
        refine runTf g'18 ?_
        refine hJ0 _ _ ⟨k0 - 1, by omega, _, _, _, ⟨0 + 1, by omega, rfl, rfl⟩, Abs.by0 hbel ?_⟩
        exact absWf (jn @hs0 @hs1)
      · skip
        have g'19 := (jn @h1 (jn @h1d g'17))
        refine runTf g'19 ?_
        refine hJ0 _ _ ⟨k0 - 1, by omega, _, _, _, ⟨1 + 1, by omega, rfl, rfl⟩, Abs.by0 hbel ?_⟩
        exact absWf (jn @hs0 @hs1)
    · have h1d := h1
      try simp only [Bool.not_eq_true', Bool.not_eq_false', decide_eq_true_eq, decide_eq_false_iff_not, beq_iff_eq, bne_iff_ne, ne_eq, Bool.not_eq_true, Bool.not_eq_false, beq_eq_false_iff_ne, bne_eq_false_iff_eq, Classical.not_not, Bool.and_eq_true, Bool.and_eq_false_imp] at h1d
      obtain rfl : j = 2 := by omega
      have g'20 := (jn @h1 (jn @h1d g'17))
      refine runTf g'20 ?_
      refine call_v (by kernel_rfl) (grow_0 (by simp [pre2])) ?_
      refine runTf g'20 ?_
      refine go_loop try_mixed (by kernel_rfl) (fun k F Hx => ∃ j : Nat, j + k = 2 ∧ F = [(6, .sl none 0 (some 0)), (25, .sl (some (bw, 0)) 2 cw), (26, .int .i64 2), (27, .int .i64 ((j : Nat) : Int))] ∧ H = Hx) (2) ?_ ?_
      · refine ⟨_, _, _, ⟨0, by omega, rfl, rfl⟩, Abs.by0 hbel ?_⟩
        exact absWf (jn @appL.eq_1 (jn @prs_nil @List.length_nil.{0}))
      · rintro k1 F Hx ⟨j, hm1, rfl, rfl⟩ J1 hJ1
        refine runTf g'20 ?_
        refine cond_split (fun h2 => ?_) (fun h2 => ?_)
        · have h2d := h2
          try simp only [Bool.not_eq_true', Bool.not_eq_false', decide_eq_true_eq, decide_eq_false_iff_not, beq_iff_eq, bne_iff_ne, ne_eq, Bool.not_eq_true, Bool.not_eq_false, beq_eq_false_iff_ne, bne_eq_false_iff_eq, Classical.not_not, Bool.and_eq_true, Bool.and_eq_false_imp] at h2d
          obtain rfl | rfl := (by omega : j = 0 ∨ j = 1)
          · skip
            have g'21 := (jn @h2 (jn @h2d g'20))
            refine runTf g'21 ?_
            refine hJ1 _ _ ⟨k1 - 1, by omega, _, _, _, ⟨0 + 1, by omega, rfl, rfl⟩, Abs.by0 hbel ?_⟩
            exact absWf (jn @appL.eq_1 (jn @appL.eq_2 (jn @appL.eq_3 (jn @prs_nil (jn @List.length_nil.{0} @prs_append)))))
          · skip
            have g'22 := (jn @h2 (jn @h2d g'20))
            refine runTf g'22 ?_
            refine hJ1 _ _ ⟨k1 - 1, by omega, _, _, _, ⟨1 + 1, by omega, rfl, rfl⟩, Abs.by0 hbel ?_⟩
            exact absWf (jn @appL.eq_1 (jn @appL.eq_2 (jn @appL.eq_3 (jn @prs_nil (jn @List.length_nil.{0} @prs_append)))))
        · have h2d := h2
          try simp only [Bool.not_eq_true', Bool.not_eq_false', decide_eq_true_eq, decide_eq_false_iff_not, beq_iff_eq, bne_iff_ne, ne_eq, Bool.not_eq_true, Bool.not_eq_false, beq_eq_false_iff_ne, bne_eq_false_iff_eq, Classical.not_not, Bool.and_eq_true, Bool.and_eq_false_imp] at h2d
          obtain rfl : j = 2 := by omega
          have g'23 := (jn @h2 (jn @h2d g'20))
          refine runTf g'23 ?_
          refine hQ _ _ (end_byE (.inl rfl) hbel (x1 := .sl none 0 (some 0)) (l2 := [.cells false 2 []]) (.sl (some (H.length, 0)) 0 (some 0)) (resT Tryz.results110) [.cells false 2 []] rfl [0] (by decide) ⟨rfl, rfl⟩ ?_)
          exact absW
theorem concat_c (H : AHeap) (s t w : AV) (l m : List Pt) (hs : SlP H s l) (ht : SlP H t m) (hw : Sl H 1 w 2 [s, t]) (h1 : l.length ≤ 500) (h2 : m.length ≤ 500) :
    ACalls Tryz.prog 110 [w] H (fun v H' => v = .sl (some (H.length, 0)) (l ++ m).length (capG (l ++ m).length) ∧ H' = H ++ [.cells (ownG (l ++ m).length) 2 (prs (l ++ m))]) := by
  rcases l with _ | ⟨a, l⟩
  · rcases m with _ | ⟨b, m⟩
    · exact concat_00 H s t w hs ht hw
    · exact concat_0m H s t (b :: m) w hs ht hw (by simp) h2
  · exact concat_lm H s (a :: l) t m w hs ht hw (by simp) h1 h2
open Go.RowKit
/-- The error of a sum. -/
def sumE (x1 y1 : Int) (l : List Pt) (x2 y2 : Int) (m : List Pt) : Int := if (validB x1 y1 l && validB x2 y2 m) = true then (if validB (x1 + x2) (y1 + y2) (canonL (l ++ m)) = true then 0 else 6) else 1
theorem whole_t (H : AHeap) (x : Int) (y : Int) (s : AV) (l : List (Int × Int)) (hs : Sl H 2 s l.length (prs l)) (hv : validB x y l = true) : ACalls Tryz.prog 109 [.agg [.int .i64 x, .int .i64 y, s]] H (fun v H' => v = .tup [.agg [.int .i64 x, .int .i64 y, s], .int .i64 0] ∧ H' = H) := by
  obtain ⟨bs, os, cs, rfl, hbs⟩ := hs
  have hbls := getElem?_lt hbs
  have hb0s := fun l => get_app (l := l) hbs
  refine AcT true Tryz.func109 ?_; intro hbel Q hQ
  have g'4 := (jn @hbs (jn @hb0s @hv))
  refine runTf g'4 ?_
  refine call_v (by kernel_rfl) (valid_c _ x y _ l (.inr ⟨_, _, _, rfl, by first | exact hb0s _ | exact hbs⟩)) ?_
  refine runTf g'4 ?_
  refine hQ _ _ (end_byG (.inl rfl) hbel (x1 := .tup [.agg [.int .i64 x, .int .i64 y, .sl (some (bs, 0)) l.length cs], .int .i64 0]) (l2 := []) (.tup [.agg [.int .i64 x, .int .i64 y, .sl (some (bs, 0)) l.length cs], .int .i64 0]) (resT Tryz.results109) [] rfl [] (by decide) ⟨rfl, List.append_nil _⟩ ?_)
  exact absW
theorem whole_f (H : AHeap) (x : Int) (y : Int) (s : AV) (l : List (Int × Int)) (hs : Sl H 2 s l.length (prs l)) (hv : validB x y l = false) : ACalls Tryz.prog 109 [.agg [.int .i64 x, .int .i64 y, s]] H (fun v H' => v = .tup [.agg [.int .i64 0, .int .i64 0, .sl none 0 (some 0)], .int .i64 6] ∧ H' = H) := by
  obtain ⟨bs, os, cs, rfl, hbs⟩ := hs
  have hbls := getElem?_lt hbs
  have hb0s := fun l => get_app (l := l) hbs
  refine AcT true Tryz.func109 ?_; intro hbel Q hQ
  have g'5 := (jn @hbs (jn @hb0s @hv))
  refine runTf g'5 ?_
  refine call_v (by kernel_rfl) (valid_c _ x y _ l (.inr ⟨_, _, _, rfl, by first | exact hb0s _ | exact hbs⟩)) ?_
  refine runTf g'5 ?_
  exact hQ _ _ (end_plain (.inl rfl) hbel (x := .tup [.agg [.int .i64 0, .int .i64 0, .sl none 0 (some 0)], .int .i64 6]) (resT Tryz.results109) rfl ⟨rfl, rfl⟩)
theorem Sum_c (H : AHeap) (x1 : Int) (y1 : Int) (s : AV) (l : List (Int × Int)) (x2 : Int) (y2 : Int) (t : AV) (m : List (Int × Int)) (hs : Sl H 2 s l.length (prs l)) (ht : Sl H 2 t m.length (prs m)) : ACalls Tryz.prog 51 [.agg [.int .i64 x1, .int .i64 y1, s], .agg [.int .i64 x2, .int .i64 y2, t]] H (fun v H' => v = .tup [.agg [.int .i64 (mkX (sumE x1 y1 l x2 y2 m) (x1 + x2)), .int .i64 (mkX (sumE x1 y1 l x2 y2 m) (y1 + y2)), .sl (some (H.length, 0)) ((mkL (sumE x1 y1 l x2 y2 m) (canonL (l ++ m))).length) (capG (mkL (sumE x1 y1 l x2 y2 m) (canonL (l ++ m))).length)], .int .i64 (sumE x1 y1 l x2 y2 m)] ∧ H' = H ++ [.cells (ownG (mkL (sumE x1 y1 l x2 y2 m) (canonL (l ++ m))).length) 2 (prs (mkL (sumE x1 y1 l x2 y2 m) (canonL (l ++ m))))]) := by
  obtain ⟨bs, os, cs, rfl, hbs⟩ := hs
  have hbls := getElem?_lt hbs
  have hb0s := fun l => get_app (l := l) hbs
  obtain ⟨bt, ot, ct, rfl, hbt⟩ := ht
  have hblt := getElem?_lt hbt
  have hb0t := fun l => get_app (l := l) hbt
  refine AcT false Tryz.func51 ?_; intro hbel Q hQ
  have g'6 := (jn @hbs (jn @hb0s (jn @hbt @hb0t)))
  refine runTf g'6 ?_
  refine call_v (by kernel_rfl) (valid_c _ x1 y1 _ l (.inr ⟨_, _, _, rfl, by first | exact hb0s _ | exact hbs⟩)) ?_
  refine runTf g'6 ?_
  refine gd_split (fun h1 => ?_) (fun h1 => ?_)
  · have h1d := h1
    try simp only [Bool.not_eq_true', Bool.not_eq_false', decide_eq_true_eq, decide_eq_false_iff_not, beq_iff_eq, bne_iff_ne, ne_eq, Bool.not_eq_true, Bool.not_eq_false, beq_eq_false_iff_ne, bne_eq_false_iff_eq, Classical.not_not, Bool.and_eq_true, Bool.and_eq_false_imp] at h1d
    obtain ⟨hl16, hlB⟩ := valid_bd h1d
    have hxy1 := valid_bd3 h1d
    have hB1 : ∀ e ∈ l, Bd 4194304 e := fun e he => by have := hlB e he; unfold Bd at *; omega
    have g'7 := (jn @h1 (jn @h1d g'6))
    refine runTf g'7 ?_
    refine call_v (by kernel_rfl) (valid_c _ x2 y2 _ m (.inr ⟨_, _, _, rfl, by first | exact hb0t _ | exact hbt⟩)) ?_
    refine runTf g'7 ?_
    refine cond_split (fun h2 => ?_) (fun h2 => ?_)
    · have h2d := h2
      try simp only [Bool.not_eq_true', Bool.not_eq_false', decide_eq_true_eq, decide_eq_false_iff_not, beq_iff_eq, bne_iff_ne, ne_eq, Bool.not_eq_true, Bool.not_eq_false, beq_eq_false_iff_ne, bne_eq_false_iff_eq, Classical.not_not, Bool.and_eq_true, Bool.and_eq_false_imp] at h2d
      have g'8 := (jn @h2 (jn @h2d g'7))
      refine runTf g'8 ?_
      refine hQ _ _ (end_byG (.inl rfl) hbel (x1 := .tup [.agg [.int .i64 0, .int .i64 0, .sl none 0 (some 0)], .int .i64 1]) (l2 := [.cells false 2 []]) (.tup [.agg [.int .i64 0, .int .i64 0, .sl (some (H.length, 0)) 0 (some 0)], .int .i64 1]) (resT Tryz.results51) [.cells false 2 []] rfl [3] (by decide) ⟨by simp [mkX, mkL, sumE, capG_0, ownG_0, prs_nil, h1d, h2d], by simp [mkX, mkL, sumE, capG_0, ownG_0, prs_nil, h1d, h2d]⟩ ?_)
      exact absW
    · have h2d := h2
      try simp only [Bool.not_eq_true', Bool.not_eq_false', decide_eq_true_eq, decide_eq_false_iff_not, beq_iff_eq, bne_iff_ne, ne_eq, Bool.not_eq_true, Bool.not_eq_false, beq_eq_false_iff_ne, bne_eq_false_iff_eq, Classical.not_not, Bool.and_eq_true, Bool.and_eq_false_imp] at h2d
      obtain ⟨hm16, hmB⟩ := valid_bd h2d
      have hxy2 := valid_bd3 h2d
      have hB2 : ∀ e ∈ m, Bd 4194304 e := fun e he => by have := hmB e he; unfold Bd at *; omega
      have hll : (l ++ m).length = l.length + m.length := List.length_append
      have hcl := canonL_len (l ++ m)
      have hBB : ∀ e ∈ l ++ m, Bd 4194304 e := fun e he => by rcases List.mem_append.1 he with h | h; exact hB1 e h; exact hB2 e h
      have g'9 := (jn @h2 (jn @h2d g'7))
      refine runTf g'9 ?_
      refine call_x (by kernel_rfl) (by simp) (concat_c _ _ _ _ l m ⟨_, _, _, rfl, by first | exact hb0s _ | exact hbs⟩ ⟨_, _, _, rfl, by first | exact hb0t _ | exact hbt⟩ ⟨_, _, _, rfl, by first | rfl | exact get_newk | exact get_new0⟩ (by omega) (by omega)) ?_
      refine runTf g'9 ?_
      refine call_x (by kernel_rfl) (by simp) (canonical_u _ (x1 + x2) (y1 + y2) _ (l ++ m) (.inr ⟨_, _, _, by first | rfl | (rw [List.length_append]; done) | (rw [List.length_append]; rfl), by first | rfl | (rw [get_newk]; rfl) | (rw [get_new0]; rfl) | (rw [get_newk, prs_append]; rfl) | (rw [get_new0, prs_append]; rfl)⟩) (by first | omega | (simp only [List.length_cons, List.length_nil]; omega) | exact Nat.le_trans (mkL_len _ _) (by first | omega | simp) | exact Nat.le_trans (vL_len _ _) (by first | omega | simp) | exact Nat.le_trans corV_len (by omega) | exact Nat.le_trans (canonL_len _) (by first | omega | simp)) (by assumption)) ?_
      refine runTf g'9 ?_
      rcases Bool.eq_false_or_eq_true (validB (x1 + x2) (y1 + y2) (canonL (l ++ m))) with h3 | h3
      · have h3d := h3
        refine call_d (by kernel_rfl) (whole_t _ (x1 + x2) (y1 + y2) _ (canonL (l ++ m)) ⟨_, _, _, by first | rfl | (rw [List.length_append]; done) | (rw [List.length_append]; rfl), by first | rfl | (rw [get_newk]; rfl) | (rw [get_new0]; rfl) | (rw [get_newk, prs_append]; rfl) | (rw [get_new0, prs_append]; rfl)⟩ (by assumption)) ?_
        have g'10 := (jn @h3 (jn @h3d g'9))
        refine runTf g'10 ?_
        refine hQ _ _ (end_byG (.inl rfl) hbel (x1 := .tup [.agg [.int .i64 (x1 + x2), .int .i64 (y1 + y2), .sl (some (H.length + 5, 0)) ((canonL (l ++ m)).length) (capG (canonL (l ++ m)).length)], .int .i64 0]) (l2 := [.cells (ownG (canonL (l ++ m)).length) 2 (prs (canonL (l ++ m)))]) (.tup [.agg [.int .i64 (x1 + x2), .int .i64 (y1 + y2), .sl (some (H.length, 0)) ((canonL (l ++ m)).length) (capG (canonL (l ++ m)).length)], .int .i64 0]) (resT Tryz.results51) [] rfl [5] (by decide) ⟨by simp [mkX, mkL, sumE, capG_0, ownG_0, prs_nil, h1d, h2d, h3d], by simp [mkX, mkL, sumE, capG_0, ownG_0, prs_nil, h1d, h2d, h3d]⟩ ?_)
        exact absW
      · have h3d := h3
        refine call_d (by kernel_rfl) (whole_f _ (x1 + x2) (y1 + y2) _ (canonL (l ++ m)) ⟨_, _, _, by first | rfl | (rw [List.length_append]; done) | (rw [List.length_append]; rfl), by first | rfl | (rw [get_newk]; rfl) | (rw [get_new0]; rfl) | (rw [get_newk, prs_append]; rfl) | (rw [get_new0, prs_append]; rfl)⟩ (by assumption)) ?_
        have g'11 := (jn @h3 (jn @h3d g'9))
        refine runTf g'11 ?_
        refine hQ _ _ (end_byG (.inl rfl) hbel (x1 := .tup [.agg [.int .i64 0, .int .i64 0, .sl none 0 (some 0)], .int .i64 6]) (l2 := [.cells false 2 []]) (.tup [.agg [.int .i64 0, .int .i64 0, .sl (some (H.length, 0)) 0 (some 0)], .int .i64 6]) (resT Tryz.results51) [.cells false 2 []] rfl [6] (by decide) ⟨by simp [mkX, mkL, sumE, capG_0, ownG_0, prs_nil, h1d, h2d, h3d], by simp [mkX, mkL, sumE, capG_0, ownG_0, prs_nil, h1d, h2d, h3d]⟩ ?_)
        exact absW
  · have h1d := h1
    try simp only [Bool.not_eq_true', Bool.not_eq_false', decide_eq_true_eq, decide_eq_false_iff_not, beq_iff_eq, bne_iff_ne, ne_eq, Bool.not_eq_true, Bool.not_eq_false, beq_eq_false_iff_ne, bne_eq_false_iff_eq, Classical.not_not, Bool.and_eq_true, Bool.and_eq_false_imp] at h1d
    have g'12 := (jn @h1 (jn @h1d g'6))
    refine runTf g'12 ?_
    refine hQ _ _ (end_byG (.inl rfl) hbel (x1 := .tup [.agg [.int .i64 0, .int .i64 0, .sl none 0 (some 0)], .int .i64 1]) (l2 := [.cells false 2 []]) (.tup [.agg [.int .i64 0, .int .i64 0, .sl (some (H.length, 0)) 0 (some 0)], .int .i64 1]) (resT Tryz.results51) [.cells false 2 []] rfl [3] (by decide) ⟨by simp [mkX, mkL, sumE, capG_0, ownG_0, prs_nil, h1d], by simp [mkX, mkL, sumE, capG_0, ownG_0, prs_nil, h1d]⟩ ?_)
    exact absW
open Go.RowKit
theorem mem_spr {n : Pt} : ∀ {L : List Pt} {e : Pt}, e ∈ L → absI (dotP n e) ≤ spr n L
  | [], _, h => by cases h
  | g :: l, e, h => by
    rw [spr_cons]
    have h0 := spr_nn n l
    have h1 := absI_nn (dotP n g)
    rcases List.mem_cons.1 h with rfl | h
    · omega
    · have := mem_spr (n := n) h; omega
theorem canon_in {A : List Pt} {M : Int} (h1 : spr (1, 0) A ≤ M) (h2 : spr (0, 1) A ≤ M) : ∀ e ∈ canonL A, Bd M e := fun e he => by
  have a1 := mem_spr (n := (1, 0)) he
  have a2 := mem_spr (n := (0, 1)) he
  rw [spr_canon, absI_le] at a1 a2
  unfold dotP at a1 a2
  unfold Bd
  simp only at a1 a2
  omega
open Go.RowKit
theorem mkX_0 {x : Int} : mkX 0 x = x := rfl
theorem mkL_0 {L : List Pt} : mkL 0 L = L := rfl
open Go.RowKit
/-- The lower eight bits. -/
theorem and255 (a : Int) : (BitVec.ofInt 64 a &&& BitVec.ofInt 64 255).toNat = (a % 256).toNat := by
  rw [BitVec.toNat_and, BitVec.toNat_ofInt, BitVec.toNat_ofInt]
  have e : ((255 : Int) % ((2 ^ 64 : Nat) : Int)).toNat = 2 ^ 8 - 1 := by decide
  rw [e, Nat.and_two_pow_sub_one_eq_mod]
  have : (((a % ((2 ^ 64 : Nat) : Int)).toNat : Nat) : Int) = a % 18446744073709551616 := by
    rw [Int.toNat_of_nonneg (Int.emod_nonneg _ (by decide))]; rfl
  omega
/-- The greatest common divisor of three numbers. -/
def gcd3 (x y d : Int) : Nat := Nat.gcd (Nat.gcd d.natAbs x.natAbs) y.natAbs
abbrev Vec := Int × Int × Int
/-- A vector in lowest terms. -/
def lowV (x y d : Int) : Vec := (x.tdiv (gcd3 x y d), y.tdiv (gcd3 x y d), d.tdiv (gcd3 x y d))
theorem gcd3_comm (x y d : Int) : Nat.gcd (Nat.gcd x.natAbs y.natAbs) d.natAbs = gcd3 x y d := by
  unfold gcd3
  rw [Nat.gcd_comm d.natAbs, Nat.gcd_assoc, Nat.gcd_assoc, Nat.gcd_comm d.natAbs]
theorem gcd3_pos {x y d : Int} (h : d ≠ 0) : 0 < gcd3 x y d := by
  unfold gcd3
  exact Nat.gcd_pos_of_pos_left _ (Nat.gcd_pos_of_pos_left _ (Int.natAbs_pos.2 h))
/-- The direction of a mark of the first quarter. -/
def dir0 (k : Nat) : Vec := lowV (4096 - (k : Int) * k) (128 * k) (4096 + (k : Int) * k)
def rotN (v : Vec) : Nat → Vec
  | 0 => v
  | n + 1 => (-(rotN v n).2.1, (rotN v n).1, (rotN v n).2.2)
def dirN (h : Nat) : Vec := rotN (dir0 (h % 64)) (h / 64)
/-- The direction of a mark. -/
def dirV (h : Int) : Vec := dirN (h % 256).toNat
def vecOK (v : Vec) : Bool := decide (1 ≤ v.2.2) && decide (v.2.2 ≤ 8065) && decide (-v.2.2 ≤ v.1) && decide (v.1 ≤ v.2.2) && decide (-v.2.2 ≤ v.2.1) && decide (v.2.1 ≤ v.2.2) && decide (v.1 * v.1 + v.2.1 * v.2.1 = v.2.2 * v.2.2)
theorem dirs_ok : (List.range 256).all (fun h => vecOK (dirN h)) = true := by decide +kernel
theorem dirV_ok (h : Int) : vecOK (dirV h) = true := by
  have := List.all_eq_true.1 dirs_ok (h % 256).toNat (by simp; omega)
  exact this
theorem vecOK_iff {v : Vec} : vecOK v = true ↔ (1 ≤ v.2.2 ∧ v.2.2 ≤ 8065) ∧ (-v.2.2 ≤ v.1 ∧ v.1 ≤ v.2.2) ∧ (-v.2.2 ≤ v.2.1 ∧ v.2.1 ≤ v.2.2) ∧ v.1 * v.1 + v.2.1 * v.2.1 = v.2.2 * v.2.2 := by
  unfold vecOK
  simp only [Bool.and_eq_true, decide_eq_true_eq]
  constructor
  · rintro ⟨⟨⟨⟨⟨⟨a, b⟩, c⟩, d⟩, e⟩, f⟩, g⟩; exact ⟨⟨a, b⟩, ⟨c, d⟩, ⟨e, f⟩, g⟩
  · rintro ⟨⟨a, b⟩, ⟨c, d⟩, ⟨e, f⟩, g⟩; exact ⟨⟨⟨⟨⟨⟨a, b⟩, c⟩, d⟩, e⟩, f⟩, g⟩
/-- A quotient rounded down. -/
theorem floor_eq {a b : Int} (h : 0 < b) : (if a.tmod b < 0 then a.tdiv b - 1 else a.tdiv b) = a / b := by
  rw [Int.tdiv_eq_ediv, Int.tmod_eq_emod]
  have h1 := Int.emod_nonneg a (by omega : b ≠ 0)
  have h2 := Int.emod_lt_of_pos a h
  have hs : b.sign = 1 := Int.sign_eq_one_of_pos h
  have hn : (b.natAbs : Int) = b := by omega
  split
  · rw [if_neg (by omega)]; omega
  · rw [if_pos (by omega), hs]; omega
/-- The half of the circle in which a vector lies. -/
def halfI (x y : Int) : Int := if 0 < y ∨ (y = 0 ∧ 0 < x) then 0 else 1
/-- Whether a direction is beyond a vector. -/
def beyB (v : Vec) (x y : Int) : Bool :=
  if halfI v.1 v.2.1 = halfI x y then decide (crs (v.1, v.2.1) (x, y) < 0) else decide (halfI v.1 v.2.1 = 1)
theorem halfI_or (x y : Int) : halfI x y = 0 ∨ halfI x y = 1 := by unfold halfI; split <;> simp
/-- The greatest mark that is not beyond a vector, among the first n. -/
def towN (x y : Int) : Nat → Nat
  | 0 => 0
  | n + 1 => if beyB (dirN n) x y = true then towN x y n else n
open Go.RowKit
theorem dirs_app (A B : List Pt) : dirs (A ++ B) = dirs A ++ dirs B := by unfold dirs; rw [List.map_append, List.filter_append]
theorem nrm_of_up {e : Pt} (h : up e) : nrm e = e := by
  unfold up at h
  unfold nrm
  rw [if_neg (by omega)]
theorem dirs_id : ∀ {C : List Pt}, (∀ e ∈ C, up e) → dirs C = C
  | [], _ => rfl
  | e :: C, h => by
    have he := h e (by simp)
    have ih := dirs_id (C := C) fun x hx => h x (by simp [hx])
    unfold dirs at ih ⊢
    rw [List.map_cons, nrm_of_up he, List.filter_cons, if_pos (by simp only [decide_eq_true_eq]; exact up_ne he), ih]
theorem canonL_appl (A B : List Pt) : canonL (canonL A ++ B) = canonL (A ++ B) := by
  have h1 := canonL_can (canonL A ++ B)
  have hA := canonL_can A
  refine Can.eq (S := dirs (A ++ B)) ⟨h1.sorted, h1.ups, fun g hg => ?_⟩ (canonL_can _)
  rw [h1.sums g hg, dirs_app, dirs_app, dsum_append, dsum_append, dirs_id hA.ups, hA.sums g hg]
theorem canonL_appr (A B : List Pt) : canonL (A ++ canonL B) = canonL (A ++ B) := by
  have h1 := canonL_can (A ++ canonL B)
  have hB := canonL_can B
  refine Can.eq (S := dirs (A ++ B)) ⟨h1.sorted, h1.ups, fun g hg => ?_⟩ (canonL_can _)
  rw [h1.sums g hg, dirs_app, dirs_app, dsum_append, dsum_append, dirs_id hB.ups, hB.sums g hg]
theorem validB_of {x y : Int} {l : List Pt} (hx : -8388608 ≤ x ∧ x ≤ 8388608) (hy : -8388608 ≤ y ∧ y ≤ 8388608) (hl : l.length ≤ 16) (hB : ∀ e ∈ l, Bd 65536 e) : validB x y l = true := by
  unfold validB
  simp only [Bool.and_eq_true, decide_eq_true_eq, Bool.not_eq_true', within_iff]
  refine ⟨⟨⟨hx, hy⟩, hl⟩, List.any_eq_false.2 fun e he => ?_⟩
  have := hB e he
  unfold Bd at this
  simp only [wrongB, Bool.not_eq_true', Bool.not_eq_false, Bool.and_eq_true, within_iff]
  omega
theorem sumE_0 {x1 y1 : Int} {l : List Pt} {x2 y2 : Int} {m : List Pt} (h1 : validB x1 y1 l = true) (h2 : validB x2 y2 m = true) (h3 : validB (x1 + x2) (y1 + y2) (canonL (l ++ m)) = true) : sumE x1 y1 l x2 y2 m = 0 := by
  unfold sumE; rw [h1, h2, h3]; rfl
/-- A rectangle's generators; a square's. -/
def recL (x0 y0 x1 y1 : Int) : List Pt := [(x1 - x0, 0), (0, y1 - y0)]
def sqrL (a : Int) : List Pt := [(a - (0 - a), 0), (0, a - (0 - a))]
/-- The way of a forward motion. -/
def wayX (h m : Int) : Int := m * (dirV h).1 / (dirV h).2.2
def wayY (h m : Int) : Int := m * (dirV h).2.1 / (dirV h).2.2
theorem div_bd {m a d : Int} (hd : 1 ≤ d) (ha : -d ≤ a ∧ a ≤ d) (hm : 0 ≤ m) : -m ≤ m * a / d ∧ m * a / d ≤ m := by
  constructor
  · rw [Int.le_ediv_iff_mul_le (by omega)]
    have := Int.mul_le_mul_of_nonneg_left ha.1 hm
    rw [Int.mul_neg] at this
    rw [Int.neg_mul]; exact this
  · have := Int.mul_le_mul_of_nonneg_left ha.2 hm
    have h2 : m * a / d ≤ m * d / d := Int.ediv_le_ediv (by omega) this
    rwa [Int.mul_ediv_cancel _ (by omega)] at h2
theorem way_bd (h : Int) {m : Int} (hm : 0 ≤ m) : (-m ≤ wayX h m ∧ wayX h m ≤ m) ∧ (-m ≤ wayY h m ∧ wayY h m ≤ m) := by
  have hv := vecOK_iff.1 (dirV_ok h)
  exact ⟨div_bd hv.1.1 hv.2.1 hm, div_bd hv.1.1 hv.2.2.1 hm⟩
theorem spr1 (a b : Int) (l : List Pt) : spr (1, 0) ((a, b) :: l) = absI a + spr (1, 0) l ∧ spr (0, 1) ((a, b) :: l) = absI b + spr (0, 1) l := by
  rw [spr_cons, spr_cons]
  unfold dotP; simp
theorem spr_nil (n : Pt) : spr n [] = 0 := rfl
theorem canon_valid {x y : Int} {A : List Pt} (hx : -8388608 ≤ x ∧ x ≤ 8388608) (hy : -8388608 ≤ y ∧ y ≤ 8388608) (hl : A.length ≤ 16) (h1 : spr (1, 0) A ≤ 65536) (h2 : spr (0, 1) A ≤ 65536) : validB x y (canonL A) = true :=
  validB_of hx hy (Nat.le_trans (canonL_len A) hl) (canon_in h1 h2)
theorem sum_ok {x1 y1 x2 y2 : Int} {A B : List Pt} (hx1 : -4194304 ≤ x1 ∧ x1 ≤ 4194304) (hy1 : -4194304 ≤ y1 ∧ y1 ≤ 4194304) (hx2 : -4194304 ≤ x2 ∧ x2 ≤ 4194304) (hy2 : -4194304 ≤ y2 ∧ y2 ≤ 4194304)
    (hl : A.length + B.length ≤ 16) (h1 : spr (1, 0) A + spr (1, 0) B ≤ 65536) (h2 : spr (0, 1) A + spr (0, 1) B ≤ 65536) : sumE x1 y1 (canonL A) x2 y2 (canonL B) = 0 := by
  have a1 := spr_nn (1, 0) A
  have a2 := spr_nn (0, 1) A
  have b1 := spr_nn (1, 0) B
  have b2 := spr_nn (0, 1) B
  refine sumE_0 (canon_valid (by omega) (by omega) (by omega) (by omega) (by omega)) (canon_valid (by omega) (by omega) (by omega) (by omega) (by omega)) ?_
  have e : canonL (canonL A ++ canonL B) = canonL (A ++ B) := by rw [canonL_appl, canonL_appr]
  rw [e]
  exact canon_valid (by omega) (by omega) (by rw [List.length_append]; omega) (by rw [spr_app]; omega) (by rw [spr_app]; omega)
/-- Whether a number is in a range; a command's, the bounds' validity. -/
def btw (n lo hi : Int) : Bool := decide (lo ≤ n) && decide (n ≤ hi)
theorem btw_iff {n lo hi : Int} : btw n lo hi = true ↔ lo ≤ n ∧ n ≤ hi := by unfold btw; simp
def cmdB (t f : Int) : Bool := within t 32 && btw f 0 32
def bndB (tu le sl ra : Int) : Bool := btw tu 0 8 && (btw le 0 16 && (btw sl 0 8 && btw ra 1 32))
/-- Whether a sweep's arguments are valid. -/
def sweB (x0 y0 x1 y1 t f tu le sl ra : Int) : Bool :=
  within x0 1048576 && (within y0 1048576 && (within x1 1048576 && (within y1 1048576 && (btw (x1 - x0) 0 32768 && (btw (y1 - y0) 0 32768 && (cmdB t f && bndB tu le sl ra))))))
def sweE (x0 y0 x1 y1 h t f tu le sl ra : Int) : Int := if sweB x0 y0 x1 y1 t f tu le sl ra = true then (if btw h 0 255 = true then 0 else 2) else 1
def wayL (h f le : Int) : List Pt := if f = 0 then [] else [(wayX h (f + le), wayY h (f + le))]
def hlf (f sl : Int) : Int := if f = 0 then 20 else sl + 21
/-- What a sweep is: its center and its generators. -/
def sweX (x0 x1 h f le : Int) : Int := x0 + x1 + (if f = 0 then 0 else wayX h (f + le))
def sweY (y0 y1 h f le : Int) : Int := y0 + y1 + (if f = 0 then 0 else wayY h (f + le))
def sweL (x0 y0 x1 y1 h f le sl : Int) : List Pt := canonL (recL x0 y0 x1 y1 ++ wayL h f le ++ sqrL (hlf f sl))
theorem swe_bd {x0 y0 x1 y1 t f tu le sl ra : Int} (h : sweB x0 y0 x1 y1 t f tu le sl ra = true) : ((-1048576 ≤ x0 ∧ x0 ≤ 1048576) ∧ (-1048576 ≤ y0 ∧ y0 ≤ 1048576) ∧ (-1048576 ≤ x1 ∧ x1 ≤ 1048576) ∧ (-1048576 ≤ y1 ∧ y1 ≤ 1048576)) ∧ ((0 ≤ x1 - x0 ∧ x1 - x0 ≤ 32768) ∧ (0 ≤ y1 - y0 ∧ y1 - y0 ≤ 32768)) ∧ (-32 ≤ t ∧ t ≤ 32) ∧ (0 ≤ f ∧ f ≤ 32) ∧ (0 ≤ tu ∧ tu ≤ 8) ∧ (0 ≤ le ∧ le ≤ 16) ∧ (0 ≤ sl ∧ sl ≤ 8) ∧ (1 ≤ ra ∧ ra ≤ 32) := by
  unfold sweB cmdB bndB at h
  simp only [Bool.and_eq_true, within_iff, btw_iff] at h
  omega
theorem rec_spr {x0 y0 x1 y1 : Int} (hx : 0 ≤ x1 - x0) (hy : 0 ≤ y1 - y0) : spr (1, 0) (recL x0 y0 x1 y1) = x1 - x0 ∧ spr (0, 1) (recL x0 y0 x1 y1) = y1 - y0 := by
  unfold recL
  rw [(spr1 _ _ _).1, (spr1 _ _ _).1, (spr1 _ _ _).2, (spr1 _ _ _).2, spr_nil, spr_nil, absI_of_nn hx, absI_of_nn hy, absI_zero]
  omega
theorem sqr_spr {a : Int} (h : 0 ≤ a) : spr (1, 0) (sqrL a) = 2 * a ∧ spr (0, 1) (sqrL a) = 2 * a := by
  unfold sqrL
  rw [(spr1 _ _ _).1, (spr1 _ _ _).1, (spr1 _ _ _).2, (spr1 _ _ _).2, spr_nil, spr_nil, absI_of_nn (by omega : 0 ≤ a - (0 - a)), absI_zero]
  omega
theorem way_spr {h m : Int} (hm : 0 ≤ m) : spr (1, 0) [(wayX h m, wayY h m)] ≤ m ∧ spr (0, 1) [(wayX h m, wayY h m)] ≤ m := by
  have := way_bd h hm
  rw [(spr1 _ _ _).1, (spr1 _ _ _).2, spr_nil, spr_nil]
  unfold absI
  constructor <;> split <;> omega
theorem sw_eq (R W Q : List Pt) : canonL (canonL (canonL R ++ canonL W) ++ canonL Q) = canonL (R ++ W ++ Q) := by
  rw [canonL_appl, canonL_appr, List.append_assoc, canonL_appl, ← List.append_assoc]
  have e : canonL (R ++ canonL W ++ Q) = canonL (R ++ W ++ Q) := by
    rw [← canonL_appl (R ++ canonL W), canonL_appr, canonL_appl]
  exact e
theorem sw_eq0 (R Q : List Pt) : canonL (canonL R ++ canonL Q) = canonL (R ++ [] ++ Q) := by
  rw [canonL_appl, canonL_appr, List.append_nil]
open Go.RowKit
theorem tdiv_bd {a b : Int} (hb : 0 < b) (hw : -4611686018427387904 ≤ a ∧ a ≤ 4611686018427387904) : -4611686018427387904 ≤ Int.tdiv a b ∧ Int.tdiv a b ≤ 4611686018427387904 := by
  have h := floor_eq (a := a) hb
  have h1 : a / b ≤ 4611686018427387904 := Int.ediv_le_of_le_mul hb (by have := Int.mul_le_mul_of_nonneg_left (show (1 : Int) ≤ b by omega) (by decide : (0 : Int) ≤ 4611686018427387904); omega)
  have h2 : -4611686018427387904 ≤ a / b := by
    rw [Int.le_ediv_iff_mul_le hb]
    have := Int.mul_le_mul_of_nonneg_left (show (1 : Int) ≤ b by omega) (by decide : (0 : Int) ≤ 4611686018427387904)
    rw [Int.neg_mul]; omega
  rw [Int.tdiv_eq_ediv]
  have hs : b.sign = 1 := Int.sign_eq_one_of_pos hb
  split
  · omega
  · rename_i hh
    rw [hs]
    rcases (by omega : a / b ≤ 4611686018427387903 ∨ a / b = 4611686018427387904) with k | k
    · omega
    · exfalso
      have h3 : 4611686018427387904 * b ≤ a := by rw [← Int.le_ediv_iff_mul_le hb]; omega
      have := Int.mul_le_mul_of_nonneg_left (show (1 : Int) ≤ b by omega) (by decide : (0 : Int) ≤ 4611686018427387904)
      omega
theorem i64_and255 (a : Int) : IntKind.i64.wrap ((BitVec.ofInt IntKind.i64.bits a &&& BitVec.ofInt IntKind.i64.bits 255).toNat : Int) = (((a % 256).toNat : Nat) : Int) := by
  have h := and255 a
  show IntKind.i64.wrap (((BitVec.ofInt 64 a &&& BitVec.ofInt 64 255).toNat : Nat) : Int) = _
  rw [h]
  exact wrap_in (by omega) (by omega)
theorem rem_n64 (a : Nat) : Int.tmod (a : Int) 64 = ((a % 64 : Nat) : Int) := rfl
theorem quo_n64 (a : Nat) : Int.tdiv (a : Int) 64 = ((a / 64 : Nat) : Int) := rfl
theorem mod_nn {a b : Int} (hb : 0 < b) : (if Int.tmod a b < 0 then Int.tmod a b + b else Int.tmod a b) = a % b := by
  rw [Int.tmod_eq_emod]
  have h1 := Int.emod_nonneg a (by omega : b ≠ 0)
  have h2 := Int.emod_lt_of_pos a hb
  have hn : (b.natAbs : Int) = b := by omega
  split
  · rw [if_neg (by omega)]; omega
  · rw [if_pos (by omega)]; omega
theorem mwithin_c (H : AHeap) (n : Int) (lo : Int) (hi : Int) : ACalls Tryz.prog 47 [.int .i64 n, .int .i64 lo, .int .i64 hi] H (fun v H' => v = .bool (btw n lo hi) ∧ H' = H) := by
  refine AcT true Tryz.func47 ?_; intro hbel Q hQ
  refine runT ?_
  refine gd_split (fun h1 => ?_) (fun h1 => ?_)
  · have h1d := bsT h1
    have g'1 := (jn @h1 @h1d)
    refine runTf g'1 ?_
    exact hQ _ _ (end_plain0 (.inl rfl) hbel (x := .bool (decide (n ≤ hi))) (resT Tryz.results47) rfl ⟨by simp [btw, h1d], rfl⟩)
  · have h1d := bsT h1
    have g'2 := (jn @h1 @h1d)
    refine runTf g'2 ?_
    exact hQ _ _ (end_plain0 (.inl rfl) hbel (x := .bool false) (resT Tryz.results47) rfl ⟨by simp [btw, h1d], rfl⟩)
theorem dbetween_c (H : AHeap) (n : Int) (lo : Int) (hi : Int) : ACalls Tryz.prog 105 [.int .i64 n, .int .i64 lo, .int .i64 hi] H (fun v H' => v = .bool (btw n lo hi) ∧ H' = H) := by
  refine AcT true Tryz.func105 ?_; intro hbel Q hQ
  refine runT ?_
  refine gd_split (fun h1 => ?_) (fun h1 => ?_)
  · have h1d := bsT h1
    have g'3 := (jn @h1 @h1d)
    refine runTf g'3 ?_
    exact hQ _ _ (end_plain0 (.inl rfl) hbel (x := .bool (decide (n ≤ hi))) (resT Tryz.results105) rfl ⟨by simp [btw, h1d], rfl⟩)
  · have h1d := bsT h1
    have g'4 := (jn @h1 @h1d)
    refine runTf g'4 ?_
    exact hQ _ _ (end_plain0 (.inl rfl) hbel (x := .bool false) (resT Tryz.results105) rfl ⟨by simp [btw, h1d], rfl⟩)
theorem mnear_c (H : AHeap) (n : Int) : ACalls Tryz.prog 46 [.int .i64 n] H (fun v H' => v = .bool (within n 1048576) ∧ H' = H) := by
  refine AcT true Tryz.func46 ?_; intro hbel Q hQ
  refine runT ?_
  refine call_v (by kernel_rfl) (mwithin_c _ n (-1048576) 1048576) ?_
  refine runT ?_
  exact hQ _ _ (end_plain0 (.inl rfl) hbel (x := .bool (btw n (-1048576) 1048576)) (resT Tryz.results46) rfl ⟨by simp [btw, within, true_and], rfl⟩)
theorem dwithin_c (H : AHeap) (x : Int) (m : Int) (h : 0 ≤ m ∧ m ≤ 4611686018427387904) : ACalls Tryz.prog 104 [.int .i64 x, .int .i64 m] H (fun v H' => v = .bool (within x m) ∧ H' = H) := by
  refine AcT true Tryz.func104 ?_; intro hbel Q hQ
  refine runT ?_
  refine call_v (by kernel_rfl) (dbetween_c _ x (0 - m) m) ?_
  refine runT ?_
  exact hQ _ _ (end_plain0 (.inl rfl) hbel (x := .bool (btw x (0 - m) m)) (resT Tryz.results104) rfl ⟨by simp [btw, within, true_and], rfl⟩)
theorem vcmd_c (H : AHeap) (t : Int) (f : Int) : ACalls Tryz.prog 48 [.agg [.int .i64 t, .int .i64 f]] H (fun v H' => v = .bool (cmdB t f) ∧ H' = H) := by
  refine AcT true Tryz.func48 ?_; intro hbel Q hQ
  refine runT ?_
  refine call_v (by kernel_rfl) (dwithin_c _ t 32 (by decide)) ?_
  refine runT ?_
  refine gd_split (fun h1 => ?_) (fun h1 => ?_)
  · have h1d := bsT h1
    have g'5 := (jn @h1 @h1d)
    refine runTf g'5 ?_
    refine call_v (by kernel_rfl) (dbetween_c _ f 0 32) ?_
    refine runTf g'5 ?_
    exact hQ _ _ (end_plain (.inl rfl) hbel (x := .bool (btw f 0 32)) (resT Tryz.results48) rfl ⟨by simp [cmdB, h1d], rfl⟩)
  · have h1d := bsT h1
    have g'6 := (jn @h1 @h1d)
    refine runTf g'6 ?_
    exact hQ _ _ (end_plain (.inl rfl) hbel (x := .bool false) (resT Tryz.results48) rfl ⟨by simp [cmdB, h1d], rfl⟩)
theorem bcmd_c (H : AHeap) (t : Int) (f : Int) : ACalls Tryz.prog 26 [.agg [.int .i64 t, .int .i64 f]] H (fun v H' => v = .bool (cmdB t f) ∧ H' = H) := by
  refine AcT true Tryz.func26 ?_; intro hbel Q hQ
  refine runT ?_
  refine call_v (by kernel_rfl) (bsize_c _ _ _ (by decide)) ?_
  refine runT ?_
  refine gd_split (fun h1 => ?_) (fun h1 => ?_)
  · have h1d := bsT h1
    have g'7 := (jn @h1 @h1d)
    refine runTf g'7 ?_
    refine gd_split (fun h2 => ?_) (fun h2 => ?_)
    · have h2d := bsT h2
      have g'8 := (jn @h2 (jn @h2d g'7))
      refine runTf g'8 ?_
      exact hQ _ _ (end_plain (.inl rfl) hbel (x := .bool (decide (f ≤ 32))) (resT Tryz.results26) rfl ⟨by simp [cmdB, btw, h1d, h2d], rfl⟩)
    · have h2d := bsT h2
      have g'9 := (jn @h2 (jn @h2d g'7))
      refine runTf g'9 ?_
      exact hQ _ _ (end_plain (.inl rfl) hbel (x := .bool false) (resT Tryz.results26) rfl ⟨by simp [cmdB, btw, h1d, h2d], rfl⟩)
  · have h1d := bsT h1
    have g'10 := (jn @h1 @h1d)
    refine runTf g'10 ?_
    exact hQ _ _ (end_plain (.inl rfl) hbel (x := .bool false) (resT Tryz.results26) rfl ⟨by simp [cmdB, btw, h1d], rfl⟩)
theorem vbnd_c (H : AHeap) (tu : Int) (le : Int) (sl : Int) (ra : Int) : ACalls Tryz.prog 49 [.agg [.int .i64 tu, .int .i64 le, .int .i64 sl, .int .i64 ra]] H (fun v H' => v = .bool (bndB tu le sl ra) ∧ H' = H) := by
  refine AcT true Tryz.func49 ?_; intro hbel Q hQ
  refine runT ?_
  refine call_v (by kernel_rfl) (dbetween_c _ tu 0 8) ?_
  refine runT ?_
  refine gd_split (fun h1 => ?_) (fun h1 => ?_)
  · have h1d := bsT h1
    have g'11 := (jn @h1 @h1d)
    refine runTf g'11 ?_
    refine call_v (by kernel_rfl) (dbetween_c _ le 0 16) ?_
    refine runTf g'11 ?_
    refine gd_split (fun h2 => ?_) (fun h2 => ?_)
    · have h2d := bsT h2
      have g'12 := (jn @h2 (jn @h2d g'11))
      refine runTf g'12 ?_
      refine call_v (by kernel_rfl) (dbetween_c _ sl 0 8) ?_
      refine runTf g'12 ?_
      refine gd_split (fun h3 => ?_) (fun h3 => ?_)
      · have h3d := bsT h3
        have g'13 := (jn @h3 (jn @h3d g'12))
        refine runTf g'13 ?_
        refine call_v (by kernel_rfl) (dbetween_c _ ra 1 32) ?_
        refine runTf g'13 ?_
        exact hQ _ _ (end_plain (.inl rfl) hbel (x := .bool (btw ra 1 32)) (resT Tryz.results49) rfl ⟨by simp [bndB, h1d, h2d, h3d], rfl⟩)
      · have h3d := bsT h3
        have g'14 := (jn @h3 (jn @h3d g'12))
        refine runTf g'14 ?_
        exact hQ _ _ (end_plain (.inl rfl) hbel (x := .bool false) (resT Tryz.results49) rfl ⟨by simp [bndB, h1d, h2d, h3d], rfl⟩)
    · have h2d := bsT h2
      have g'15 := (jn @h2 (jn @h2d g'11))
      refine runTf g'15 ?_
      exact hQ _ _ (end_plain (.inl rfl) hbel (x := .bool false) (resT Tryz.results49) rfl ⟨by simp [bndB, h1d, h2d], rfl⟩)
  · have h1d := bsT h1
    have g'16 := (jn @h1 @h1d)
    refine runTf g'16 ?_
    exact hQ _ _ (end_plain (.inl rfl) hbel (x := .bool false) (resT Tryz.results49) rfl ⟨by simp [bndB, h1d], rfl⟩)
theorem bbnd_c (H : AHeap) (tu : Int) (le : Int) (sl : Int) (ra : Int) : ACalls Tryz.prog 57 [.agg [.int .i64 tu, .int .i64 le, .int .i64 sl, .int .i64 ra]] H (fun v H' => v = .bool (bndB tu le sl ra) ∧ H' = H) := by
  refine AcT true Tryz.func57 ?_; intro hbel Q hQ
  refine runT ?_
  refine gd_split (fun h1 => ?_) (fun h1 => ?_)
  · have h1d := bsT h1
    have g'17 := (jn @h1 @h1d)
    refine runTf g'17 ?_
    refine gd_split (fun h2 => ?_) (fun h2 => ?_)
    · have h2d := bsT h2
      have g'18 := (jn @h2 (jn @h2d g'17))
      refine runTf g'18 ?_
      refine gd_split (fun h3 => ?_) (fun h3 => ?_)
      · have h3d := bsT h3
        have g'19 := (jn @h3 (jn @h3d g'18))
        refine runTf g'19 ?_
        refine gd_split (fun h4 => ?_) (fun h4 => ?_)
        · have h4d := bsT h4
          have g'20 := (jn @h4 (jn @h4d g'19))
          refine runTf g'20 ?_
          refine gd_split (fun h5 => ?_) (fun h5 => ?_)
          · have h5d := bsT h5
            have g'21 := (jn @h5 (jn @h5d g'20))
            refine runTf g'21 ?_
            refine gd_split (fun h6 => ?_) (fun h6 => ?_)
            · have h6d := bsT h6
              have g'22 := (jn @h6 (jn @h6d g'21))
              refine runTf g'22 ?_
              refine gd_split (fun h7 => ?_) (fun h7 => ?_)
              · have h7d := bsT h7
                have g'23 := (jn @h7 (jn @h7d g'22))
                refine runTf g'23 ?_
                exact hQ _ _ (end_plain (.inl rfl) hbel (x := .bool (decide (ra ≤ 32))) (resT Tryz.results57) rfl ⟨by simp [bndB, btw, h1d, h2d, h3d, h4d, h5d, h6d, h7d], rfl⟩)
              · have h7d := bsT h7
                have g'24 := (jn @h7 (jn @h7d g'22))
                refine runTf g'24 ?_
                exact hQ _ _ (end_plain (.inl rfl) hbel (x := .bool false) (resT Tryz.results57) rfl ⟨by simp [bndB, btw, h1d, h2d, h3d, h4d, h5d, h6d, h7d], rfl⟩)
            · have h6d := bsT h6
              have g'25 := (jn @h6 (jn @h6d g'21))
              refine runTf g'25 ?_
              exact hQ _ _ (end_plain (.inl rfl) hbel (x := .bool false) (resT Tryz.results57) rfl ⟨by simp [bndB, btw, h1d, h2d, h3d, h4d, h5d, h6d], rfl⟩)
          · have h5d := bsT h5
            have g'26 := (jn @h5 (jn @h5d g'20))
            refine runTf g'26 ?_
            exact hQ _ _ (end_plain (.inl rfl) hbel (x := .bool false) (resT Tryz.results57) rfl ⟨by simp [bndB, btw, h1d, h2d, h3d, h4d, h5d], rfl⟩)
        · have h4d := bsT h4
          have g'27 := (jn @h4 (jn @h4d g'19))
          refine runTf g'27 ?_
          exact hQ _ _ (end_plain (.inl rfl) hbel (x := .bool false) (resT Tryz.results57) rfl ⟨by simp [bndB, btw, h1d, h2d, h3d, h4d], rfl⟩)
      · have h3d := bsT h3
        have g'28 := (jn @h3 (jn @h3d g'18))
        refine runTf g'28 ?_
        exact hQ _ _ (end_plain (.inl rfl) hbel (x := .bool false) (resT Tryz.results57) rfl ⟨by simp [bndB, btw, h1d, h2d, h3d], rfl⟩)
    · have h2d := bsT h2
      have g'29 := (jn @h2 (jn @h2d g'17))
      refine runTf g'29 ?_
      exact hQ _ _ (end_plain (.inl rfl) hbel (x := .bool false) (resT Tryz.results57) rfl ⟨by simp [bndB, btw, h1d, h2d], rfl⟩)
  · have h1d := bsT h1
    have g'30 := (jn @h1 @h1d)
    refine runTf g'30 ?_
    exact hQ _ _ (end_plain (.inl rfl) hbel (x := .bool false) (resT Tryz.results57) rfl ⟨by simp [bndB, btw, h1d], rfl⟩)
theorem mfloor_c (H : AHeap) (a : Int) (b : Int) (hb : 0 < b) (hw : -4611686018427387904 ≤ a ∧ a ≤ 4611686018427387904) : ACalls Tryz.prog 55 [.int .i64 a, .int .i64 b] H (fun v H' => v = .int .i64 (a / b) ∧ H' = H) := by
  have htd := tdiv_bd (a := a) (b := b) hb hw
  refine AcT true Tryz.func55 ?_; intro hbel Q hQ
  refine runT ?_
  refine cond_split (fun h1 => ?_) (fun h1 => ?_)
  · have h1d := bsT h1
    have hfinq : Int.tdiv a b - 1 = a / b := by rw [← floor_eq hb, if_pos h1d]
    have g'33 := (jn @h1 @h1d)
    refine runTf g'33 ?_
    exact hQ _ _ (end_plain0 (.inl rfl) hbel (x := .int .i64 ((Int.tdiv a b) - 1)) (resT Tryz.results55) rfl ⟨congrArg (AV.int .i64) hfinq, rfl⟩)
  · have h1d := bsT h1
    have hfinq : Int.tdiv a b = a / b := by rw [← floor_eq hb, if_neg (by omega)]
    have g'34 := (jn @h1 @h1d)
    refine runTf g'34 ?_
    exact hQ _ _ (end_plain0 (.inl rfl) hbel (x := .int .i64 (Int.tdiv a b)) (resT Tryz.results55) rfl ⟨congrArg (AV.int .i64) hfinq, rfl⟩)
theorem bfloor_c (H : AHeap) (a : Int) (b : Int) (hb : 0 < b) (hw : -4611686018427387904 ≤ a ∧ a ≤ 4611686018427387904) : ACalls Tryz.prog 30 [.int .i64 a, .int .i64 b] H (fun v H' => v = .int .i64 (a / b) ∧ H' = H) := by
  have htd := tdiv_bd (a := a) (b := b) hb hw
  refine AcT true Tryz.func30 ?_; intro hbel Q hQ
  refine runT ?_
  refine cond_split (fun h1 => ?_) (fun h1 => ?_)
  · have h1d := bsT h1
    have hfinq : Int.tdiv a b - 1 = a / b := by rw [← floor_eq hb, if_pos h1d]
    have g'35 := (jn @h1 @h1d)
    refine runTf g'35 ?_
    exact hQ _ _ (end_plain0 (.inl rfl) hbel (x := .int .i64 ((Int.tdiv a b) - 1)) (resT Tryz.results30) rfl ⟨congrArg (AV.int .i64) hfinq, rfl⟩)
  · have h1d := bsT h1
    have hfinq : Int.tdiv a b = a / b := by rw [← floor_eq hb, if_neg (by omega)]
    have g'36 := (jn @h1 @h1d)
    refine runTf g'36 ?_
    exact hQ _ _ (end_plain0 (.inl rfl) hbel (x := .int .i64 (Int.tdiv a b)) (resT Tryz.results30) rfl ⟨congrArg (AV.int .i64) hfinq, rfl⟩)
theorem pdown_c (H : AHeap) (a : Int) (b : Int) (hb : 0 < b) (hw : -4611686018427387904 ≤ a ∧ a ≤ 4611686018427387904) : ACalls Tryz.prog 166 [.int .i64 a, .int .i64 b] H (fun v H' => v = .int .i64 (a / b) ∧ H' = H) := by
  have htd := tdiv_bd (a := a) (b := b) hb hw
  refine AcT true Tryz.func166 ?_; intro hbel Q hQ
  refine runT ?_
  refine cond_split (fun h1 => ?_) (fun h1 => ?_)
  · have h1d := bsT h1
    have hfinq : Int.tdiv a b - 1 = a / b := by rw [← floor_eq hb, if_pos h1d]
    have g'37 := (jn @h1 @h1d)
    refine runTf g'37 ?_
    exact hQ _ _ (end_plain0 (.inl rfl) hbel (x := .int .i64 ((Int.tdiv a b) - 1)) (resT Tryz.results166) rfl ⟨congrArg (AV.int .i64) hfinq, rfl⟩)
  · have h1d := bsT h1
    have hfinq : Int.tdiv a b = a / b := by rw [← floor_eq hb, if_neg (by omega)]
    have g'38 := (jn @h1 @h1d)
    refine runTf g'38 ?_
    exact hQ _ _ (end_plain0 (.inl rfl) hbel (x := .int .i64 (Int.tdiv a b)) (resT Tryz.results166) rfl ⟨congrArg (AV.int .i64) hfinq, rfl⟩)
theorem bmod_c (H : AHeap) (a : Int) (b : Int) (hb : 0 < b) (hw : b ≤ 4611686018427387904) : ACalls Tryz.prog 29 [.int .i64 a, .int .i64 b] H (fun v H' => v = .int .i64 (((a % b).toNat : Nat) : Int) ∧ H' = H) := by
  have hmd := mod_nn (a := a) hb
  have hm1 := Int.emod_nonneg a (by omega : b ≠ 0)
  have hm2 := Int.emod_lt_of_pos a hb
  have hm3 : -b ≤ Int.tmod a b ∧ Int.tmod a b < b := by split at hmd <;> omega
  refine AcT true Tryz.func29 ?_; intro hbel Q hQ
  refine runT ?_
  refine cond_split (fun h1 => ?_) (fun h1 => ?_)
  · have h1d := bsT h1
    have hfinq : Int.tmod a b + b = (((a % b).toNat : Nat) : Int) := by rw [if_pos h1d] at hmd; omega
    have g'39 := (jn @h1 @h1d)
    refine runTf g'39 ?_
    exact hQ _ _ (end_plain0 (.inl rfl) hbel (x := .int .i64 ((Int.tmod a b) + b)) (resT Tryz.results29) rfl ⟨congrArg (AV.int .i64) hfinq, rfl⟩)
  · have h1d := bsT h1
    have hfinq : Int.tmod a b = (((a % b).toNat : Nat) : Int) := by rw [if_neg (by omega)] at hmd; omega
    have g'40 := (jn @h1 @h1d)
    refine runTf g'40 ?_
    exact hQ _ _ (end_plain0 (.inl rfl) hbel (x := .int .i64 (Int.tmod a b)) (resT Tryz.results29) rfl ⟨congrArg (AV.int .i64) hfinq, rfl⟩)
theorem mark_c (H : AHeap) (h : Int) : ACalls Tryz.prog 111 [.int .i64 h] H (fun v H' => v = .int .i64 (((h % 256).toNat : Nat) : Int) ∧ H' = H) := by
  refine AcT true Tryz.func111 ?_; intro hbel Q hQ
  have g'41 := @i64_and255
  refine runTf g'41 ?_
  exact hQ _ _ (end_plain0 (.inl rfl) hbel (x := .int .i64 (((h % 256).toNat : Nat) : Int)) (resT Tryz.results111) rfl ⟨rfl, rfl⟩)
open Go.RowKit
/-- The state of the search for the common divisor. -/
def gst (x y d : Int) : Nat → Nat
  | 0 => d.natAbs
  | 1 => Nat.gcd d.natAbs x.natAbs
  | _ + 2 => gcd3 x y d
def nst (x y : Int) : Nat → Nat
  | 0 => x.natAbs
  | _ + 1 => y.natAbs
theorem gcd_step (a b : Nat) : Nat.gcd b (a % b) = Nat.gcd a b := by rw [Nat.gcd_comm b, ← Nat.gcd_rec, Nat.gcd_comm]
theorem rot_ok {v : Vec} (h : vecOK v = true) : ∀ n, vecOK (rotN v n) = true
  | 0 => h
  | n + 1 => by
    have ih := vecOK_iff.1 (rot_ok h n)
    rw [vecOK_iff]
    unfold rotN
    simp only
    refine ⟨ih.1, by omega, by omega, ?_⟩
    rw [Int.neg_mul_neg]; omega
theorem dir0_ok {k : Nat} (h : k < 64) : vecOK (dir0 k) = true := by
  have := List.all_eq_true.1 dirs_ok k (by simp; omega)
  unfold dirN at this
  rwa [Nat.mod_eq_of_lt h, Nat.div_eq_of_lt h] at this
theorem rotN_D (v : Vec) : ∀ n, (rotN v n).2.2 = v.2.2
  | 0 => rfl
  | n + 1 => rotN_D v n
theorem abs4_c (H : AHeap) (n : Int) (h : -4611686018427387904 ≤ n ∧ n ≤ 4611686018427387904) : ACalls Tryz.prog 149 [.int .i64 n] H (fun v H' => v = .int .i64 ((n.natAbs : Nat) : Int) ∧ H' = H) := by
  refine AcT true Tryz.func149 ?_; intro hbel Q hQ
  refine runT ?_
  refine cond_split (fun h1 => ?_) (fun h1 => ?_)
  · have h1d := bsT h1
    have g'1 := (jn @h1 @h1d)
    refine runTf g'1 ?_
    exact hQ _ _ (end_plain0 (.inl rfl) hbel (x := .int .i64 (0 - n)) (resT Tryz.results149) rfl ⟨congrArg (AV.int .i64) (by omega), rfl⟩)
  · have h1d := bsT h1
    have g'2 := (jn @h1 @h1d)
    refine runTf g'2 ?_
    exact hQ _ _ (end_plain0 (.inl rfl) hbel (x := .int .i64 n) (resT Tryz.results149) rfl ⟨congrArg (AV.int .i64) (by omega), rfl⟩)
theorem gcd_n (H : AHeap) (a0 : Nat) (b0 : Nat) (c0 : Nat) : ACalls Tryz.prog 148 [.int .i64 ((a0 : Nat) : Int), .int .i64 ((b0 : Nat) : Int), .int .i64 ((c0 : Nat) : Int)] H (fun v H' => v = .int .i64 ((Nat.gcd (Nat.gcd a0 b0) c0 : Nat) : Int) ∧ H' = H) := by
  refine AcT true Tryz.func148 ?_; intro hbel Q hQ
  have g'3 := @rem_nat
  refine runTf g'3 ?_
  refine go_loop try_mixed (by kernel_rfl) (fun k F Hx => ∃ a : Nat, ∃ b : Nat, b = k ∧ Nat.gcd a b = Nat.gcd a0 b0 ∧ F = [(0, .int .i64 ((a : Nat) : Int)), (1, .int .i64 ((b : Nat) : Int)), (2, .int .i64 ((c0 : Nat) : Int))] ∧ H = Hx) (b0) ?_ ?_
  · refine ⟨_, _, _, ⟨a0, b0, by omega, rfl, rfl, rfl⟩, Abs.by0 hbel ?_⟩
    exact absW
  · rintro k0 F Hx ⟨a, b, hm0, hG, rfl, rfl⟩ J0 hJ0
    refine runTf g'3 ?_
    refine cond_split (fun h1 => ?_) (fun h1 => ?_)
    · have h1d := bsT h1
      have hlt : a % b < b := Nat.mod_lt _ (by omega)
      have g'4 := (jn @h1 (jn @h1d g'3))
      refine runTf g'4 ?_
      refine hJ0 _ _ ⟨a % b, by omega, _, _, _, ⟨b, a % b, by omega, by rw [← hG, gcd_step], rfl, rfl⟩, Abs.by0 hbel ?_⟩
      exact absW
    · have h1d := bsT h1
      obtain rfl : b = 0 := by omega
      rw [Nat.gcd_zero_right] at hG
      have g'5 := (jn @h1 (jn @h1d g'3))
      refine runTf g'5 ?_
      refine go_loop try_mixed (by kernel_rfl) (fun k F Hx => ∃ a2 : Nat, ∃ c : Nat, c = k ∧ Nat.gcd a2 c = Nat.gcd (Nat.gcd a0 b0) c0 ∧ F = [(0, .int .i64 ((a2 : Nat) : Int)), (2, .int .i64 ((c : Nat) : Int))] ∧ H = Hx) (c0) ?_ ?_
      · refine ⟨_, _, _, ⟨a, c0, by omega, by rw [hG], rfl, rfl⟩, Abs.by0 hbel ?_⟩
        exact absW
      · rintro k1 F Hx ⟨a2, c, hm1, hG, rfl, rfl⟩ J1 hJ1
        refine runTf g'5 ?_
        refine cond_split (fun h2 => ?_) (fun h2 => ?_)
        · have h2d := bsT h2
          have hlt : a2 % c < c := Nat.mod_lt _ (by omega)
          have g'6 := (jn @h2 (jn @h2d g'5))
          refine runTf g'6 ?_
          refine hJ1 _ _ ⟨a2 % c, by omega, _, _, _, ⟨c, a2 % c, by omega, by rw [← hG, gcd_step], rfl, rfl⟩, Abs.by0 hbel ?_⟩
          exact absW
        · have h2d := bsT h2
          obtain rfl : c = 0 := by omega
          rw [Nat.gcd_zero_right] at hG
          have hfing := hG
          have g'7 := (jn @h2 (jn @h2d g'5))
          refine runTf g'7 ?_
          exact hQ _ _ (end_plain0 (.inl rfl) hbel (x := .int .i64 ((a2 : Nat) : Int)) (resT Tryz.results148) rfl ⟨congrArg (AV.int .i64) (by rw [hfing]), rfl⟩)
theorem gcd_x (H : AHeap) (x y d : Int) (hd : 0 ≤ d) : ACalls Tryz.prog 148 [.int .i64 ((x.natAbs : Nat) : Int), .int .i64 ((y.natAbs : Nat) : Int), .int .i64 d] H (fun v H' => v = .int .i64 ((gcd3 x y d : Nat) : Int) ∧ H' = H) := by
  obtain ⟨n, rfl⟩ := Int.eq_ofNat_of_zero_le hd
  have h := gcd_n H x.natAbs y.natAbs n
  rw [← gcd3_comm, Int.natAbs_natCast]
  exact h
theorem rlow_c (H : AHeap) (x : Int) (y : Int) (d : Int) (hd : 0 < d) (kbx : -1152921504606846976 ≤ x ∧ x ≤ 1152921504606846976) (kby : -1152921504606846976 ≤ y ∧ y ≤ 1152921504606846976) (kbd : -1152921504606846976 ≤ d ∧ d ≤ 1152921504606846976) : ACalls Tryz.prog 98 [.int .i64 x, .int .i64 y, .int .i64 d] H (fun v H' => v = .agg [.int .i64 ((lowV x y d).1), .int .i64 ((lowV x y d).2.1), .int .i64 ((lowV x y d).2.2)] ∧ H' = H) := by
  refine AcT true Tryz.func98 ?_; intro hbel Q hQ
  refine runT ?_
  refine call_v (by kernel_rfl) (abs4_c _ x (by omega)) ?_
  refine runT ?_
  refine call_v (by kernel_rfl) (abs4_c _ y (by omega)) ?_
  refine runT ?_
  refine call_v (by kernel_rfl) (gcd_x _ x y d (by omega)) ?_
  have hg0 : 0 < gcd3 x y d := gcd3_pos (by omega)
  have t1 := tdiv_bd (a := x) (b := ((gcd3 x y d : Nat) : Int)) (by omega) (by omega)
  have t2 := tdiv_bd (a := y) (b := ((gcd3 x y d : Nat) : Int)) (by omega) (by omega)
  have t3 := tdiv_bd (a := d) (b := ((gcd3 x y d : Nat) : Int)) (by omega) (by omega)
  refine runT ?_
  exact hQ _ _ (end_plain (.inl rfl) hbel (x := .agg [.int .i64 (Int.tdiv x ((gcd3 x y d : Nat) : Int)), .int .i64 (Int.tdiv y ((gcd3 x y d : Nat) : Int)), .int .i64 (Int.tdiv d ((gcd3 x y d : Nat) : Int))]) (resT Tryz.results98) rfl ⟨rfl, rfl⟩)
theorem low_c (H : AHeap) (x : Int) (y : Int) (d : Int) (hd : 0 < d) (kbx : -1152921504606846976 ≤ x ∧ x ≤ 1152921504606846976) (kby : -1152921504606846976 ≤ y ∧ y ≤ 1152921504606846976) (kbd : -1152921504606846976 ≤ d ∧ d ≤ 1152921504606846976) : ACalls Tryz.prog 112 [.int .i64 x, .int .i64 y, .int .i64 d] H (fun v H' => v = .agg [.int .i64 ((lowV x y d).1), .int .i64 ((lowV x y d).2.1), .int .i64 ((lowV x y d).2.2)] ∧ H' = H) := by
  have hmx : (if x < 0 - x then 0 - x else x) = ((x.natAbs : Nat) : Int) := by split <;> omega
  have hmy : (if y < 0 - y then 0 - y else y) = ((y.natAbs : Nat) : Int) := by split <;> omega
  have hg00 : ((gst x y d 0 : Nat) : Int) = d := by simp only [gst]; omega
  have hg2 : gst x y d 2 = gcd3 x y d := rfl
  have hg0 : 0 < gcd3 x y d := gcd3_pos (by omega)
  have t1 := tdiv_bd (a := x) (b := ((gcd3 x y d : Nat) : Int)) (by omega) (by omega)
  have t2 := tdiv_bd (a := y) (b := ((gcd3 x y d : Nat) : Int)) (by omega) (by omega)
  have t3 := tdiv_bd (a := d) (b := ((gcd3 x y d : Nat) : Int)) (by omega) (by omega)
  refine AcT true Tryz.func112 ?_; intro hbel Q hQ
  have g'8 := (jn @hmx (jn @hmy (jn @hg2 @rem_nat)))
  refine runTf g'8 ?_
  refine go_loop try_mixed (by kernel_rfl) (fun k F Hx => ∃ j : Nat, j + k = 2 ∧ F = [(0, .int .i64 x), (1, .int .i64 y), (2, .int .i64 d), (6, .ptr (some (H.length, 0))), (7, .int .i64 ((gst x y d j : Nat) : Int)), (13, .agg [.int .i64 x, .int .i64 y]), (14, .int .i64 ((j : Nat) : Int))] ∧ Hx = H ++ [.cells true 0 [.int .i64 0, .int .i64 0, .int .i64 0]]) (2) ?_ ?_
  · refine ⟨_, _, _, ⟨0, by omega, rfl, rfl⟩, Abs.byG hbel [] rfl [0] (by decide) ?_⟩
    exact absWf (jn @hg00 @Int.natCast_zero)
  · rintro k0 F Hx ⟨j, hm0, rfl, rfl⟩ J0 hJ0
    refine runTf g'8 ?_
    refine cond_split (fun h1 => ?_) (fun h1 => ?_)
    · have h1d := bsT h1
      obtain rfl | rfl := (by omega : j = 0 ∨ j = 1)
      · skip
        have g'9 := (jn @h1 (jn @h1d g'8))
        refine runTf g'9 ?_
        refine go_loop try_mixed (by kernel_rfl) (fun k F Hx => ∃ a : Nat, ∃ b : Nat, b = k ∧ Nat.gcd a b = gst x y d (0 + 1) ∧ F = [(0, .int .i64 x), (1, .int .i64 y), (2, .int .i64 d), (6, .ptr (some (H.length, 0))), (7, .int .i64 ((a : Nat) : Int)), (9, .int .i64 ((b : Nat) : Int)), (13, .agg [.int .i64 x, .int .i64 y]), (14, .int .i64 0)] ∧ Hx = H ++ [.cells true 0 [.int .i64 0, .int .i64 0, .int .i64 0]]) (nst x y 0) ?_ ?_
        · refine ⟨_, _, _, ⟨gst x y d 0, nst x y 0, by omega, rfl, rfl, rfl⟩, Abs.byG hbel [] rfl [0] (by decide) ?_⟩
          exact absWf (jn @nst.eq_1 @nst.eq_2)
        · rintro k1 F Hx ⟨a, b, hm1, hG, rfl, rfl⟩ J1 hJ1
          refine runTf g'9 ?_
          refine cond_split (fun h2 => ?_) (fun h2 => ?_)
          · have h2d := bsT h2
            have hlt : a % b < b := Nat.mod_lt _ (by omega)
            have g'10 := (jn @h2 (jn @h2d (jn @int_bne (jn @int_beq g'9))))
            refine runTf g'10 ?_
            refine hJ1 _ _ ⟨a % b, by omega, _, _, _, ⟨b, a % b, by omega, by rw [← hG, gcd_step], rfl, rfl⟩, Abs.byG hbel [] rfl [0] (by decide) ?_⟩
            exact absWf @h2d
          · have h2d := bsT h2
            obtain rfl : b = 0 := by omega
            rw [Nat.gcd_zero_right] at hG
            have g'11 := (jn @h2 (jn @h2d (jn @int_bne (jn @int_beq g'9))))
            refine runTf g'11 ?_
            refine hJ0 _ _ ⟨k0 - 1, by omega, _, _, _, ⟨0 + 1, by omega, rfl, rfl⟩, Abs.byG hbel [] rfl [0] (by decide) ?_⟩
            exact absWf (jn @hG @h2d)
      · skip
        have g'12 := (jn @h1 (jn @h1d g'8))
        refine runTf g'12 ?_
        refine go_loop try_mixed (by kernel_rfl) (fun k F Hx => ∃ a : Nat, ∃ b : Nat, b = k ∧ Nat.gcd a b = gst x y d (1 + 1) ∧ F = [(0, .int .i64 x), (1, .int .i64 y), (2, .int .i64 d), (6, .ptr (some (H.length, 0))), (7, .int .i64 ((a : Nat) : Int)), (9, .int .i64 ((b : Nat) : Int)), (13, .agg [.int .i64 x, .int .i64 y]), (14, .int .i64 1)] ∧ Hx = H ++ [.cells true 0 [.int .i64 0, .int .i64 0, .int .i64 0]]) (nst x y 1) ?_ ?_
        · refine ⟨_, _, _, ⟨gst x y d 1, nst x y 1, by omega, rfl, rfl, rfl⟩, Abs.byG hbel [] rfl [0] (by decide) ?_⟩
          exact absWf (jn @nst.eq_1 @nst.eq_2)
        · rintro k1 F Hx ⟨a, b, hm1, hG, rfl, rfl⟩ J1 hJ1
          refine runTf g'12 ?_
          refine cond_split (fun h3 => ?_) (fun h3 => ?_)
          · have h3d := bsT h3
            have hlt : a % b < b := Nat.mod_lt _ (by omega)
            have g'13 := (jn @h3 (jn @h3d (jn @int_bne (jn @int_beq g'12))))
            refine runTf g'13 ?_
            refine hJ1 _ _ ⟨a % b, by omega, _, _, _, ⟨b, a % b, by omega, by rw [← hG, gcd_step], rfl, rfl⟩, Abs.byG hbel [] rfl [0] (by decide) ?_⟩
            exact absWf @h3d
          · have h3d := bsT h3
            obtain rfl : b = 0 := by omega
            rw [Nat.gcd_zero_right] at hG
            have g'14 := (jn @h3 (jn @h3d (jn @int_bne (jn @int_beq g'12))))
            refine runTf g'14 ?_
            refine hJ0 _ _ ⟨k0 - 1, by omega, _, _, _, ⟨1 + 1, by omega, rfl, rfl⟩, Abs.byG hbel [] rfl [0] (by decide) ?_⟩
            exact absWf (jn @hG @h3d)
    · have h1d := bsT h1
      obtain rfl : j = 2 := by omega
      skip
      have g'15 := (jn @h1 (jn @h1d g'8))
      refine runTf g'15 ?_
      exact hQ _ _ (end_plain (.inl rfl) hbel (x := .agg [.int .i64 (Int.tdiv x ((gcd3 x y d : Nat) : Int)), .int .i64 (Int.tdiv y ((gcd3 x y d : Nat) : Int)), .int .i64 (Int.tdiv d ((gcd3 x y d : Nat) : Int))]) (resT Tryz.results112) rfl ⟨rfl, rfl⟩)
theorem dir_c (H : AHeap) (h : Int) : ACalls Tryz.prog 53 [.int .i64 h] H (fun v H' => v = .agg [.int .i64 ((dirV h).1), .int .i64 ((dirV h).2.1), .int .i64 ((dirV h).2.2)] ∧ H' = H) := by
  have hK : ((h % 256).toNat % 64) < 64 := Nat.mod_lt _ (by decide)
  have hN : ((h % 256).toNat / 64) ≤ 3 := by omega
  have hkk := mul_bd (a := ((((h % 256).toNat % 64) : Nat) : Int)) (b := ((((h % 256).toNat % 64) : Nat) : Int)) (A := 63) (B := 63) (by omega) (by omega)
  refine AcT true Tryz.func53 ?_; intro hbel Q hQ
  have g'16 := (jn @rem_n64 @quo_n64)
  refine runTf g'16 ?_
  refine call_v (by kernel_rfl) (mark_c _ h) ?_
  refine runTf g'16 ?_
  refine call_v (by kernel_rfl) (low_c _ (4096 - (((((h % 256).toNat) % 64 : Nat) : Int) * ((((h % 256).toNat) % 64 : Nat) : Int))) (128 * ((((h % 256).toNat) % 64 : Nat) : Int)) (4096 + (((((h % 256).toNat) % 64 : Nat) : Int) * ((((h % 256).toNat) % 64 : Nat) : Int))) (by omega) (by omega) (by omega) (by omega)) ?_
  refine runTf g'16 ?_
  refine go_loop try_mixed (by kernel_rfl) (fun k F Hx => ∃ n : Nat, n + k = ((h % 256).toNat / 64) ∧ F = [(2, .ptr (some (H.length, 0))), (4, .ptr (some (H.length + 1, 0))), (21, .int .i64 ((((h % 256).toNat) / 64 : Nat) : Int)), (22, .int .i64 ((n : Nat) : Int))] ∧ Hx = H ++ [.cells true 0 [.int .i64 0, .int .i64 0, .int .i64 0], .cells true 0 [.int .i64 ((rotN (dir0 ((h % 256).toNat % 64)) n).1), .int .i64 ((rotN (dir0 ((h % 256).toNat % 64)) n).2.1), .int .i64 ((lowV (4096 - (((((h % 256).toNat) % 64 : Nat) : Int) * ((((h % 256).toNat) % 64 : Nat) : Int))) (128 * ((((h % 256).toNat) % 64 : Nat) : Int)) (4096 + (((((h % 256).toNat) % 64 : Nat) : Int) * ((((h % 256).toNat) % 64 : Nat) : Int)))).2.2)]]) (((h % 256).toNat / 64)) ?_ ?_
  · refine ⟨_, _, _, ⟨0, by omega, rfl, rfl⟩, Abs.byG hbel [] rfl [0, 1] (by decide) ?_⟩
    exact absWf (jn @rotN.eq_1 @dir0.eq_1)
  · rintro k0 F Hx ⟨n, hm0, rfl, rfl⟩ J0 hJ0
    refine runTf g'16 ?_
    refine cond_split (fun h1 => ?_) (fun h1 => ?_)
    · have h1d := bsT h1
      have hro := vecOK_iff.1 (rot_ok (dir0_ok hK) n)
      have g'17 := (jn @h1 (jn @h1d g'16))
      refine runTf g'17 ?_
      refine hJ0 _ _ ⟨k0 - 1, by omega, _, _, _, ⟨n + 1, by omega, rfl, rfl⟩, Abs.byG hbel [] rfl [0, 1] (by decide) ?_⟩
      exact absWf (jn @rotN.eq_2 @Int.zero_sub)
    · have h1d := bsT h1
      have hfinn : n = ((h % 256).toNat / 64) := by omega
      have g'18 := (jn @h1 (jn @h1d g'16))
      refine runTf g'18 ?_
      exact hQ _ _ (end_plain (.inl rfl) hbel (x := .agg [.int .i64 ((rotN (dir0 ((h % 256).toNat % 64)) n).1), .int .i64 ((rotN (dir0 ((h % 256).toNat % 64)) n).2.1), .int .i64 ((lowV (4096 - (((((h % 256).toNat) % 64 : Nat) : Int) * ((((h % 256).toNat) % 64 : Nat) : Int))) (128 * ((((h % 256).toNat) % 64 : Nat) : Int)) (4096 + (((((h % 256).toNat) % 64 : Nat) : Int) * ((((h % 256).toNat) % 64 : Nat) : Int)))).2.2)]) (resT Tryz.results53) rfl ⟨by subst hfinn; rw [show dirV h = rotN (dir0 ((h % 256).toNat % 64)) ((h % 256).toNat / 64) from rfl, rotN_D]; rfl, rfl⟩)
theorem rdir_c (H : AHeap) (h : Int) : ACalls Tryz.prog 39 [.int .i64 h] H (fun v H' => v = .agg [.int .i64 ((dirV h).1), .int .i64 ((dirV h).2.1), .int .i64 ((dirV h).2.2)] ∧ H' = H) := by
  have hK : ((h % 256).toNat % 64) < 64 := Nat.mod_lt _ (by decide)
  have hN : ((h % 256).toNat / 64) ≤ 3 := by omega
  have hkk := mul_bd (a := ((((h % 256).toNat % 64) : Nat) : Int)) (b := ((((h % 256).toNat % 64) : Nat) : Int)) (A := 63) (B := 63) (by omega) (by omega)
  refine AcT true Tryz.func39 ?_; intro hbel Q hQ
  have g'19 := (jn @rem_n64 @quo_n64)
  refine runTf g'19 ?_
  refine call_v (by kernel_rfl) (bmod_c _ h 256 (by omega) (by omega)) ?_
  refine runTf g'19 ?_
  refine call_v (by kernel_rfl) (rlow_c _ (4096 - (((((h % 256).toNat) % 64 : Nat) : Int) * ((((h % 256).toNat) % 64 : Nat) : Int))) (128 * ((((h % 256).toNat) % 64 : Nat) : Int)) (4096 + (((((h % 256).toNat) % 64 : Nat) : Int) * ((((h % 256).toNat) % 64 : Nat) : Int))) (by omega) (by omega) (by omega) (by omega)) ?_
  refine runTf g'19 ?_
  refine go_loop try_mixed (by kernel_rfl) (fun k F Hx => ∃ n : Nat, n + k = ((h % 256).toNat / 64) ∧ F = [(0, .int .i64 (((h % 256).toNat : Nat) : Int)), (2, .ptr (some (H.length, 0))), (4, .ptr (some (H.length + 1, 0))), (5, .int .i64 ((n : Nat) : Int))] ∧ Hx = H ++ [.cells true 0 [.int .i64 0, .int .i64 0, .int .i64 0], .cells true 0 [.int .i64 ((rotN (dir0 ((h % 256).toNat % 64)) n).1), .int .i64 ((rotN (dir0 ((h % 256).toNat % 64)) n).2.1), .int .i64 ((lowV (4096 - (((((h % 256).toNat) % 64 : Nat) : Int) * ((((h % 256).toNat) % 64 : Nat) : Int))) (128 * ((((h % 256).toNat) % 64 : Nat) : Int)) (4096 + (((((h % 256).toNat) % 64 : Nat) : Int) * ((((h % 256).toNat) % 64 : Nat) : Int)))).2.2)]]) (((h % 256).toNat / 64)) ?_ ?_
  · refine ⟨_, _, _, ⟨0, by omega, rfl, rfl⟩, Abs.byG hbel [] rfl [0, 1] (by decide) ?_⟩
    exact absWf (jn @rotN.eq_1 @dir0.eq_1)
  · rintro k0 F Hx ⟨n, hm0, rfl, rfl⟩ J0 hJ0
    refine runTf g'19 ?_
    refine cond_split (fun h1 => ?_) (fun h1 => ?_)
    · have h1d := bsT h1
      have hro := vecOK_iff.1 (rot_ok (dir0_ok hK) n)
      have g'20 := (jn @h1 (jn @h1d g'19))
      refine runTf g'20 ?_
      refine hJ0 _ _ ⟨k0 - 1, by omega, _, _, _, ⟨n + 1, by omega, rfl, rfl⟩, Abs.byG hbel [] rfl [0, 1] (by decide) ?_⟩
      exact absWf (jn @rotN.eq_2 @Int.zero_sub)
    · have h1d := bsT h1
      have hfinn : n = ((h % 256).toNat / 64) := by omega
      have g'21 := (jn @h1 (jn @h1d g'19))
      refine runTf g'21 ?_
      exact hQ _ _ (end_plain (.inl rfl) hbel (x := .agg [.int .i64 ((rotN (dir0 ((h % 256).toNat % 64)) n).1), .int .i64 ((rotN (dir0 ((h % 256).toNat % 64)) n).2.1), .int .i64 ((lowV (4096 - (((((h % 256).toNat) % 64 : Nat) : Int) * ((((h % 256).toNat) % 64 : Nat) : Int))) (128 * ((((h % 256).toNat) % 64 : Nat) : Int)) (4096 + (((((h % 256).toNat) % 64 : Nat) : Int) * ((((h % 256).toNat) % 64 : Nat) : Int)))).2.2)]) (resT Tryz.results39) rfl ⟨by subst hfinn; rw [show dirV h = rotN (dir0 ((h % 256).toNat % 64)) ((h % 256).toNat / 64) from rfl, rotN_D]; rfl, rfl⟩)
open Go.RowKit
theorem dirV_nat {n : Nat} (h : n < 256) : dirV ((n : Nat) : Int) = dirN n := by
  unfold dirV
  rw [show (((n : Nat) : Int) % 256).toNat = n by omega]
theorem bey_lt {v : Vec} {x y : Int} (h : halfI v.1 v.2.1 < halfI x y) : beyB v x y = false := by
  unfold beyB
  have := halfI_or v.1 v.2.1
  have := halfI_or x y
  rw [if_neg (by omega)]
  exact decide_eq_false (by omega)
theorem bey_gt {v : Vec} {x y : Int} (h : ¬ halfI v.1 v.2.1 < halfI x y) (h2 : ¬ halfI v.1 v.2.1 = halfI x y) : beyB v x y = true := by
  unfold beyB
  have := halfI_or v.1 v.2.1
  have := halfI_or x y
  rw [if_neg h2]
  exact decide_eq_true (by omega)
theorem bey_eq {v : Vec} {x y : Int} (h : halfI v.1 v.2.1 = halfI x y) : beyB v x y = decide (v.1 * y - v.2.1 * x < 0) := by
  unfold beyB; rw [if_pos h]; rfl
def ptB (x y : Int) : Bool := within x 1048576 && within y 1048576
def towE (fx fy tx ty : Int) : Int := if (ptB fx fy && ptB tx ty) = true then (if fx = tx ∧ fy = ty then 9 else 0) else 1
def towI (fx fy tx ty : Int) : Int := if towE fx fy tx ty = 0 then ((towN (tx - fx) (ty - fy) 256 : Nat) : Int) else 0
theorem mvpt_c (H : AHeap) (x : Int) (y : Int) : ACalls Tryz.prog 95 [.agg [.int .i64 x, .int .i64 y]] H (fun v H' => v = .bool (ptB x y) ∧ H' = H) := by
  refine AcT true Tryz.func95 ?_; intro hbel Q hQ
  refine runT ?_
  refine call_v (by kernel_rfl) (mnear_c _ x) ?_
  refine runT ?_
  refine gd_split (fun h1 => ?_) (fun h1 => ?_)
  · have h1d := bsT h1
    have g'1 := (jn @h1 @h1d)
    refine runTf g'1 ?_
    refine call_v (by kernel_rfl) (mnear_c _ y) ?_
    refine runTf g'1 ?_
    exact hQ _ _ (end_plain (.inl rfl) hbel (x := .bool (within y 1048576)) (resT Tryz.results95) rfl ⟨by simp [ptB, h1d], rfl⟩)
  · have h1d := bsT h1
    have g'2 := (jn @h1 @h1d)
    refine runTf g'2 ?_
    exact hQ _ _ (end_plain (.inl rfl) hbel (x := .bool false) (resT Tryz.results95) rfl ⟨by simp [ptB, h1d], rfl⟩)
theorem bpt_c (H : AHeap) (x : Int) (y : Int) : ACalls Tryz.prog 97 [.agg [.int .i64 x, .int .i64 y]] H (fun v H' => v = .bool (ptB x y) ∧ H' = H) := by
  refine AcT true Tryz.func97 ?_; intro hbel Q hQ
  refine runT ?_
  refine call_v (by kernel_rfl) (bsize_c _ _ _ (by decide)) ?_
  refine runT ?_
  refine gd_split (fun h1 => ?_) (fun h1 => ?_)
  · have h1d := bsT h1
    have g'3 := (jn @h1 @h1d)
    refine runTf g'3 ?_
    refine call_v (by kernel_rfl) (bsize_c _ _ _ (by decide)) ?_
    refine runTf g'3 ?_
    exact hQ _ _ (end_plain (.inl rfl) hbel (x := .bool (within y 1048576)) (resT Tryz.results97) rfl ⟨by simp [ptB, h1d], rfl⟩)
  · have h1d := bsT h1
    have g'4 := (jn @h1 @h1d)
    refine runTf g'4 ?_
    exact hQ _ _ (end_plain (.inl rfl) hbel (x := .bool false) (resT Tryz.results97) rfl ⟨by simp [ptB, h1d], rfl⟩)
theorem mhalf_c (H : AHeap) (x : Int) (y : Int) : ACalls Tryz.prog 96 [.int .i64 x, .int .i64 y] H (fun v H' => v = .int .i64 (halfI x y) ∧ H' = H) := by
  refine AcT true Tryz.func96 ?_; intro hbel Q hQ
  refine runT ?_
  refine gd_split (fun h1 => ?_) (fun h1 => ?_)
  · have h1d := bsT h1
    have g'5 := (jn @h1 @h1d)
    refine runTf g'5 ?_
    refine gd_split (fun h2 => ?_) (fun h2 => ?_)
    · have h2d := bsT h2
      have g'6 := (jn @h2 (jn @h2d (jn @int_bne (jn @int_beq g'5))))
      refine runTf g'6 ?_
      refine cond_split (fun h3 => ?_) (fun h3 => ?_)
      · have h3d := bsT h3
        have g'7 := (jn @h3 (jn @h3d g'6))
        refine runTf g'7 ?_
        exact hQ _ _ (end_plain0 (.inl rfl) hbel (x := .int .i64 0) (resT Tryz.results96) rfl ⟨congrArg (AV.int .i64) (by unfold halfI; first | rw [if_pos (by omega)] | rw [if_neg (by omega)]), rfl⟩)
      · have h3d := bsT h3
        have g'8 := (jn @h3 (jn @h3d g'6))
        refine runTf g'8 ?_
        exact hQ _ _ (end_plain0 (.inl rfl) hbel (x := .int .i64 1) (resT Tryz.results96) rfl ⟨congrArg (AV.int .i64) (by unfold halfI; first | rw [if_pos (by omega)] | rw [if_neg (by omega)]), rfl⟩)
    · have h2d := bsT h2
      have g'9 := (jn @h2 (jn @h2d (jn @int_bne (jn @int_beq g'5))))
      refine runTf g'9 ?_
      exact hQ _ _ (end_plain0 (.inl rfl) hbel (x := .int .i64 1) (resT Tryz.results96) rfl ⟨congrArg (AV.int .i64) (by unfold halfI; first | rw [if_pos (by omega)] | rw [if_neg (by omega)]), rfl⟩)
  · have h1d := bsT h1
    have g'10 := (jn @h1 @h1d)
    refine runTf g'10 ?_
    exact hQ _ _ (end_plain0 (.inl rfl) hbel (x := .int .i64 0) (resT Tryz.results96) rfl ⟨congrArg (AV.int .i64) (by unfold halfI; first | rw [if_pos (by omega)] | rw [if_neg (by omega)]), rfl⟩)
theorem toward_c (H : AHeap) (fx : Int) (fy : Int) (tx : Int) (ty : Int) : ACalls Tryz.prog 36 [.agg [.int .i64 fx, .int .i64 fy], .agg [.int .i64 tx, .int .i64 ty]] H (fun v H' => v = .tup [.int .i64 (towI fx fy tx ty), .int .i64 (towE fx fy tx ty)] ∧ H' = H) := by
  refine AcT true Tryz.func36 ?_; intro hbel Q hQ
  refine runT ?_
  refine call_v (by kernel_rfl) (mvpt_c _ fx fy) ?_
  refine runT ?_
  refine gd_split (fun h1 => ?_) (fun h1 => ?_)
  · have h1d := bsT h1
    have hp1 := h1d
    simp only [ptB, Bool.and_eq_true, within_iff] at hp1
    have g'37 := (jn @h1 @h1d)
    refine runTf g'37 ?_
    refine call_v (by kernel_rfl) (mvpt_c _ tx ty) ?_
    refine runTf g'37 ?_
    refine cond_split (fun h2 => ?_) (fun h2 => ?_)
    · have h2d := bsT h2
      have g'38 := (jn @h2 (jn @h2d g'37))
      refine runTf g'38 ?_
      exact hQ _ _ (end_plain (.inl rfl) hbel (x := .tup [.int .i64 0, .int .i64 1]) (resT Tryz.results36) rfl ⟨by first | (simp [towI, towE, h1d, h2d]; done) | (simp [towI, hfinE]; done) | (rw [show towI fx fy tx ty = ((towN (tx - fx) (ty - fy) 256 : Nat) : Int) from if_pos hfinE, hfinE]), rfl⟩)
    · have h2d := bsT h2
      have hp2 := h2d
      simp only [ptB, Bool.and_eq_true, within_iff] at hp2
      have g'39 := (jn @h2 (jn @h2d g'37))
      refine runTf g'39 ?_
      refine cond_split (fun h3 => ?_) (fun h3 => ?_)
      · have h3d := bsT h3
        have h3n := h3
        try simp only [int_bne, int_beq] at h3n
        have g'40 := (jn @h3 (jn @h3d (jn @h3n (jn @int_bne (jn @int_beq g'39)))))
        refine runTf g'40 ?_
        exact hQ _ _ (end_plain (.inl rfl) hbel (x := .tup [.int .i64 0, .int .i64 9]) (resT Tryz.results36) rfl ⟨by first | (simp [towI, towE, h1d, h2d, h3d]; done) | (simp [towI, hfinE]; done) | (rw [show towI fx fy tx ty = ((towN (tx - fx) (ty - fy) 256 : Nat) : Int) from if_pos hfinE, hfinE]), rfl⟩)
      · have h3d := bsT h3
        have h3n := h3
        try simp only [int_bne, int_beq] at h3n
        have hfinE : towE fx fy tx ty = 0 := by unfold towE; simp_all
        have g'41 := (jn @h3 (jn @h3d (jn @h3n (jn @int_bne (jn @int_beq g'39)))))
        refine runTf g'41 ?_
        refine go_loop try_mixed (by kernel_rfl) (fun k F Hx => ∃ n : Nat, n + k = 256 ∧ F = [(6, .int .i64 (tx - fx)), (7, .int .i64 (ty - fy)), (8, .int .i64 ((towN (tx - fx) (ty - fy) n : Nat) : Int)), (36, .int .i64 ((n : Nat) : Int))] ∧ H = Hx) (256) ?_ ?_
        · refine ⟨_, _, _, ⟨0, by omega, rfl, rfl⟩, Abs.byN hbel ?_⟩
          exact absWf (jn @towN.eq_1 @Int.natCast_zero)
        · rintro k0 F Hx ⟨n, hm0, rfl, rfl⟩ J0 hJ0
          refine runTf g'41 ?_
          refine cond_split (fun h4 => ?_) (fun h4 => ?_)
          · have h4d := bsT h4
            have hdv := vecOK_iff.1 (dirV_ok ((n : Nat) : Int))
            have hdn := dirV_nat (n := n) (by omega)
            have hm1 := mul_bd (a := (dirV ((n : Nat) : Int)).1) (b := (ty - fy)) (A := 8065) (B := 2097152) (by omega) (by omega)
            have hm2 := mul_bd (a := (dirV ((n : Nat) : Int)).2.1) (b := (tx - fx)) (A := 8065) (B := 2097152) (by omega) (by omega)
            have g'42 := (jn @h4 (jn @h4d g'41))
            refine runTf g'42 ?_
            refine call_v (by kernel_rfl) (dir_c _ ((n : Nat) : Int)) ?_
            refine runTf g'42 ?_
            refine call_v (by kernel_rfl) (mhalf_c _ ((dirV ((n : Nat) : Int)).1) ((dirV ((n : Nat) : Int)).2.1)) ?_
            refine runTf g'42 ?_
            refine call_v (by kernel_rfl) (mhalf_c _ (tx - fx) (ty - fy)) ?_
            refine runTf g'42 ?_
            refine gd_split (fun h5 => ?_) (fun h5 => ?_)
            · have h5d := bsT h5
              have hnl := h5d
              have g'43 := (jn @h5 (jn @h5d g'42))
              refine runTf g'43 ?_
              refine gd_split (fun h6 => ?_) (fun h6 => ?_)
              · have h6d := bsT h6
                have heq := h6d
                have g'44 := (jn @h6 (jn @h6d g'43))
                refine runTf g'44 ?_
                refine cond_split (fun h7 => ?_) (fun h7 => ?_)
                · have h7d := bsT h7
                  have hbey : beyB (dirN n) (tx - fx) (ty - fy) = false := by rw [← hdn, bey_eq heq]; exact decide_eq_false (by omega)
                  have g'45 := (jn @h7 (jn @h7d g'44))
                  refine runTf g'45 ?_
                  refine hJ0 _ _ ⟨k0 - 1, by omega, _, _, _, ⟨n + 1, by omega, rfl, rfl⟩, Abs.byN hbel ?_⟩
                  exact absWf (jn @towN.eq_2 (jn @hbey (jn @if_true.{1} (jn @if_false.{1} (jn @Bool.false_eq_true (jn @h3d @h6d))))))
                · have h7d := bsT h7
                  have hbey : beyB (dirN n) (tx - fx) (ty - fy) = true := by rw [← hdn, bey_eq heq]; exact decide_eq_true (by omega)
                  have g'46 := (jn @h7 (jn @h7d g'44))
                  refine runTf g'46 ?_
                  refine hJ0 _ _ ⟨k0 - 1, by omega, _, _, _, ⟨n + 1, by omega, rfl, rfl⟩, Abs.byN hbel ?_⟩
                  exact absWf (jn @towN.eq_2 (jn @hbey (jn @if_true.{1} (jn @if_false.{1} (jn @Bool.false_eq_true (jn @h3d @h6d))))))
              · have h6d := bsT h6
                have hbey : beyB (dirN n) (tx - fx) (ty - fy) = true := by rw [← hdn]; exact bey_gt (by omega) h6d
                have g'47 := (jn @h6 (jn @h6d g'43))
                refine runTf g'47 ?_
                refine hJ0 _ _ ⟨k0 - 1, by omega, _, _, _, ⟨n + 1, by omega, rfl, rfl⟩, Abs.byN hbel ?_⟩
                exact absWf (jn @towN.eq_2 (jn @hbey (jn @if_true.{1} (jn @if_false.{1} (jn @Bool.false_eq_true (jn @h3d @h6d))))))
            · have h5d := bsT h5
              have hbey : beyB (dirN n) (tx - fx) (ty - fy) = false := by rw [← hdn]; exact bey_lt h5d
              have g'48 := (jn @h5 (jn @h5d g'42))
              refine runTf g'48 ?_
              refine hJ0 _ _ ⟨k0 - 1, by omega, _, _, _, ⟨n + 1, by omega, rfl, rfl⟩, Abs.byN hbel ?_⟩
              exact absWf (jn @towN.eq_2 (jn @hbey (jn @if_true.{1} (jn @if_false.{1} (jn @Bool.false_eq_true @h3d)))))
          · have h4d := bsT h4
            obtain rfl : n = 256 := by omega
            have g'49 := (jn @h4 (jn @h4d g'41))
            refine runTf g'49 ?_
            exact hQ _ _ (end_plain0 (.inl rfl) hbel (x := .tup [.int .i64 ((towN (tx - fx) (ty - fy) 256 : Nat) : Int), .int .i64 0]) (resT Tryz.results36) rfl ⟨by first | (simp [towI, towE, h1d, h2d, h3d, h4d, hfinE]; done) | (simp [towI, hfinE]; done) | (rw [show towI fx fy tx ty = ((towN (tx - fx) (ty - fy) 256 : Nat) : Int) from if_pos hfinE, hfinE]), rfl⟩)
  · have h1d := bsT h1
    have g'50 := (jn @h1 @h1d)
    refine runTf g'50 ?_
    exact hQ _ _ (end_plain (.inl rfl) hbel (x := .tup [.int .i64 0, .int .i64 1]) (resT Tryz.results36) rfl ⟨by first | (simp [towI, towE, h1d]; done) | (simp [towI, hfinE]; done) | (rw [show towI fx fy tx ty = ((towN (tx - fx) (ty - fy) 256 : Nat) : Int) from if_pos hfinE, hfinE]), rfl⟩)
open Go.RowKit
def rctB (x0 y0 x1 y1 : Int) : Bool := decide (x0 ≤ x1) && (decide (y0 ≤ y1) && (ptB x0 y0 && ptB x1 y1))
theorem rctB_iff {x0 y0 x1 y1 : Int} : rctB x0 y0 x1 y1 = true ↔ (-1048576 ≤ x0 ∧ x0 ≤ x1 ∧ x1 ≤ 1048576) ∧ (-1048576 ≤ y0 ∧ y0 ≤ y1 ∧ y1 ≤ 1048576) := by
  unfold rctB ptB; simp only [Bool.and_eq_true, decide_eq_true_eq, within_iff]; omega
/-- The first and the last index of the cells that meet a range, and how many there are. -/
def spl (a : Int) : Int := 0 - (0 - a) / 64 - 1
def sph (b : Int) : Int := b / 64
def celN (a b : Int) : Nat := (sph b - spl a + 1).toNat
def tt2 (_ _ : Int) : Bool := true
def cellsE (x0 y0 x1 y1 : Int) : Int := if rctB x0 y0 x1 y1 = true then (if 8192 < (sph x1 - spl x0 + 1) * (sph y1 - spl y0 + 1) then 6 else 0) else 1
def cellsG (x0 y0 x1 y1 : Int) : List Pt := gridR tt2 (spl x0) (celN x0 x1) (spl y0) (celN y0 y1)
def cellsR (x0 y0 x1 y1 : Int) : List Pt := mkL (cellsE x0 y0 x1 y1) (cellsG x0 y0 x1 y1)
theorem cel_bd {a b : Int} (h : -1048576 ≤ a ∧ a ≤ b ∧ b ≤ 1048576) : (-16386 ≤ spl a ∧ spl a ≤ 16384) ∧ (-16384 ≤ sph b ∧ sph b ≤ 16384) ∧ spl a ≤ sph b ∧ spl a + (celN a b : Int) = sph b + 1 ∧ 1 ≤ celN a b ∧ celN a b ≤ 32771 := by
  unfold celN spl sph; omega
theorem rowR_t {x0 y : Int} (n : Nat) : rowR tt2 x0 y (n + 1) = rowR tt2 x0 y n ++ [(x0 + n, y)] := rfl
theorem gridR_s {p : Int → Int → Bool} {x0 y0 : Int} {w n : Nat} : gridR p x0 w y0 (n + 1) = gridR p x0 w y0 n ++ rowR p x0 (y0 + n) w := rfl
theorem gridR_0 {p : Int → Int → Bool} {x0 y0 : Int} {w : Nat} : gridR p x0 w y0 0 = [] := rfl
theorem rowR_0 {p : Int → Int → Bool} {x0 y : Int} : rowR p x0 y 0 = [] := rfl
theorem grid_bd {p : Int → Int → Bool} {x0 y0 y : Int} {w n m : Nat} (hn : n ≤ 32771) (hw : w ≤ 32771) (hm : m ≤ w) : (gridR p x0 w y0 n).length + (rowR p x0 y m).length ≤ 1073971212 := by
  have h1 := gridR_len (p := p) (x0 := x0) (y0 := y0) (w := w) n
  have h2 := rowR_len (p := p) (x0 := x0) (y := y) m
  have h3 := Nat.mul_le_mul hn hw
  omega
theorem cells_num {x0 y0 x1 y1 : Int} (h : rctB x0 y0 x1 y1 = true) : (((cellsG x0 y0 x1 y1).length : Nat) : Int) = (sph x1 - spl x0 + 1) * (sph y1 - spl y0 + 1) := by
  rw [rctB_iff] at h
  have h1 := cel_bd h.1
  have h2 := cel_bd h.2
  unfold cellsG
  have e : gridR tt2 (spl x0) (celN x0 x1) (spl y0) (celN y0 y1) = gridR (fun _ _ => true) (spl x0) (celN x0 x1) (spl y0) (celN y0 y1) := rfl
  rw [e, gridR_all, Int.natCast_mul, show ((celN y0 y1 : Nat) : Int) = sph y1 - spl y0 + 1 by omega, show ((celN x0 x1 : Nat) : Int) = sph x1 - spl x0 + 1 by omega, Int.mul_comm]
theorem cells_len (x0 y0 x1 y1 : Int) : (cellsR x0 y0 x1 y1).length ≤ 8192 := by
  unfold cellsR mkL cellsE
  by_cases h : rctB x0 y0 x1 y1 = true
  · rw [if_pos h]
    have := cells_num h
    by_cases k : 8192 < (sph x1 - spl x0 + 1) * (sph y1 - spl y0 + 1)
    · rw [if_pos k]; simp
    · rw [if_neg k, if_pos rfl]; omega
  · rw [if_neg h]; simp
theorem cellsR_bd {x0 y0 x1 y1 : Int} : ∀ c ∈ cellsR x0 y0 x1 y1, (-16386 ≤ c.1 ∧ c.1 ≤ 16384) ∧ (-16386 ≤ c.2 ∧ c.2 ≤ 16384) := fun c hc => by
  unfold cellsR mkL at hc
  split at hc
  · rename_i h0
    unfold cellsE at h0
    split at h0
    · rename_i h
      rw [rctB_iff] at h
      have h1 := cel_bd h.1
      have h2 := cel_bd h.2
      have := gridR_mem.1 hc
      omega
    · omega
  · cases hc
open Go.RowKit
/-- The index of the first element with a property, or -1. -/
def idxI {α : Type} (p : α → Bool) (l : List α) : Int := if l.any p = true then ((l.findIdx p : Nat) : Int) else -1
theorem idxI_at {α : Type} {p : α → Bool} {l : List α} {i : Nat} (hi : i < l.length) (h0 : (l.take i).any p = false) (h1 : p l[i] = true) : idxI p l = (i : Int) := by
  have ha : l.any p = true := List.any_eq_true.2 ⟨l[i], List.getElem_mem hi, h1⟩
  have hf : l.findIdx p = i := (List.findIdx_eq hi).2 ⟨h1, fun j hj => by
    have := List.any_eq_false.1 h0 l[j] (by rw [List.mem_take_iff_getElem]; exact ⟨j, by omega, rfl⟩)
    simpa using this⟩
  unfold idxI; rw [if_pos ha, hf]
theorem idxI_none {α : Type} {p : α → Bool} {l : List α} (h : l.any p = false) : idxI p l = -1 := by
  unfold idxI; rw [if_neg (by simp [h])]
theorem idxI_any {α : Type} {p : α → Bool} {l : List α} : decide (0 ≤ idxI p l) = l.any p := by
  cases h : l.any p
  · rw [idxI_none h]; rfl
  · unfold idxI; rw [if_pos h]; exact decide_eq_true (by omega)
theorem idxI_cases {α : Type} (p : α → Bool) (l : List α) : (idxI p l = -1 ∧ l.any p = false) ∨ ∃ i : Nat, ∃ hi : i < l.length, idxI p l = (i : Int) ∧ (l.take i).any p = false ∧ p l[i] = true := by
  cases h : l.any p
  · exact .inl ⟨idxI_none h, rfl⟩
  · right
    have hl : l.findIdx p < l.length := List.findIdx_lt_length_of_exists (by simpa using h)
    have h1 : p l[l.findIdx p] = true := List.findIdx_getElem
    have h0 : (l.take (l.findIdx p)).any p = false := List.any_eq_false.2 fun x hx => by
      obtain ⟨j, hj, rfl⟩ := List.mem_take_iff_getElem.1 hx
      have := List.not_of_lt_findIdx (p := p) (xs := l) (i := j) (by omega)
      simpa using this
    exact ⟨_, hl, idxI_at hl h0 h1, h0, h1⟩
theorem pr_eq {l : List (Int × Int)} {j : Nat} (h : j < l.length) : (g1 l j, g2 l j) = l[j] := by
  simp [g1, g2, h, List.getD_eq_getElem?_getD]
theorem gi_eq {l : List Int} {j : Nat} (h : j < l.length) : (gi l j) = l[j] := by
  simp [gi, h, List.getD_eq_getElem?_getD]
theorem any_step {α : Type} {l : List α} {p : α → Bool} {i : Nat} (h : i < l.length) : (l.take (i + 1)).any p = ((l.take i).any p || p l[i]) := by
  rw [List.take_succ_eq_append_getElem h, List.any_append]; simp
theorem mvs_caps {n m : Nat} {sel : List Nat} {caps : List AV} (h : AV.bels n caps = true) : AV.mvs (sig n m sel) caps = caps := mvs_id (fun b hb => sig_lt hb) caps h
open Go.RowKit
set_option maxRecDepth 100000 in
theorem idx_cell (H : AHeap) (s : AV) (l : List (Int × Int)) (hs : Sl H 2 s l.length (prs l)) (hl : l.length ≤ 1000000000) (g : FuncId) (caps : List AV) (hok : okFn Tryz.prog g = true) (hc : AV.bels H.length caps = true) (p : (Int × Int) → Bool) (hf : ∀ j, j < l.length → ACalls Tryz.prog g (.agg [.int .i64 (g1 l j), .int .i64 (g2 l j)] :: caps) H (fun v H' => v = .bool (p (g1 l j, g2 l j)) ∧ H' = H)) :
    ACalls Tryz.prog 123 [s, .fn g caps] H (fun v H' => v = .int .i64 (idxI p l) ∧ H' = H) := by
  obtain ⟨b, own, cap, rfl, hb⟩ := hs
  have hbl := getElem?_lt hb
  have hmv := fun m sel => mvs_caps (n := H.length) (m := m) (sel := sel) hc
  (refine ACalls_run try_mixed Tryz.func123 true _ rfl (Nat.le_of_ble_eq_true (by kernel_rfl)) (by kernel_rfl) ?_; intro hbel Q hQ hQ' c hc; unfold Tryz.f123 at hc; simp only [Option.some.injEq] at hc; subst hc; clear hQ')
  simp -implicitDefEqProofs (disch := omega) only [simprocAttr, amset, tyset, Function.comp_apply, one1, lenV, calleeOf, lateOk, belowV, aop, AV.ofValue, AV.ofCell, AV.cells, AV.flat, AV.one, arep, aBin, aAppend, aConv]
  refine go_loop try_mixed (by kernel_rfl) (fun k F Hx => ∃ i : Nat, i + k = l.length ∧ (l.take i).any p = false ∧ F = [(0, .sl (some (b, 0)) l.length none), (1, .fn g caps), (7, .int .i64 l.length), (8, .int .i64 (i : Nat))] ∧ Hx = H) l.length ?_ ?_
  · refine ⟨_, _, _, ⟨0, by omega, rfl, rfl, rfl⟩, Abs.by0 hbel ?_⟩
    exact absWf @hmv
  · rintro k F Hx ⟨i, hik, ht, rfl, rfl⟩ J hJ
    by_cases hi : i < l.length
    · have hii : (i : Int) < (l.length : Int) := by omega
      have q1 := prs_load hi
      have hg := pr_eq hi
      simp -implicitDefEqProofs (disch := omega) only [hii, hb, q1, prs_len, prs_one, simprocAttr, amset, tyset, Function.comp_apply, one1, lenV, calleeOf, lateOk, belowV, aop, AV.ofValue, AV.ofCell, AV.cells, AV.flat, AV.one, arep, aBin, aAppend, aConv]
      iterate 2 refine And.intro (by omega) ?_
      refine call_v hok (hf i hi) ?_
      have hst := any_step (p := p) hi
      rw [ht, Bool.false_or, ← hg] at hst
      cases h1 : p (g1 l i, g2 l i)
      · rw [h1] at hst
        simp -implicitDefEqProofs (disch := omega) only [h1, simprocAttr, amset, tyset, Function.comp_apply, one1, lenV, calleeOf, lateOk, belowV, aop, AV.ofValue, AV.ofCell, AV.cells, AV.flat, AV.one, arep, aBin, aAppend, aConv]
        refine hJ _ _ ⟨k - 1, by omega, _, _, _, ⟨i + 1, by omega, hst, rfl, rfl⟩, Abs.by0 hbel ?_⟩
        exact absWf @hmv
      · simp -implicitDefEqProofs (disch := omega) only [h1, simprocAttr, amset, tyset, Function.comp_apply, one1, lenV, calleeOf, lateOk, belowV, aop, AV.ofValue, AV.ofCell, AV.cells, AV.flat, AV.one, arep, aBin, aAppend, aConv]
        exact hQ _ _ (end_plain0 (.inl rfl) hbel (x := .int .i64 (i : Nat)) (resT Tryz.results123) rfl ⟨by rw [idxI_at hi ht (by rw [← hg]; exact h1)], rfl⟩)
    · have hnn : ¬ ((i : Int) < (l.length : Int)) := by omega
      simp -implicitDefEqProofs (disch := omega) only [hnn, simprocAttr, amset, tyset, Function.comp_apply, one1, lenV, calleeOf, lateOk, belowV, aop, AV.ofValue, AV.ofCell, AV.cells, AV.flat, AV.one, arep, aBin, aAppend, aConv]
      rw [List.take_of_length_le (by omega)] at ht
      exact hQ _ _ (end_plain0 (.inl rfl) hbel (x := .int .i64 (-1)) (resT Tryz.results123) rfl ⟨by rw [idxI_none ht], rfl⟩)
theorem has_cell (H : AHeap) (s : AV) (l : List (Int × Int)) (hs : Sl H 2 s l.length (prs l)) (hl : l.length ≤ 1000000000) (g : FuncId) (caps : List AV) (hok : okFn Tryz.prog g = true) (hc : AV.bels H.length caps = true) (p : (Int × Int) → Bool) (hf : ∀ j, j < l.length → ACalls Tryz.prog g (.agg [.int .i64 (g1 l j), .int .i64 (g2 l j)] :: caps) H (fun v H' => v = .bool (p (g1 l j, g2 l j)) ∧ H' = H)) :
    ACalls Tryz.prog 140 [s, .fn g caps] H (fun v H' => v = .bool (l.any p) ∧ H' = H) := by
  have key := idx_cell H s l hs hl g caps hok hc p hf
  obtain ⟨b, own, cap, rfl, hb⟩ := hs
  have hbl := getElem?_lt hb
  (refine ACalls_run try_mixed Tryz.func140 true _ rfl (Nat.le_of_ble_eq_true (by kernel_rfl)) (by kernel_rfl) ?_; intro hbel Q hQ hQ' c hc; unfold Tryz.f140 at hc; simp only [Option.some.injEq] at hc; subst hc; clear hQ')
  simp -implicitDefEqProofs (disch := omega) only [simprocAttr, amset, tyset, Function.comp_apply, one1, lenV, calleeOf, lateOk, belowV, aop, AV.ofValue, AV.ofCell, AV.cells, AV.flat, AV.one, arep, aBin, aAppend, aConv]
  refine call_v (by kernel_rfl) key ?_
  simp -implicitDefEqProofs (disch := omega) only [simprocAttr, amset, tyset, Function.comp_apply, one1, lenV, calleeOf, lateOk, belowV, aop, AV.ofValue, AV.ofCell, AV.cells, AV.flat, AV.one, arep, aBin, aAppend, aConv]
  exact hQ _ _ (end_plain0 (.inl rfl) hbel (x := .bool (decide (0 ≤ idxI p l))) (resT Tryz.results140) rfl ⟨by rw [idxI_any], rfl⟩)
open Go.RowKit
theorem prs_set2 {l : List (Int × Int)} {j : Nat} {a b : Int} (h : j < l.length) : ((prs l).set (j * 2) (.int .i64 a)).set (j * 2 + 1) (.int .i64 b) = prs (l.set j (a, b)) := by
  induction l generalizing j with
  | nil => simp at h
  | cons p l ih =>
    cases j with
    | zero => simp [prs_cons]
    | succ j =>
      have e1 : (j + 1) * 2 = (j * 2).succ.succ := by omega
      have e2 : (j + 1) * 2 + 1 = (j * 2 + 1).succ.succ := by omega
      rw [prs_cons, e2, e1]
      show _ :: _ :: ((prs l).set (j * 2) (.int .i64 a)).set (j * 2 + 1) (.int .i64 b) = _
      rw [ih (by simpa using h)]
      rfl
theorem prs_rep {m : Nat} : prs (List.replicate m (0, 0)) = (List.range (m * 2)).map fun j => ([.int .i64 0, .int .i64 0] : List AV).getD (j % 2) .any := by
  induction m with
  | zero => rfl
  | succ m ih =>
    have e : List.replicate (m + 1) ((0 : Int), (0 : Int)) = List.replicate m (0, 0) ++ [(0, 0)] := by rw [List.replicate_succ']
    rw [e, prs_append, ih, Nat.succ_mul, List.range_succ, List.range_succ, List.map_append, List.map_append]
    have e1 : m * 2 % 2 = 0 := by omega
    have e2 : (m * 2 + 1) % 2 = 1 := by omega
    simp [prs_cons, prs_nil, e1, e2]
theorem splice_tail : ∀ (ys xs : List AV) (o : Nat), o + ys.length = xs.length → splice xs o ys = xs.take o ++ ys
  | [], xs, o, h => by
    rw [splice, List.append_nil, List.take_of_length_le]
    simp at h; omega
  | y :: ys, xs, o, h => by
    rw [splice, splice_tail ys _ _ (by simp at h ⊢; omega)]
    simp only [List.length_cons] at h
    have ho : o < xs.length := by omega
    rw [List.take_succ_eq_append_getElem (by simpa using ho), List.getElem_set_self, List.take_set_of_le (Nat.le_refl _)]
    simp
theorem splice_prs {l ys : List (Int × Int)} {i : Nat} (h : i + ys.length = l.length) : splice (prs l) (i * 2) (prs ys) = prs (l.take i ++ ys) := by
  rw [splice_tail _ _ _ (by rw [prs_len, prs_len]; omega), prs_take, prs_append]
theorem ints_set1 {k : IntKind} {l : List Int} {j : Nat} {a : Int} : (ints k l).set j (.int k a) = ints k (l.set j a) := ints_set
open Go.RowKit
theorem bels_prs {n : Nat} : ∀ {l : List (Int × Int)}, AV.bels n (prs l) = true
  | [] => rfl
  | p :: l => by rw [prs_cons]; simp only [AV.bels, AV.bel, Bool.true_and]; exact bels_prs
theorem HBel.put {n : Nat} {H : AHeap} (h : HBel n H) (b : Nat) {x : ABlk} (hx : x.bel n = true) : HBel n (H.set b x) := fun c y hy => by
  rw [List.getElem?_set] at hy
  split at hy
  · split at hy
    · simp at hy; subst hy; exact hx
    · cases hy
  · exact h c y hy
theorem Abs.byS1 {H0 l1 : AHeap} {F1 F2 : Fr} {n : Nat} (hn : H0.length = n) (hsc : HBel n H0) (h : absF (n + l1.length) (sig n l1.length []) F1 F2) : Abs n (sig n l1.length []) F1 (H0 ++ l1) F2 H0 := by
  subst hn; exact Abs.byN hsc h
theorem Abs.by0e {H0 H2 : AHeap} {F1 F2 : Fr} (e : H2 = H0) (hsc : HBel H0.length H0) (h : absF H0.length (sig H0.length 0 []) F1 F2) : Abs H0.length (sig H0.length 0 []) F1 H0 F2 H2 := by
  subst e; exact Abs.by0 hsc h
theorem end_byS {P : Program} {fn : Func} {H0 : AHeap} {R : AV → AHeap → Prop} {F : Fr} {e : Exit} {n : Nat} (hn : H0.length = n) (he : e = .ret ∨ e = .normal) (hbel : HBel n H0) {x1 : AV} (x2 : AV) (hx : aResult P fn F H0 = some x1) (hR : R x2 H0) (h : W n x1 (x2.mv (sig n 0 []))) : AEnd P fn n R e F H0 := by
  subst hn
  exact end_byE (l2 := []) he hbel x2 hx [] rfl [] (by simp) (by rw [List.append_nil]; exact hR) ⟨h, trivial⟩
/-- What is left without the elements that have a property. -/
def delL {α : Type} (p : α → Bool) (l : List α) : List α := l.filter fun e => !p e
theorem delL_none {α : Type} {p : α → Bool} {l : List α} (h : l.any p = false) : delL p l = l := by
  unfold delL
  rw [List.filter_eq_self]
  intro a ha
  have := List.any_eq_false.1 h a ha
  simpa using this
theorem delL_step {α : Type} {p : α → Bool} {l : List α} {j : Nat} (h : j < l.length) : delL p (l.take (j + 1)) = delL p (l.take j) ++ (if p l[j] = true then [] else [l[j]]) := by
  unfold delL
  rw [List.take_succ_eq_append_getElem h, List.filter_append]
  congr 1
  cases hp : p l[j] <;> simp [hp]
theorem delL_le {α : Type} {p : α → Bool} {l : List α} : (delL p l).length ≤ l.length := List.length_filter_le _ _
def padL (n : Nat) (l : List (Int × Int)) : List (Int × Int) := l ++ List.replicate (n - l.length) (0, 0)
theorem prs_padL {n : Nat} {l : List (Int × Int)} : prs (padL n l) = prs l ++ prs (List.replicate (n - l.length) (0, 0)) := prs_append
set_option maxRecDepth 100000 in
theorem del_cell (H : AHeap) (b : Nat) (cap : Option Nat) (l : List (Int × Int)) (hb : H[b]? = some (.cells (ownG l.length) 2 (prs l))) (hl : l.length ≤ 1000000000) (g : FuncId) (caps : List AV) (hok : okFn Tryz.prog g = true) (hc : AV.bels H.length caps = true) (p : (Int × Int) → Bool)
    (hf : ∀ (X : List (Int × Int)) (e : Int × Int) (L : AHeap), e ∈ l → ACalls Tryz.prog g (.agg [.int .i64 e.1, .int .i64 e.2] :: caps) (H.set b (.cells (ownG l.length) 2 (prs X)) ++ L) (fun v H' => v = .bool (p e) ∧ H' = H.set b (.cells (ownG l.length) 2 (prs X)) ++ L)) :
    ACalls Tryz.prog 66 [.sl (some (b, 0)) l.length cap, .fn g caps] H (fun v H' => v = .sl (some (b, 0)) (delL p l).length none ∧ H' = H.set b (.cells (ownG l.length) 2 (prs (padL l.length (delL p l))))) := by
  have hbl := getElem?_lt hb
  have hset : ∀ X L, (H.set b X ++ L)[b]? = some X := fun X L => by rw [List.getElem?_append_left (by simpa using hbl), List.getElem?_set_self hbl]
  have hset0 : ∀ X, (H.set b X)[b]? = some X := fun X => List.getElem?_set_self hbl
  have hself : H.set b (.cells (ownG l.length) 2 (prs l)) = H := by
    refine List.ext_getElem? fun i => ?_
    rw [List.getElem?_set]
    split
    · rename_i e; subst e; first | exact hb.symm | (rw [if_pos hbl]; exact hb.symm)
    · rfl
  have hmv := fun m sel => mvs_caps (n := H.length) (m := m) (sel := sel) hc
  have key := idx_cell H (.sl (some (b, 0)) l.length cap) l ⟨b, _, cap, rfl, hb⟩ hl g caps hok hc p (fun j hj => by
    have := hf l (g1 l j, g2 l j) [] (by rw [pr_eq hj]; exact List.getElem_mem hj)
    rw [List.append_nil, hself] at this
    exact this)
  (refine ACalls_run try_mixed Tryz.func66 true _ rfl (Nat.le_of_ble_eq_true (by kernel_rfl)) (by kernel_rfl) ?_; intro hbel Q hQ hQ' c hc; unfold Tryz.f66 at hc; simp only [Option.some.injEq] at hc; subst hc; clear hQ')
  simp -implicitDefEqProofs (disch := omega) only [simprocAttr, amset, tyset, Function.comp_apply, one1, lenV, calleeOf, lateOk, belowV, aop, AV.ofValue, AV.ofCell, AV.cells, AV.flat, AV.one, arep, aBin, aAppend, aConv]
  refine call_v (by kernel_rfl) key ?_
  rcases idxI_cases p l with ⟨h1, h2⟩ | ⟨i, hi, h1, h2, h3⟩
  · rw [h1]
    simp -implicitDefEqProofs (disch := omega) only [simprocAttr, amset, tyset, Function.comp_apply, one1, lenV, calleeOf, lateOk, belowV, aop, AV.ofValue, AV.ofCell, AV.cells, AV.flat, AV.one, arep, aBin, aAppend, aConv]
    have e : H.set b (.cells (ownG l.length) 2 (prs (padL l.length (delL p l)))) = H := by rw [delL_none h2]; simp [padL, hself]
    exact hQ _ _ (end_byE (.inl rfl) hbel (x1 := .sl (some (b, 0)) l.length cap) (l2 := []) (.sl (some (b, 0)) (delL p l).length none) (resT Tryz.results66) [] rfl [] (by decide) ⟨rfl, by rw [List.append_nil, e]⟩ (by rw [delL_none h2]; exact absW))
  · rw [h1]
    have hne : ((i : Int) == -1) = false := beq_eq_false_iff_ne.2 (by omega)
    have hown : ownG l.length = true := ownG_p (by omega)
    rw [hown] at hb hf hself
    simp -implicitDefEqProofs (disch := omega) only [hne, simprocAttr, amset, tyset, Function.comp_apply, one1, lenV, calleeOf, lateOk, belowV, aop, AV.ofValue, AV.ofCell, AV.cells, AV.flat, AV.one, arep, aBin, aAppend, aConv]
    have hd0 : delL p (l.take (i + 1)) = l.take i := by rw [delL_step hi, if_pos h3, List.append_nil, delL_none h2]
    have hdi : (delL p (l.take (i + 1))).length = i := by rw [hd0, List.length_take]; omega
    refine go_loop try_mixed (by kernel_rfl) (fun k F Hx => ∃ (j : Nat) (X : List (Int × Int)), j + k = l.length ∧ (delL p (l.take j)).length < j ∧ X.length = l.length ∧ X.take (delL p (l.take j)).length = delL p (l.take j) ∧ X.drop j = l.drop j ∧ F = [(0, .sl (some (b, 0)) l.length cap), (1, .fn g caps), (5, .int .i64 (((delL p (l.take j)).length : Nat) : Int)), (6, .int .i64 ((j : Nat) : Int))] ∧ Hx = H.set b (.cells true 2 (prs X))) (l.length - (i + 1)) ?_ ?_
    · refine ⟨_, _, _, ⟨i + 1, l, by omega, by rw [hdi]; omega, rfl, by rw [hd0, List.length_take, Nat.min_eq_left (by omega)], rfl, rfl, rfl⟩, Abs.by0e hself hbel ?_⟩
      exact absWf (jn @hdi @hmv)
    · rintro k F Hx ⟨j, X, hjk, hij, hXl, hXt, hXd, rfl, rfl⟩ J hJ
      obtain ⟨G, hG⟩ : ∃ G, G = H.set b (.cells true 2 (prs X)) := ⟨_, rfl⟩
      have hGl : G.length = H.length := by rw [hG, List.length_set]
      have hG1 : ∀ L, (G ++ L)[b]? = some (.cells true 2 (prs X)) := fun L => by rw [hG]; exact hset _ _
      have hG0 : G[b]? = some (.cells true 2 (prs X)) := by rw [hG]; exact hset0 _
      have hbG : b < G.length := by omega
      have hGs : ∀ Y L, (G ++ L).set b Y = H.set b Y ++ L := fun Y L => by rw [List.set_append_left _ _ hbG, hG, List.set_set]
      have hcall := fun e L => hf X e L
      rw [← hG] at hcall ⊢
      have hbelG : HBel H.length G := by rw [hG]; exact HBel.put hbel b bels_prs
      obtain ⟨n, hn⟩ : ∃ n, n = (delL p (l.take j)).length := ⟨_, rfl⟩
      have hnj : n < j := by rw [hn]; exact hij
      rw [← hn] at hXt ⊢
      by_cases hj : j < l.length
      · have hjj : (j : Int) < (l.length : Int) := by omega
        have hXj : X[j]'(by omega) = l[j] := by
          have := congrArg (fun m => m[0]?) hXd
          simpa [hj, hXl] using this
        have q1 := prs_load (l := X) (j := j) (by omega)
        have hg := pr_eq (l := X) (j := j) (by omega)
        simp -implicitDefEqProofs (disch := omega) only [hjj, hG1, hG0, q1, prs_len, prs_one, simprocAttr, amset, tyset, Function.comp_apply, one1, lenV, calleeOf, lateOk, belowV, aop, AV.ofValue, AV.ofCell, AV.cells, AV.flat, AV.one, arep, aBin, aAppend, aConv]
        iterate 2 refine And.intro (by omega) ?_
        refine call_v hok (hcall (g1 X j, g2 X j) _ (by rw [hg, hXj]; exact List.getElem_mem hj)) ?_
        have hst := delL_step (p := p) hj
        rw [← hXj, ← hg] at hst
        cases h5 : p (g1 X j, g2 X j)
        · rw [h5, if_neg Bool.false_ne_true] at hst
          have hl5 : (delL p (l.take (j + 1))).length = n + 1 := by rw [hst, List.length_append, hn]; rfl
          have hnX : n < X.length := by omega
          have hp2 := prs_set2 (a := g1 X j) (b := g2 X j) hnX
          simp -implicitDefEqProofs (disch := omega) only [h5, hG1, hG0, hGs, hp2, prs_len, prs_one, simprocAttr, amset, tyset, Function.comp_apply, one1, lenV, calleeOf, lateOk, belowV, aop, AV.ofValue, AV.ofCell, AV.cells, AV.flat, AV.one, arep, aBin, aAppend, aConv]
          iterate 2 refine And.intro (by omega) ?_
          refine hJ _ _ ⟨k - 1, by omega, _, _, _, ⟨j + 1, X.set n (g1 X j, g2 X j), by omega, by rw [hl5]; omega, by rw [List.length_set]; exact hXl, ?_, ?_, rfl, rfl⟩, Abs.byS1 (by rw [List.length_set]) (HBel.put hbel b bels_prs) ?_⟩
          · rw [hl5, hst, List.take_succ_eq_append_getElem (by rw [List.length_set]; exact hnX), List.getElem_set_self, List.take_set_of_le (Nat.le_refl _), hXt]
          · rw [List.drop_set_of_lt (by omega), ← List.drop_drop, hXd, List.drop_drop]
          exact absWf (jn @hl5 (jn @hmv (jn @Int.natCast_add @Int.natCast_one)))
        · rw [h5, if_pos rfl, List.append_nil] at hst
          have hl5 : (delL p (l.take (j + 1))).length = n := by rw [hst, hn]
          simp -implicitDefEqProofs (disch := omega) only [h5, simprocAttr, amset, tyset, Function.comp_apply, one1, lenV, calleeOf, lateOk, belowV, aop, AV.ofValue, AV.ofCell, AV.cells, AV.flat, AV.one, arep, aBin, aAppend, aConv]
          refine hJ _ _ ⟨k - 1, by omega, _, _, _, ⟨j + 1, X, by omega, by rw [hl5]; omega, hXl, by rw [hst, ← hn]; exact hXt, by rw [← List.drop_drop, hXd, List.drop_drop], rfl, hG⟩, Abs.byS1 hGl hbelG ?_⟩
          exact absWf (jn @hl5 @hmv)
      · have hjj : ¬ ((j : Int) < (l.length : Int)) := by omega
        have hrep := (prs_rep (m := l.length - n)).symm
        have hne0 : (l.length - n == 0) = false := beq_eq_false_iff_ne.2 (by omega)
        have hspl := splice_prs (l := X) (ys := List.replicate (l.length - n) (0, 0)) (i := n) (by rw [List.length_replicate]; omega)
        have hGs0 : ∀ Y, G.set b Y = H.set b Y := fun Y => by rw [hG, List.set_set]
        rw [hXt] at hspl
        simp -implicitDefEqProofs (disch := omega) only [hjj, hG1, hG0, hrep, hne0, hspl, hGs0, prs_len, prs_one, List.length_replicate, hset0, simprocAttr, amset, tyset, Function.comp_apply, one1, lenV, calleeOf, lateOk, belowV, aop, AV.ofValue, AV.ofCell, AV.cells, AV.flat, AV.one, arep, aBin, aAppend, aConv]
        refine ⟨by omega, ⟨by omega, .inl (Nat.le_refl _)⟩, by omega, by omega, ⟨by omega, .inl (by omega)⟩, ?_⟩
        obtain rfl : j = l.length := by omega
        rw [List.take_length] at hn ⊢
        refine hQ _ _ (end_byS (by rw [List.length_set]) (.inl rfl) (HBel.put hbel b bels_prs) (x1 := .sl (some (b, 0)) (n - 0) (Option.map (fun x => x - 0) cap)) (.sl (some (b, 0)) (delL p l).length none) (resT Tryz.results66) ⟨rfl, by rw [hown, hn]; rfl⟩ ?_)
        exact absWf (jn @hn @Nat.sub_zero)
open Go.RowKit
/-- The zonogon is apart from the cell's square. -/
def apP (x y : Int) (l : List Pt) (c : Pt) : Bool := apartB x y l (c.1 * 64) (c.2 * 64) ((c.1 + 1) * 64) ((c.2 + 1) * 64)
/-- The cells that are asked, the error, the cells that are touched. -/
def touQ (x y : Int) (l : List Pt) : List Pt := cellsR ((ifv (validB x y l) (x - spr (1, 0) l)) / 2) ((ifv (validB x y l) (y - spr (0, 1) l)) / 2) (0 - ((0 - (ifv (validB x y l) (x + spr (1, 0) l))) / 2)) (0 - ((0 - (ifv (validB x y l) (y + spr (0, 1) l))) / 2))
def touF (x y : Int) (l : List Pt) : Int := cellsE ((ifv (validB x y l) (x - spr (1, 0) l)) / 2) ((ifv (validB x y l) (y - spr (0, 1) l)) / 2) (0 - ((0 - (ifv (validB x y l) (x + spr (1, 0) l))) / 2)) (0 - ((0 - (ifv (validB x y l) (y + spr (0, 1) l))) / 2))
def touC (x y : Int) (l : List Pt) : List Pt := if validB x y l = true then touQ x y l else []
def touE (x y : Int) (l : List Pt) : Int := if validB x y l = true then touF x y l else 1
theorem touQ_len (x y : Int) (l : List Pt) : (touQ x y l).length ≤ 8192 := cells_len _ _ _ _
theorem touQ_bd {x y : Int} {l : List Pt} : ∀ c ∈ touQ x y l, (-16386 ≤ c.1 ∧ c.1 ≤ 16384) ∧ (-16386 ≤ c.2 ∧ c.2 ≤ 16384) := cellsR_bd
def touL (x y : Int) (l : List Pt) : List Pt := if touE x y l = 0 then delL (apP x y l) (touC x y l) else []
theorem touC_len (x y : Int) (l : List Pt) : (touC x y l).length ≤ 8192 := by
  unfold touC; split
  · exact cells_len _ _ _ _
  · simp
theorem touL_len (x y : Int) (l : List Pt) : (touL x y l).length ≤ 8192 := by
  unfold touL; split
  · exact Nat.le_trans delL_le (touC_len x y l)
  · simp
theorem up2 (a : Int) : (a + 1) / 2 = 0 - (0 - a) / 2 := by omega
theorem ifv_t {b : Bool} {v : Int} (h : b = true) : ifv b v = v := by unfold ifv; rw [if_pos h]
/-- Bounds of a valid zonogon are small. -/
theorem bnd_bd {x y : Int} {l : List Pt} (h : validB x y l = true) : (-2400000000000000000 ≤ ifv (validB x y l) (x - spr (1, 0) l) ∧ ifv (validB x y l) (x - spr (1, 0) l) ≤ 2400000000000000000) ∧ (-2400000000000000000 ≤ ifv (validB x y l) (y - spr (0, 1) l) ∧ ifv (validB x y l) (y - spr (0, 1) l) ≤ 2400000000000000000) ∧ (-2400000000000000000 ≤ ifv (validB x y l) (x + spr (1, 0) l) ∧ ifv (validB x y l) (x + spr (1, 0) l) ≤ 2400000000000000000) ∧ (-2400000000000000000 ≤ ifv (validB x y l) (y + spr (0, 1) l) ∧ ifv (validB x y l) (y + spr (0, 1) l) ≤ 2400000000000000000) := by
  rw [ifv_t h, ifv_t h, ifv_t h, ifv_t h]
  obtain ⟨hl16, hlB⟩ := valid_bd h
  have hxy := valid_bd3 h
  have h1 := spr_bd (n := (1, 0)) (by unfold Bd; simp) l (fun e he => by have := hlB e he; unfold Bd at *; omega)
  have h2 := spr_bd (n := (0, 1)) (by unfold Bd; simp) l (fun e he => by have := hlB e he; unfold Bd at *; omega)
  omega
open Go.RowKit
abbrev T6 := Int × Int × Int × Int × Int × Int
def r6 (l : List T6) : List AV := l.flatMap fun p => [.int .i64 p.1, .int .i64 p.2.1, .int .i64 p.2.2.1, .int .i64 p.2.2.2.1, .int .i64 p.2.2.2.2.1, .int .i64 p.2.2.2.2.2]
def g6 (l : List T6) (j : Nat) : T6 := l.getD j (0, 0, 0, 0, 0, 0)
def g61 (l : List T6) (j : Nat) : Int := (g6 l j).1
def g62 (l : List T6) (j : Nat) : Int := (g6 l j).2.1
def g63 (l : List T6) (j : Nat) : Int := (g6 l j).2.2.1
def g64 (l : List T6) (j : Nat) : Int := (g6 l j).2.2.2.1
def g65 (l : List T6) (j : Nat) : Int := (g6 l j).2.2.2.2.1
def g66 (l : List T6) (j : Nat) : Int := (g6 l j).2.2.2.2.2
theorem g6_eq {l : List T6} {j : Nat} (h : j < l.length) : (g61 l j, g62 l j, g63 l j, g64 l j, g65 l j, g66 l j) = l[j] := by
  simp [g61, g62, g63, g64, g65, g66, g6, h, List.getD_eq_getElem?_getD]
theorem r6_cons {p : T6} {l : List T6} : r6 (p :: l) = .int .i64 p.1 :: .int .i64 p.2.1 :: .int .i64 p.2.2.1 :: .int .i64 p.2.2.2.1 :: .int .i64 p.2.2.2.2.1 :: .int .i64 p.2.2.2.2.2 :: r6 l := rfl
theorem r6_len : ∀ {l : List T6}, (r6 l).length = l.length * 6
  | [] => rfl
  | p :: l => by rw [r6_cons]; simp only [List.length_cons, r6_len (l := l)]; omega
theorem r6_at : ∀ {l : List T6} {j : Nat} (_h : j < l.length), (r6 l).drop (j * 6) = .int .i64 (g61 l j) :: .int .i64 (g62 l j) :: .int .i64 (g63 l j) :: .int .i64 (g64 l j) :: .int .i64 (g65 l j) :: .int .i64 (g66 l j) :: (r6 l).drop ((j + 1) * 6)
  | [], j, h => by simp at h
  | p :: l, 0, _ => by rw [r6_cons]; simp [g61, g62, g63, g64, g65, g66, g6]
  | p :: l, j + 1, h => by
    rw [r6_cons, show (j + 1) * 6 = j * 6 + 1 + 1 + 1 + 1 + 1 + 1 by omega, List.drop_succ_cons, List.drop_succ_cons, List.drop_succ_cons, List.drop_succ_cons, List.drop_succ_cons, List.drop_succ_cons, r6_at (l := l) (by simpa using h), show (j + 1 + 1) * 6 = (j + 1) * 6 + 1 + 1 + 1 + 1 + 1 + 1 by omega, List.drop_succ_cons, List.drop_succ_cons, List.drop_succ_cons, List.drop_succ_cons, List.drop_succ_cons, List.drop_succ_cons]
    rfl
theorem r6_load {l : List T6} {j : Nat} (h : j < l.length) : ((r6 l).drop (j * 6)).take 6 = [.int .i64 (g61 l j), .int .i64 (g62 l j), .int .i64 (g63 l j), .int .i64 (g64 l j), .int .i64 (g65 l j), .int .i64 (g66 l j)] := by rw [r6_at h]; rfl
theorem r6_one {l : List T6} : (r6 l).all AV.one = true := by
  induction l with
  | nil => rfl
  | cons p l ih => rw [r6_cons]; simp [AV.one, ih]
section
variable {P : Program} {H : AHeap} {n : Nat}
end
set_option linter.unusedSimpArgs false
set_option linter.unusedVariables false
open Go.RowKit
/-- Whether an arc is valid. -/
def arcB (f c : Int) : Bool := decide (0 ≤ f) && (decide (f < 256) && (decide (1 ≤ c) && (decide (c ≤ 256) && (decide (f = 0) || decide (c < 256)))))
theorem arcB_iff {f c : Int} : arcB f c = true ↔ (0 ≤ f ∧ f < 256) ∧ (1 ≤ c ∧ c ≤ 256) ∧ (f = 0 ∨ c < 256) := by
  unfold arcB
  simp only [Bool.and_eq_true, Bool.or_eq_true, decide_eq_true_eq]
  omega
/-- The arc with a first mark and a number of marks. -/
def arcF (f c : Int) : Int := if 256 ≤ c then 0 else f % 256
def arcC (c : Int) : Int := if 256 ≤ c then 256 else c
theorem arcF_ok {f c : Int} (h : 1 ≤ c) : arcB (arcF f c) (arcC c) = true := by
  rw [arcB_iff]; unfold arcF arcC; split <;> omega
/-- The marks of an arc. -/
def mrkL (f : Int) (n : Nat) : List Int := (List.range n).map fun (i : Nat) => (f + (i : Int)) % 256
theorem mrkL_len (f : Int) (n : Nat) : (mrkL f n).length = n := by simp [mrkL]
theorem mrkL_succ (f : Int) (n : Nat) : mrkL f (n + 1) = mrkL f n ++ [(f + (n : Int)) % 256] := by
  unfold mrkL; rw [List.range_succ, List.map_append]; rfl
/-- A mark is in an arc. -/
def inArc (f c m : Int) : Prop := (m - f) % 256 < c
instance (f c m : Int) : Decidable (inArc f c m) := by unfold inArc; exact inferInstance
open Go.RowKit
def offB (n : Int) : Bool := decide (n < -1048576) || decide (1048576 < n)
def bxB (x0 y0 x1 y1 f c : Int) : Bool := decide (x0 ≤ x1) && (decide (y0 ≤ y1) && ((!([x0, y0, x1, y1].any offB)) && arcB f c))
theorem bxB_iff {x0 y0 x1 y1 f c : Int} : bxB x0 y0 x1 y1 f c = true ↔ (-1048576 ≤ x0 ∧ x0 ≤ x1 ∧ x1 ≤ 1048576) ∧ (-1048576 ≤ y0 ∧ y0 ≤ y1 ∧ y1 ≤ 1048576) ∧ arcB f c = true := by
  unfold bxB offB
  simp only [Bool.and_eq_true, decide_eq_true_eq, List.any_cons, List.any_nil, Bool.or_false, Bool.not_eq_true', Bool.or_eq_false_iff, decide_eq_false_iff_not]
  constructor
  · rintro ⟨a, b, c, d⟩; exact ⟨by omega, by omega, d⟩
  · rintro ⟨a, b, d⟩; exact ⟨by omega, by omega, by omega, d⟩
def boxB (b : T6) : Bool := bxB b.1 b.2.1 b.2.2.1 b.2.2.2.1 b.2.2.2.2.1 b.2.2.2.2.2
def setB (l : List T6) : Bool := decide (((l.length : Nat) : Int) ≤ 16) && !(l.any fun b => !boxB b)
theorem setB_iff {l : List T6} : setB l = true ↔ l.length ≤ 16 ∧ ∀ b ∈ l, boxB b = true := by
  unfold setB
  rw [Bool.and_eq_true, decide_eq_true_eq, Bool.not_eq_true', List.any_eq_false]
  constructor
  · rintro ⟨a, b⟩; exact ⟨by omega, fun x hx => by have := b x hx; simpa using this⟩
  · rintro ⟨a, b⟩; exact ⟨by omega, fun x hx => by simp [b x hx]⟩
def mnI (a b : Int) : Int := if b < a then b else a
def mxI (a b : Int) : Int := if a < b then b else a
theorem g6_mem {l : List T6} {j : Nat} (h : j < l.length) : g6 l j ∈ l := by
  unfold g6; rw [List.getD_eq_getElem?_getD]; simp [h]
open Go.RowKit
def swX (x0 y0 x1 y1 h t f tu le sl ra : Int) : Int := mkX (sweE x0 y0 x1 y1 h t f tu le sl ra) (sweX x0 x1 h f le)
def swY (x0 y0 x1 y1 h t f tu le sl ra : Int) : Int := mkX (sweE x0 y0 x1 y1 h t f tu le sl ra) (sweY y0 y1 h f le)
def swL (x0 y0 x1 y1 h t f tu le sl ra : Int) : List Pt := mkL (sweE x0 y0 x1 y1 h t f tu le sl ra) (sweL x0 y0 x1 y1 h f le sl)
def stE (x0 y0 x1 y1 h t f tu le sl ra : Int) : Int := touE (swX x0 y0 x1 y1 h t f tu le sl ra) (swY x0 y0 x1 y1 h t f tu le sl ra) (swL x0 y0 x1 y1 h t f tu le sl ra)
def stL (x0 y0 x1 y1 h t f tu le sl ra : Int) : List Pt := touL (swX x0 y0 x1 y1 h t f tu le sl ra) (swY x0 y0 x1 y1 h t f tu le sl ra) (swL x0 y0 x1 y1 h t f tu le sl ra)
theorem stL_len {x0 y0 x1 y1 h t f tu le sl ra : Int} : (stL x0 y0 x1 y1 h t f tu le sl ra).length ≤ 8192 := touL_len _ _ _
/-- The way of a command from a rectangle with a heading is free. -/
def unhB (W Hh : Int) (xs : List Int) (x0 y0 x1 y1 h t f tu le sl ra : Int) : Bool := decide (sweE x0 y0 x1 y1 h t f tu le sl ra = 0) && (decide (stE x0 y0 x1 y1 h t f tu le sl ra = 0) && !((stL x0 y0 x1 y1 h t f tu le sl ra).any fun c => atI W Hh xs c.1 c.2 != 1))
def shF (bf bc t : Int) : Int := arcF (bf + (((t % 256).toNat : Nat) : Int)) bc
def grF (F C n : Int) : Int := arcF (F - n) (C + 2 * n)
def grC (C n : Int) : Int := arcC (C + 2 * n)
/-- The headings that a box may have after a turn. -/
def mrkA (bf bc t tu : Int) : List Int := mrkL (grF (shF bf bc t) (arcC bc) tu) (grC (arcC bc) tu).toNat
def boxOK (W Hh : Int) (xs : List Int) (t f tu le sl ra : Int) (b : T6) : Bool := (mrkA b.2.2.2.2.1 b.2.2.2.2.2 t tu).all fun h => unhB W Hh xs b.1 b.2.1 b.2.2.1 b.2.2.2.1 h t f tu le sl ra
def saE (W Hh : Int) (xs : List Int) (l : List T6) (t f tu le sl ra : Int) : Int := if (vldB W Hh xs && (setB l && (cmdB t f && bndB tu le sl ra))) = true then 0 else 1
def saB (W Hh : Int) (xs : List Int) (l : List T6) (t f tu le sl ra : Int) : Bool := decide (saE W Hh xs l t f tu le sl ra = 0) && (decide (f = 0) || l.all fun b => boxOK W Hh xs t f tu le sl ra b)
theorem saE_1 {W Hh : Int} {xs : List Int} {l : List T6} {t f tu le sl ra : Int} (h : ¬ (vldB W Hh xs = true ∧ setB l = true ∧ cmdB t f = true ∧ bndB tu le sl ra = true)) : saE W Hh xs l t f tu le sl ra = 1 ∧ saB W Hh xs l t f tu le sl ra = false := by
  have e : saE W Hh xs l t f tu le sl ra = 1 := if_neg (by simp only [Bool.and_eq_true]; exact h)
  exact ⟨e, by unfold saB; rw [e]; rfl⟩
theorem saE_0 {W Hh : Int} {xs : List Int} {l : List T6} {t f tu le sl ra : Int} (h1 : vldB W Hh xs = true) (h2 : setB l = true) (h3 : cmdB t f = true) (h4 : bndB tu le sl ra = true) : saE W Hh xs l t f tu le sl ra = 0 := if_pos (by rw [h1, h2, h3, h4]; rfl)
theorem saB_z {W Hh : Int} {xs : List Int} {l : List T6} {t f tu le sl ra : Int} (he : saE W Hh xs l t f tu le sl ra = 0) (hf : f = 0) : saB W Hh xs l t f tu le sl ra = true := by
  unfold saB; rw [he, decide_eq_true hf]; rfl
theorem boxOK_t {W Hh : Int} {xs : List Int} {t f tu le sl ra : Int} {b : T6} (h : ∀ m : Nat, m < (mrkA b.2.2.2.2.1 b.2.2.2.2.2 t tu).length → unhB W Hh xs b.1 b.2.1 b.2.2.1 b.2.2.2.1 (gi (mrkA b.2.2.2.2.1 b.2.2.2.2.2 t tu) m) t f tu le sl ra = true) : boxOK W Hh xs t f tu le sl ra b = true := by
  unfold boxOK
  rw [List.all_eq_true]
  intro e he
  obtain ⟨m, hm, rfl⟩ := List.mem_iff_getElem.1 he
  rw [← gi_eq hm]; exact h m hm
theorem boxOK_f {W Hh : Int} {xs : List Int} {t f tu le sl ra : Int} {b : T6} {m : Nat} (hm : m < (mrkA b.2.2.2.2.1 b.2.2.2.2.2 t tu).length) (h : unhB W Hh xs b.1 b.2.1 b.2.2.1 b.2.2.2.1 (gi (mrkA b.2.2.2.2.1 b.2.2.2.2.2 t tu) m) t f tu le sl ra = false) : boxOK W Hh xs t f tu le sl ra b = false := by
  rw [← Bool.not_eq_true]
  intro hh
  unfold boxOK at hh
  rw [List.all_eq_true] at hh
  have := hh _ (List.getElem_mem hm)
  rw [← gi_eq hm, h] at this; cases this
theorem saB_t {W Hh : Int} {xs : List Int} {l : List T6} {t f tu le sl ra : Int} (he : saE W Hh xs l t f tu le sl ra = 0) (h : ∀ j : Nat, j < l.length → boxOK W Hh xs t f tu le sl ra (g6 l j) = true) : saB W Hh xs l t f tu le sl ra = true := by
  unfold saB
  rw [he]
  have e : (l.all fun b => boxOK W Hh xs t f tu le sl ra b) = true := by
    rw [List.all_eq_true]
    intro b hb
    obtain ⟨j, hj, rfl⟩ := List.mem_iff_getElem.1 hb
    have := h j hj
    rw [show g6 l j = l[j] from g6_eq hj] at this; exact this
  rw [e]; simp
theorem saB_f {W Hh : Int} {xs : List Int} {l : List T6} {t f tu le sl ra : Int} {j : Nat} (hf : ¬ f = 0) (hj : j < l.length) (h : boxOK W Hh xs t f tu le sl ra (g6 l j) = false) : saB W Hh xs l t f tu le sl ra = false := by
  unfold saB
  have e : (l.all fun b => boxOK W Hh xs t f tu le sl ra b) = false := by
    rw [← Bool.not_eq_true]; intro hh
    rw [List.all_eq_true] at hh
    have := hh _ (g6_mem hj)
    rw [h] at this; cases this
  rw [e, decide_eq_false hf]; simp
theorem mrkA_len {bf bc t tu : Int} (h : arcB bf bc = true) (ht : 0 ≤ tu ∧ tu ≤ 8) : (mrkA bf bc t tu).length ≤ 256 := by
  have := arcB_iff.1 h
  unfold mrkA; rw [mrkL_len]; unfold grC arcC; split <;> split <;> omega
open Go.RowKit
theorem sqz_le {a b : Int} (hb : 0 ≤ b) (h : a * a ≤ b * b) : -b ≤ a ∧ a ≤ b := by
  constructor
  · refine Int.not_lt.1 fun hc => ?_
    have h1 : (b + 1) * (b + 1) ≤ (-a) * (-a) := Int.mul_le_mul (by omega) (by omega) (by omega) (by omega)
    rw [Int.neg_mul_neg] at h1
    have h2 : (b + 1) * (b + 1) = b * b + 2 * b + 1 := by rw [Int.add_mul, Int.mul_add]; omega
    omega
  · refine Int.not_lt.1 fun hc => ?_
    have h1 : (b + 1) * (b + 1) ≤ a * a := Int.mul_le_mul (by omega) (by omega) (by omega) (by omega)
    have h2 : (b + 1) * (b + 1) = b * b + 2 * b + 1 := by rw [Int.add_mul, Int.mul_add]; omega
    omega
theorem sqz_nn (a : Int) : 0 ≤ a * a := by
  rcases Int.le_total 0 a with h | h
  · exact Int.mul_nonneg h h
  · have := Int.mul_nonneg (show 0 ≤ -a by omega) (show 0 ≤ -a by omega)
    rwa [Int.neg_mul_neg] at this
/-- A point near a segment, by the foot of its perpendicular. -/
theorem near_geo {ux uy wx wy : Int} (hn : (ux * wy - uy * wx) * (ux * wy - uy * wx) ≤ 400 * (ux * ux + uy * uy)) :
    (-(20 * (ux * ux + uy * uy)) ≤ (ux * ux + uy * uy) * wx - (ux * wx + uy * wy) * ux ∧ (ux * ux + uy * uy) * wx - (ux * wx + uy * wy) * ux ≤ 20 * (ux * ux + uy * uy)) ∧
    (-(20 * (ux * ux + uy * uy)) ≤ (ux * ux + uy * uy) * wy - (ux * wx + uy * wy) * uy ∧ (ux * ux + uy * uy) * wy - (ux * wx + uy * wy) * uy ≤ 20 * (ux * ux + uy * uy)) := by
  have e1 : (ux * ux + uy * uy) * wx - (ux * wx + uy * wy) * ux = -(uy * (ux * wy - uy * wx)) := by grind
  have e2 : (ux * ux + uy * uy) * wy - (ux * wx + uy * wy) * uy = ux * (ux * wy - uy * wx) := by grind
  rw [e1, e2]
  have hx := sqz_nn ux
  have hy := sqz_nn uy
  have hLx : ux * ux ≤ ux * ux + uy * uy := by omega
  have hLy : uy * uy ≤ ux * ux + uy * uy := by omega
  have hLn : 0 ≤ ux * ux + uy * uy := by omega
  clear e1 e2
  generalize ux * wy - uy * wx = n at *
  generalize ux * ux + uy * uy = L at *
  have k : ∀ v : Int, v * v ≤ L → (v * n) * (v * n) ≤ (20 * L) * (20 * L) := fun v hv => by
    have h1 : v * v * (n * n) ≤ L * (400 * L) := Int.mul_le_mul hv hn (sqz_nn n) hLn
    have h2 : v * v * (n * n) = (v * n) * (v * n) := by grind
    have h3 : L * (400 * L) = (20 * L) * (20 * L) := by grind
    rw [h2, h3] at h1; exact h1
  have a1 := sqz_le (by omega) (k uy hLy)
  have a2 := sqz_le (by omega) (k ux hLx)
  omega
/-- A segment that crosses a horizontal side. -/
theorem cross_geo {px py qx qy x0 x1 y : Int} (hx : x0 < x1) (h1 : ¬ (0 < py - y ∧ 0 < qy - y) ∧ ¬ (py - y < 0 ∧ qy - y < 0))
    (h2 : ¬ (0 < (qx - px) * (y - py) - (qy - py) * (x0 - px) ∧ 0 < (qx - px) * (y - py) - (qy - py) * (x1 - px)) ∧ ¬ ((qx - px) * (y - py) - (qy - py) * (x0 - px) < 0 ∧ (qx - px) * (y - py) - (qy - py) * (x1 - px) < 0))
    (h3 : x0 ≤ px ∨ x0 ≤ qx) (h4 : px ≤ x1 ∨ qx ≤ x1) : ∃ A T : Int, 0 < T ∧ 0 ≤ A ∧ A ≤ T ∧ T * y = T * py + A * (qy - py) ∧ T * x0 ≤ T * px + A * (qx - px) ∧ T * px + A * (qx - px) ≤ T * x1 := by
  rcases Int.lt_trichotomy (qy - py) 0 with hu | hu | hu
  · refine ⟨py - y, py - qy, by omega, by omega, by omega, by grind, ?_, ?_⟩
    · have e0 : (qx - px) * (y - py) - (qy - py) * (x0 - px) = (py - qy) * x0 - ((py - qy) * px + (py - y) * (qx - px)) := by grind
      have e1 : (qx - px) * (y - py) - (qy - py) * (x1 - px) = (py - qy) * x1 - ((py - qy) * px + (py - y) * (qx - px)) := by grind
      have e2 : (py - qy) * x0 < (py - qy) * x1 := Int.mul_lt_mul_of_pos_left hx (by omega)
      rw [e0, e1] at h2; omega
    · have e0 : (qx - px) * (y - py) - (qy - py) * (x0 - px) = (py - qy) * x0 - ((py - qy) * px + (py - y) * (qx - px)) := by grind
      have e1 : (qx - px) * (y - py) - (qy - py) * (x1 - px) = (py - qy) * x1 - ((py - qy) * px + (py - y) * (qx - px)) := by grind
      have e2 : (py - qy) * x0 < (py - qy) * x1 := Int.mul_lt_mul_of_pos_left hx (by omega)
      rw [e0, e1] at h2; omega
  · have hy : py = y := by omega
    have hq : qy = py := by omega
    rcases (by omega : (x0 ≤ px ∧ px ≤ x1) ∨ px < x0 ∨ x1 < px) with h | h | h
    · exact ⟨0, 1, by omega, by omega, by omega, by omega, by omega, by omega⟩
    · refine ⟨x0 - px, qx - px, by omega, by omega, by omega, by subst hy hq; grind, ?_, ?_⟩
      · have e : (qx - px) * px + (x0 - px) * (qx - px) = (qx - px) * x0 := by grind
        omega
      · have e : (qx - px) * px + (x0 - px) * (qx - px) = (qx - px) * x0 := by grind
        have := Int.mul_le_mul_of_nonneg_left (Int.le_of_lt hx) (show 0 ≤ qx - px by omega)
        omega
    · refine ⟨px - x1, px - qx, by omega, by omega, by omega, by subst hy hq; grind, ?_, ?_⟩
      · have e : (px - qx) * px + (px - x1) * (qx - px) = (px - qx) * x1 := by grind
        have := Int.mul_le_mul_of_nonneg_left (Int.le_of_lt hx) (show 0 ≤ px - qx by omega)
        omega
      · have e : (px - qx) * px + (px - x1) * (qx - px) = (px - qx) * x1 := by grind
        omega
  · refine ⟨y - py, qy - py, by omega, by omega, by omega, by grind, ?_, ?_⟩
    · have e0 : (qx - px) * (y - py) - (qy - py) * (x0 - px) = ((qy - py) * px + (y - py) * (qx - px)) - (qy - py) * x0 := by grind
      have e1 : (qx - px) * (y - py) - (qy - py) * (x1 - px) = ((qy - py) * px + (y - py) * (qx - px)) - (qy - py) * x1 := by grind
      have e2 : (qy - py) * x0 < (qy - py) * x1 := Int.mul_lt_mul_of_pos_left hx (by omega)
      rw [e0, e1] at h2; omega
    · have e0 : (qx - px) * (y - py) - (qy - py) * (x0 - px) = ((qy - py) * px + (y - py) * (qx - px)) - (qy - py) * x0 := by grind
      have e1 : (qx - px) * (y - py) - (qy - py) * (x1 - px) = ((qy - py) * px + (y - py) * (qx - px)) - (qy - py) * x1 := by grind
      have e2 : (qy - py) * x0 < (qy - py) * x1 := Int.mul_lt_mul_of_pos_left hx (by omega)
      rw [e0, e1] at h2; omega

/-- Floors of a direction's multiples keep their proportion. -/
theorem flo_geo {v D n m : Int} (hD : 0 < D) (hn : 0 ≤ n ∧ n ≤ m) : -m ≤ m * (n * v / D) - n * (m * v / D) ∧ m * (n * v / D) - n * (m * v / D) ≤ m := by
  have a1 := Int.mul_ediv_self_le (x := n * v) (k := D) (by omega)
  have a2 := Int.lt_mul_ediv_self_add (x := n * v) hD
  have b1 := Int.mul_ediv_self_le (x := m * v) (k := D) (by omega)
  have b2 := Int.lt_mul_ediv_self_add (x := m * v) hD
  generalize n * v / D = p at *
  generalize m * v / D = q at *
  have hm : 0 ≤ m := by omega
  have e1 : m * (D * p) ≤ m * (n * v) := Int.mul_le_mul_of_nonneg_left a1 hm
  have e2 : m * (n * v) ≤ m * (D * p + D) := Int.mul_le_mul_of_nonneg_left (by omega) hm
  have f1 : n * (D * q) ≤ n * (m * v) := Int.mul_le_mul_of_nonneg_left b1 hn.1
  have f2 : n * (m * v) ≤ n * (D * q + D) := Int.mul_le_mul_of_nonneg_left (by omega) hn.1
  have g : D * n ≤ D * m := Int.mul_le_mul_of_nonneg_left hn.2 (by omega)
  constructor
  · refine Int.le_of_mul_le_mul_left (a := D) ?_ hD
    have : D * (m * p - n * q) = m * (D * p) - n * (D * q) := by grind
    have h2 : m * (D * p + D) = m * (D * p) + D * m := by grind
    have h3 : D * -m = -(D * m) := by grind
    have h4 : m * (n * v) = n * (m * v) := by grind
    omega
  · refine Int.le_of_mul_le_mul_left (a := D) ?_ hD
    have : D * (m * p - n * q) = m * (D * p) - n * (D * q) := by grind
    have h2 : n * (D * q + D) = n * (D * q) + D * n := by grind
    have h4 : m * (n * v) = n * (m * v) := by grind
    omega
def absZ (x : Int) : Int := if x < 0 then -x else x
theorem absZ_le {x k : Int} : absZ x ≤ k ↔ -k ≤ x ∧ x ≤ k := by unfold absZ; split <;> omega
theorem mul_absZ {a b k : Int} (h : -k ≤ b ∧ b ≤ k) : -(absZ a * k) ≤ a * b ∧ a * b ≤ absZ a * k := by
  have hk : 0 ≤ k := by omega
  unfold absZ
  split
  · have h1 := Int.mul_le_mul_of_nonneg_left h.1 (show 0 ≤ -a by omega)
    have h2 := Int.mul_le_mul_of_nonneg_left h.2 (show 0 ≤ -a by omega)
    have e : -a * b = -(a * b) := by grind
    have e2 : -a * -k = -(-a * k) := by grind
    omega
  · have h1 := Int.mul_le_mul_of_nonneg_left h.1 (show 0 ≤ a by omega)
    have h2 := Int.mul_le_mul_of_nonneg_left h.2 (show 0 ≤ a by omega)
    have e2 : a * -k = -(a * k) := by grind
    omega
/-- No direction keeps them apart. -/
theorem core_geo {n1 n2 U d1 d2 r1 r2 σ w1 w2 K1 K2 : Int} (hU : 0 < U) (h1 : U * d1 = r1 + σ * w1) (h2 : U * d2 = r2 + σ * w2) (b1 : -(U * K1) ≤ r1 ∧ r1 ≤ U * K1) (b2 : -(U * K2) ≤ r2 ∧ r2 ≤ U * K2) (bs : -U ≤ σ ∧ σ ≤ U) :
    absZ (n1 * d1 + n2 * d2) ≤ absZ n1 * K1 + absZ n2 * K2 + absZ (n1 * w1 + n2 * w2) := by
  rw [absZ_le]
  have m1 := mul_absZ (a := n1) b1
  have m2 := mul_absZ (a := n2) b2
  have m3 := mul_absZ (a := n1 * w1 + n2 * w2) bs
  have e : U * (n1 * d1 + n2 * d2) = n1 * r1 + n2 * r2 + (n1 * w1 + n2 * w2) * σ := by
    have : U * (n1 * d1 + n2 * d2) = n1 * (U * d1) + n2 * (U * d2) := by grind
    rw [this, h1, h2]; grind
  have f : U * (absZ n1 * K1 + absZ n2 * K2 + absZ (n1 * w1 + n2 * w2)) = absZ n1 * (U * K1) + absZ n2 * (U * K2) + absZ (n1 * w1 + n2 * w2) * U := by grind
  constructor
  · refine Int.le_of_mul_le_mul_left (a := U) ?_ hU
    rw [Int.mul_neg, f, e]; omega
  · refine Int.le_of_mul_le_mul_left (a := U) ?_ hU
    rw [f, e]; omega
/-- One coordinate of the way (c: the cell's first line; p: where the robot is; dl: its way; A/T: how far; a, b: the rectangle). -/
theorem coord_geo {c p dl A T a b w w' e m n' s : Int} (hT : 0 < T) (hA : 0 ≤ A ∧ A ≤ T) (hm : 0 ≤ n' ∧ n' ≤ m) (hP : T * (c - 20) ≤ T * p + A * dl ∧ T * p + A * dl ≤ T * (c + 84)) (hr : a ≤ p ∧ p ≤ b) (hd : dl = w' + e) (he : -s ≤ e ∧ e ≤ s) (hw : -m ≤ m * w' - n' * w ∧ m * w' - n' * w ≤ m) :
    ∃ r : Int, (T * m) * (2 * c + 64 - (a + b + w)) = r + (2 * A * n' - T * m) * w ∧ -((T * m) * (b - a + 2 * s + 2 + 104)) ≤ r ∧ r ≤ (T * m) * (b - a + 2 * s + 2 + 104) := by
  refine ⟨m * (T * (2 * c + 64) - 2 * (T * p + A * dl)) + m * (T * (2 * p - a - b)) + m * (2 * (A * e)) + 2 * (A * (m * w' - n' * w)), by subst hd; grind, ?_⟩
  have hmm : 0 ≤ m := by omega
  have e1 : T * (c - 20) = T * c - 20 * T := by grind
  have e2 : T * (c + 84) = T * c + 84 * T := by grind
  have e3 : T * (2 * c + 64) = 2 * (T * c) + 64 * T := by grind
  have k1 : -(104 * T) ≤ T * (2 * c + 64) - 2 * (T * p + A * dl) ∧ T * (2 * c + 64) - 2 * (T * p + A * dl) ≤ 104 * T := by omega
  have k2a := Int.mul_le_mul_of_nonneg_left (show -(b - a) ≤ 2 * p - a - b by omega) (Int.le_of_lt hT)
  have k2b := Int.mul_le_mul_of_nonneg_left (show 2 * p - a - b ≤ b - a by omega) (Int.le_of_lt hT)
  have k3a := Int.mul_le_mul_of_nonneg_left he.1 hA.1
  have k3b := Int.mul_le_mul_of_nonneg_left he.2 hA.1
  have k3c := Int.mul_le_mul_of_nonneg_right hA.2 (show 0 ≤ s by omega)
  have k4a := Int.mul_le_mul_of_nonneg_left hw.1 hA.1
  have k4b := Int.mul_le_mul_of_nonneg_left hw.2 hA.1
  have k4c := Int.mul_le_mul_of_nonneg_right hA.2 hmm
  have e4 : A * -s = -(A * s) := by grind
  have e5 : A * -m = -(A * m) := by grind
  have e6 : T * -(b - a) = -(T * (b - a)) := by grind
  generalize T * (2 * c + 64) - 2 * (T * p + A * dl) = x1 at *
  generalize T * (2 * p - a - b) = x2 at *
  generalize A * (m * w' - n' * w) = x4 at *
  generalize A * e = x3 at *
  have l1a := Int.mul_le_mul_of_nonneg_left k1.1 hmm
  have l1b := Int.mul_le_mul_of_nonneg_left k1.2 hmm
  have l2a := Int.mul_le_mul_of_nonneg_left (show -(T * (b - a)) ≤ x2 by omega) hmm
  have l2b := Int.mul_le_mul_of_nonneg_left k2b hmm
  have l3a := Int.mul_le_mul_of_nonneg_left (show -(2 * (T * s)) ≤ 2 * x3 by omega) hmm
  have l3b := Int.mul_le_mul_of_nonneg_left (show 2 * x3 ≤ 2 * (T * s) by omega) hmm
  have g : (T * m) * (b - a + 2 * s + 2 + 104) = m * (T * (b - a)) + m * (2 * (T * s)) + 2 * (T * m) + m * (104 * T) := by grind
  have g1 : m * -(104 * T) = -(m * (104 * T)) := by grind
  have g2 : m * -(T * (b - a)) = -(m * (T * (b - a))) := by grind
  have g3 : m * -(2 * (T * s)) = -(m * (2 * (T * s))) := by grind
  rw [g]
  omega

def lnP (x y : Int) : Bool := within x 2097152 && within y 2097152
def lnR (x0 y0 x1 y1 : Int) : Bool := decide (-2097152 ≤ x0) && (decide (x0 ≤ x1) && (decide (x1 ≤ 2097152) && (decide (-2097152 ≤ y0) && (decide (y0 ≤ y1) && decide (y1 ≤ 2097152)))))
theorem lnP_iff {x y : Int} : lnP x y = true ↔ (-2097152 ≤ x ∧ x ≤ 2097152) ∧ -2097152 ≤ y ∧ y ≤ 2097152 := by unfold lnP; rw [Bool.and_eq_true, within_iff, within_iff]
theorem lnR_iff {x0 y0 x1 y1 : Int} : lnR x0 y0 x1 y1 = true ↔ (-2097152 ≤ x0 ∧ x0 ≤ x1 ∧ x1 ≤ 2097152) ∧ -2097152 ≤ y0 ∧ y0 ≤ y1 ∧ y1 ≤ 2097152 := by
  unfold lnR; simp only [Bool.and_eq_true, decide_eq_true_eq]; omega
def offI (x lo hi : Int) : Int := if (if (lo - x) < (x - hi) then (x - hi) else (lo - x)) < 0 then 0 else (if (lo - x) < (x - hi) then (x - hi) else (lo - x))
def gapI (px py x0 y0 x1 y1 : Int) : Int := if (lnP px py && lnR x0 y0 x1 y1) = true then offI px x0 x1 * offI px x0 x1 + offI py y0 y1 * offI py y0 y1 else 0
def clgI (n lo hi : Int) : Int := if lo < (if hi < n then hi else n) then (if hi < n then hi else n) else lo
def turnI (px py qx qy rx ry : Int) : Int := if (lnP px py && (lnP qx qy && lnP rx ry)) = true then clgI ((qx - px) * (ry - py) - (qy - py) * (rx - px)) (-1) 1 else 0
def inB4 (px py x0 y0 x1 y1 : Int) : Bool := decide (x0 ≤ px) && (decide (px ≤ x1) && (decide (y0 ≤ py) && decide (py ≤ y1)))
def crossB (px py qx qy ax ay bx by_ : Int) : Bool := (lnP px py && (lnP qx qy && (lnP ax ay && lnP bx by_))) && (!decide ((if px < qx then qx else px) < (if bx < ax then bx else ax)) && (!decide ((if ax < bx then bx else ax) < (if qx < px then qx else px)) && (!decide ((if py < qy then qy else py) < (if by_ < ay then by_ else ay)) && (!decide ((if ay < by_ then by_ else ay) < (if qy < py then qy else py)) && (decide (turnI px py qx qy ax ay * turnI px py qx qy bx by_ ≤ 0) && decide (turnI ax ay bx by_ px py * turnI ax ay bx by_ qx qy ≤ 0))))))
def nearT (cx cy px py qx qy : Int) : Bool := within (cx - px) 3000 && (within (cy - py) 3000 && (if (qx - px) * (cx - px) + (qy - py) * (cy - py) ≤ 0 then decide ((cx - px) * (cx - px) + (cy - py) * (cy - py) ≤ 400)
  else if (qx - px) * (qx - px) + (qy - py) * (qy - py) ≤ (qx - px) * (cx - px) + (qy - py) * (cy - py) then decide ((cx - qx) * (cx - qx) + (cy - qy) * (cy - qy) ≤ 400)
  else decide (((qx - px) * (cy - py) - (qy - py) * (cx - px)) * ((qx - px) * (cy - py) - (qy - py) * (cx - px)) ≤ 400 * ((qx - px) * (qx - px) + (qy - py) * (qy - py)))))
def cnX (x0 x1 : Int) : Nat → Int
  | 0 => x0
  | 1 => x1
  | 2 => x1
  | _ => x0
def cnY (y0 y1 : Int) : Nat → Int
  | 0 => y0
  | 1 => y0
  | 2 => y1
  | 3 => y1
  | _ => y0
def tcN (px py qx qy x0 y0 x1 y1 : Int) (j : Nat) : Bool := crossB px py qx qy (cnX x0 x1 j) (cnY y0 y1 j) (cnX x0 x1 (j + 1)) (cnY y0 y1 (j + 1)) || nearT (cnX x0 x1 j) (cnY y0 y1 j) px py qx qy
def tokB (px py qx qy x0 y0 x1 y1 : Int) : Bool := lnP px py && (lnP qx qy && (lnR x0 y0 x1 y1 && (within (px - qx) 1024 && within (py - qy) 1024)))
/-- A disc on its way touches a rectangle. -/
def touchB (px py qx qy x0 y0 x1 y1 : Int) : Bool := tokB px py qx qy x0 y0 x1 y1 && (inB4 px py x0 y0 x1 y1 || (decide (gapI px py x0 y0 x1 y1 ≤ 400) || (decide (gapI qx qy x0 y0 x1 y1 ≤ 400) || (List.range 4).any (tcN px py qx qy x0 y0 x1 y1))))
theorem touchB_t {px py qx qy x0 y0 x1 y1 : Int} (h : tokB px py qx qy x0 y0 x1 y1 = true) {j : Nat} (hj : j < 4) (ht : tcN px py qx qy x0 y0 x1 y1 j = true) : touchB px py qx qy x0 y0 x1 y1 = true := by
  unfold touchB
  rw [h, List.any_eq_true.2 ⟨j, List.mem_range.2 hj, ht⟩]; simp
theorem touchB_f {px py qx qy x0 y0 x1 y1 : Int} (h1 : inB4 px py x0 y0 x1 y1 = false) (h2 : ¬ gapI px py x0 y0 x1 y1 ≤ 400) (h3 : ¬ gapI qx qy x0 y0 x1 y1 ≤ 400) (h4 : ∀ j : Nat, j < 4 → tcN px py qx qy x0 y0 x1 y1 j = false) : touchB px py qx qy x0 y0 x1 y1 = false := by
  unfold touchB
  have e : (List.range 4).any (tcN px py qx qy x0 y0 x1 y1) = false := List.any_eq_false.2 fun j hj => by rw [h4 j (List.mem_range.1 hj)]; decide
  rw [h1, decide_eq_false h2, decide_eq_false h3, e]; simp
theorem off_le {x lo hi : Int} {k : Int} (hl : lo ≤ hi) (h : offI x lo hi ≤ k) : lo - k ≤ x ∧ x ≤ hi + k := by
  unfold offI at h
  split at h <;> split at h <;> omega
theorem off_nn (x lo hi : Int) : 0 ≤ offI x lo hi := by unfold offI; split <;> split <;> omega
theorem gap_le {px py x0 y0 x1 y1 : Int} (hp : lnP px py = true) (hr : lnR x0 y0 x1 y1 = true) (h : gapI px py x0 y0 x1 y1 ≤ 400) : (x0 - 20 ≤ px ∧ px ≤ x1 + 20) ∧ y0 - 20 ≤ py ∧ py ≤ y1 + 20 := by
  have hl := lnR_iff.1 hr
  unfold gapI at h
  rw [hp, hr] at h
  simp only [Bool.and_self, if_true] at h
  have a1 := sqz_nn (offI px x0 x1)
  have a2 := sqz_nn (offI py y0 y1)
  have b1 := sqz_le (a := offI px x0 x1) (b := 20) (by omega) (by omega)
  have b2 := sqz_le (a := offI py y0 y1) (b := 20) (by omega) (by omega)
  exact ⟨off_le (by omega) b1.2, off_le (by omega) b2.2⟩
theorem turn_sg {px py qx qy ax ay bx by_ : Int} (hp : lnP px py = true) (hq : lnP qx qy = true) (ha : lnP ax ay = true) (hb : lnP bx by_ = true) (h : turnI px py qx qy ax ay * turnI px py qx qy bx by_ ≤ 0) :
    ¬ (0 < (qx - px) * (ay - py) - (qy - py) * (ax - px) ∧ 0 < (qx - px) * (by_ - py) - (qy - py) * (bx - px)) ∧ ¬ ((qx - px) * (ay - py) - (qy - py) * (ax - px) < 0 ∧ (qx - px) * (by_ - py) - (qy - py) * (bx - px) < 0) := by
  unfold turnI at h
  rw [hp, hq, ha, hb] at h
  simp only [Bool.and_self, if_true] at h
  generalize (qx - px) * (ay - py) - (qy - py) * (ax - px) = u at *
  generalize (qx - px) * (by_ - py) - (qy - py) * (bx - px) = v at *
  constructor
  · rintro ⟨hu, hv⟩
    have e1 : clgI u (-1) 1 = 1 := by unfold clgI; split <;> split at * <;> omega
    have e2 : clgI v (-1) 1 = 1 := by unfold clgI; split <;> split at * <;> omega
    rw [e1, e2] at h; omega
  · rintro ⟨hu, hv⟩
    have e1 : clgI u (-1) 1 = -1 := by unfold clgI; split <;> split at * <;> omega
    have e2 : clgI v (-1) 1 = -1 := by unfold clgI; split <;> split at * <;> omega
    rw [e1, e2] at h; omega
theorem cross_iff {px py qx qy ax ay bx by_ : Int} (h : crossB px py qx qy ax ay bx by_ = true) : (lnP px py = true ∧ lnP qx qy = true ∧ lnP ax ay = true ∧ lnP bx by_ = true) ∧ (¬ (if px < qx then qx else px) < (if bx < ax then bx else ax) ∧ ¬ (if ax < bx then bx else ax) < (if qx < px then qx else px) ∧ ¬ (if py < qy then qy else py) < (if by_ < ay then by_ else ay) ∧ ¬ (if ay < by_ then by_ else ay) < (if qy < py then qy else py)) ∧ turnI px py qx qy ax ay * turnI px py qx qy bx by_ ≤ 0 ∧ turnI ax ay bx by_ px py * turnI ax ay bx by_ qx qy ≤ 0 := by
  unfold crossB at h
  simp only [Bool.and_eq_true, Bool.not_eq_true', decide_eq_false_iff_not, decide_eq_true_eq] at h
  exact ⟨h.1, ⟨h.2.1, h.2.2.1, h.2.2.2.1, h.2.2.2.2.1⟩, h.2.2.2.2.2⟩
/-- Where the disc touches. -/
def TouP (px py qx qy x0 y0 : Int) : Prop := ∃ A T : Int, 0 < T ∧ (0 ≤ A ∧ A ≤ T) ∧ (T * (x0 - 20) ≤ T * px + A * (qx - px) ∧ T * px + A * (qx - px) ≤ T * (x0 + 84)) ∧ T * (y0 - 20) ≤ T * py + A * (qy - py) ∧ T * py + A * (qy - py) ≤ T * (y0 + 84)
theorem mul20 {T : Int} (hT : 0 < T) (x k : Int) (hk : 0 ≤ k) : T * (x - k) ≤ T * x ∧ T * x ≤ T * (x + k) := ⟨Int.mul_le_mul_of_nonneg_left (by omega) (by omega), Int.mul_le_mul_of_nonneg_left (by omega) (by omega)⟩
/-- A horizontal side is crossed (w: its direction). -/
theorem hside {px py qx qy x0 y0 y w ax bx : Int} (hw : (ax = x0 ∧ bx = x0 + 64) ∨ (ax = x0 + 64 ∧ bx = x0)) (hy : y = y0 ∨ y = y0 + 64) (h : crossB px py qx qy ax y bx y = true) : TouP px py qx qy x0 y0 := by
  obtain ⟨⟨v1, v2, v3, v4⟩, ⟨b1, b2, -, -⟩, t1, t2⟩ := cross_iff h
  have s1 := turn_sg v1 v2 v3 v4 t1
  have s2 := turn_sg v3 v4 v1 v2 t2
  rw [Int.sub_self, Int.zero_mul, Int.zero_mul, Int.sub_zero, Int.sub_zero] at s2
  have k1 : ¬ (0 < py - y ∧ 0 < qy - y) ∧ ¬ (py - y < 0 ∧ qy - y < 0) := by
    rcases hw with ⟨w1, w2⟩ | ⟨w1, w2⟩
    · rw [show bx - ax = 64 by omega] at s2; omega
    · rw [show bx - ax = -64 by omega] at s2; omega
  have k2 : (¬ (0 < (qx - px) * (y - py) - (qy - py) * (x0 - px) ∧ 0 < (qx - px) * (y - py) - (qy - py) * (x0 + 64 - px)) ∧ ¬ ((qx - px) * (y - py) - (qy - py) * (x0 - px) < 0 ∧ (qx - px) * (y - py) - (qy - py) * (x0 + 64 - px) < 0)) := by
    rcases hw with ⟨rfl, rfl⟩ | ⟨rfl, rfl⟩
    · exact s1
    · exact ⟨fun k => s1.1 ⟨k.2, k.1⟩, fun k => s1.2 ⟨k.2, k.1⟩⟩
  obtain ⟨A, T, hT, hA, hA2, e1, e2, e3⟩ := cross_geo (x0 := x0) (x1 := x0 + 64) (by omega) k1 k2 (by rcases hw with ⟨rfl, rfl⟩ | ⟨rfl, rfl⟩ <;> revert b1 b2 <;> (repeat' split) <;> omega) (by rcases hw with ⟨rfl, rfl⟩ | ⟨rfl, rfl⟩ <;> revert b1 b2 <;> (repeat' split) <;> omega)
  have f1 := mul20 hT x0 20 (by omega)
  have f2 := mul20 hT (x0 + 64) 20 (by omega)
  have f3 := mul20 hT y0 20 (by omega)
  have f4 := mul20 hT y0 84 (by omega)
  have f5 := mul20 hT (y0 + 64) 84 (by omega)
  have f6 := mul20 hT (y0 + 64) 20 (by omega)
  refine ⟨A, T, hT, ⟨hA, hA2⟩, ⟨by omega, by rw [show x0 + 84 = x0 + 64 + 20 by omega]; omega⟩, ?_⟩
  rw [← e1]
  rcases hy with rfl | rfl
  · exact ⟨f3.1, f4.2⟩
  · rw [show y0 - 20 = y0 + 64 - 84 by omega, show y0 + 84 = y0 + 64 + 20 by omega]; exact ⟨f5.1, f6.2⟩
theorem TouP.swap {px py qx qy x0 y0 : Int} (h : TouP py px qy qx y0 x0) : TouP px py qx qy x0 y0 := by
  obtain ⟨A, T, a, b, c, d⟩ := h; exact ⟨A, T, a, b, d, c⟩
theorem lnP_swap {x y : Int} (h : lnP x y = true) : lnP y x = true := by rw [lnP_iff] at *; omega
theorem vside {px py qx qy x0 y0 x ay by_ : Int} (hw : (ay = y0 ∧ by_ = y0 + 64) ∨ (ay = y0 + 64 ∧ by_ = y0)) (hx : x = x0 ∨ x = x0 + 64) (h : crossB px py qx qy x ay x by_ = true) : TouP px py qx qy x0 y0 := by
  obtain ⟨⟨v1, v2, v3, v4⟩, ⟨b1, b2, b3, b4⟩, t1, t2⟩ := cross_iff h
  refine TouP.swap (hside (w := 1) hw hx ?_)
  have sw : ∀ {a b c d e f : Int}, lnP a b = true → lnP c d = true → lnP e f = true → turnI b a d c f e = -turnI a b c d e f := fun {a b c d e f} h1 h2 h3 => by
    unfold turnI
    rw [h1, h2, h3, lnP_swap h1, lnP_swap h2, lnP_swap h3]
    simp only [Bool.and_self, if_true]
    have e1 : (d - b) * (e - a) - (c - a) * (f - b) = -((c - a) * (f - b) - (d - b) * (e - a)) := by omega
    rw [e1]
    generalize (c - a) * (f - b) - (d - b) * (e - a) = u
    unfold clgI
    repeat' split
    all_goals omega
  unfold crossB
  rw [lnP_swap v1, lnP_swap v2, lnP_swap v3, lnP_swap v4, sw v1 v2 v3, sw v1 v2 v4, sw v3 v4 v1, sw v3 v4 v2, Int.neg_mul_neg, Int.neg_mul_neg]
  simp only [Bool.and_self, Bool.true_and, Bool.and_eq_true, Bool.not_eq_true', decide_eq_false_iff_not, decide_eq_true_eq]
  exact ⟨b3, b4, b1, b2, t1, t2⟩
/-- A corner is near. -/
theorem corner_t {cx cy px py qx qy x0 y0 : Int} (hx : cx = x0 ∨ cx = x0 + 64) (hy : cy = y0 ∨ cy = y0 + 64) (h : nearT cx cy px py qx qy = true) : TouP px py qx qy x0 y0 := by
  unfold nearT at h
  simp only [Bool.and_eq_true] at h
  obtain ⟨-, -, h⟩ := h
  split at h
  · have h := of_decide_eq_true h
    have a1 := sqz_nn (cx - px)
    have a2 := sqz_nn (cy - py)
    have b1 := sqz_le (a := cx - px) (b := 20) (by omega) (by omega)
    have b2 := sqz_le (a := cy - py) (b := 20) (by omega) (by omega)
    exact ⟨0, 1, by omega, by omega, by omega, by omega⟩
  · split at h
    · have h := of_decide_eq_true h
      have a1 := sqz_nn (cx - qx)
      have a2 := sqz_nn (cy - qy)
      have b1 := sqz_le (a := cx - qx) (b := 20) (by omega) (by omega)
      have b2 := sqz_le (a := cy - qy) (b := 20) (by omega) (by omega)
      exact ⟨1, 1, by omega, by omega, by omega, by omega⟩
    · rename_i k1 k2
      have h := of_decide_eq_true h
      have g := near_geo h
      generalize hL : (qx - px) * (qx - px) + (qy - py) * (qy - py) = L at *
      generalize hA : (qx - px) * (cx - px) + (qy - py) * (cy - py) = A at *
      refine ⟨A, L, by omega, by omega, ?_, ?_⟩
      · have e : L * (cx - px) = L * cx - L * px := by grind
        have f1 : L * (cx - 20) = L * cx - 20 * L := by grind
        have f2 : L * (cx + 20) = L * cx + 20 * L := by grind
        have m1 := Int.mul_le_mul_of_nonneg_left (show x0 - 20 ≤ cx - 20 by omega) (show 0 ≤ L by omega)
        have m2 := Int.mul_le_mul_of_nonneg_left (show cx + 20 ≤ x0 + 84 by omega) (show 0 ≤ L by omega)
        omega
      · have e : L * (cy - py) = L * cy - L * py := by grind
        have f1 : L * (cy - 20) = L * cy - 20 * L := by grind
        have f2 : L * (cy + 20) = L * cy + 20 * L := by grind
        have m1 := Int.mul_le_mul_of_nonneg_left (show y0 - 20 ≤ cy - 20 by omega) (show 0 ≤ L by omega)
        have m2 := Int.mul_le_mul_of_nonneg_left (show cy + 20 ≤ y0 + 84 by omega) (show 0 ≤ L by omega)
        omega
theorem touch_geo {px py qx qy x0 y0 : Int} (h : touchB px py qx qy x0 y0 (x0 + 64) (y0 + 64) = true) : TouP px py qx qy x0 y0 := by
  unfold touchB at h
  simp only [Bool.and_eq_true, Bool.or_eq_true] at h
  obtain ⟨hok, h⟩ := h
  unfold tokB at hok
  simp only [Bool.and_eq_true] at hok
  obtain ⟨v1, v2, v3, -⟩ := hok
  rcases h with h | h | h | h
  · unfold inB4 at h
    simp only [Bool.and_eq_true, decide_eq_true_eq] at h
    exact ⟨0, 1, by omega, by omega, by omega, by omega⟩
  · have := gap_le v1 v3 (of_decide_eq_true h)
    exact ⟨0, 1, by omega, by omega, by omega, by omega⟩
  · have := gap_le v2 v3 (of_decide_eq_true h)
    exact ⟨1, 1, by omega, by omega, by omega, by omega⟩
  · obtain ⟨j, hj, h⟩ := List.any_eq_true.1 h
    have hj := List.mem_range.1 hj
    unfold tcN at h
    rw [Bool.or_eq_true] at h
    match j, hj, h with
    | 0, _, h => exact h.elim (hside (w := 1) (.inl ⟨rfl, rfl⟩) (.inl rfl)) (corner_t (.inl rfl) (.inl rfl))
    | 1, _, h => exact h.elim (vside (.inl ⟨rfl, rfl⟩) (.inr rfl)) (corner_t (.inr rfl) (.inl rfl))
    | 2, _, h => exact h.elim (hside (w := 1) (.inr ⟨rfl, rfl⟩) (.inr rfl)) (corner_t (.inr rfl) (.inr rfl))
    | 3, _, h => exact h.elim (vside (.inr ⟨rfl, rfl⟩) (.inl rfl)) (corner_t (.inl rfl) (.inr rfl))
open Go.RowKit
set_option maxHeartbeats 800000
theorem absI_Z (x : Int) : absI x = absZ x := rfl
theorem absI_mul {a k : Int} (hk : 0 ≤ k) : absI (a * k) = absI a * k := by
  have h1 := mul_absZ (a := a) (b := k) (k := k) (by omega)
  unfold absI
  rcases Int.lt_or_le a 0 with h | h
  · have h2 := Int.mul_le_mul_of_nonneg_right (show a ≤ 0 by omega) hk
    rw [if_pos h]
    have e : -a * k = -(a * k) := by grind
    rw [e]; split <;> omega
  · have h2 := Int.mul_nonneg h hk
    rw [if_neg (by omega), if_neg (by omega)]
theorem spr_rec (n : Pt) {g k : Int} (hg : 0 ≤ g) (hk : 0 ≤ k) : spr n [(g, 0), (0, k)] = absI n.1 * g + absI n.2 * k := by
  simp only [spr, dotP, Int.mul_zero, Int.add_zero, Int.zero_add]
  rw [absI_mul hg, absI_mul hk]
def wwX (h f le : Int) : Int := if f = 0 then 0 else wayX h (f + le)
def wwY (h f le : Int) : Int := if f = 0 then 0 else wayY h (f + le)
theorem spr_sw (n : Pt) {x0 y0 x1 y1 h f le sl : Int} (hx : x0 ≤ x1) (hy : y0 ≤ y1) (hs : 0 ≤ sl) : spr n (sweL x0 y0 x1 y1 h f le sl) = absI n.1 * (x1 - x0 + 2 * hlf f sl) + absI n.2 * (y1 - y0 + 2 * hlf f sl) + absI (n.1 * wwX h f le + n.2 * wwY h f le) := by
  unfold sweL
  have hh : 0 ≤ hlf f sl := by unfold hlf; split <;> omega
  rw [spr_canon, spr_app, spr_app]
  unfold recL sqrL
  rw [spr_rec n (by omega) (by omega), spr_rec n (by omega) (by omega)]
  have e : spr n (wayL h f le) = absI (n.1 * wwX h f le + n.2 * wwY h f le) := by
    unfold wayL wwX wwY
    split
    · simp [spr, absI]
    · simp [spr, dotP]
  rw [e]
  have e1 : hlf f sl - (0 - hlf f sl) = 2 * hlf f sl := by omega
  rw [e1]; grind
/-- The robot's way (f: its steps; n', e: what came of them). -/
def WayP (h f le sl dx dy : Int) : Prop := (f = 0 ∧ dx = 0 ∧ dy = 0) ∨ (0 < f ∧ ∃ n' ex ey : Int, (0 ≤ n' ∧ n' ≤ f + le) ∧ (-sl ≤ ex ∧ ex ≤ sl) ∧ (-sl ≤ ey ∧ ey ≤ sl) ∧ dx = wayX h n' + ex ∧ dy = wayY h n' + ey)
theorem not_apart {x0 y0 x1 y1 h f le sl px py dx dy cx cy : Int} (hx : x0 ≤ px ∧ px ≤ x1) (hy : y0 ≤ py ∧ py ≤ y1) (hl : 0 ≤ le) (hs : 0 ≤ sl) (hw : WayP h f le sl dx dy) (ht : TouP px py (px + dx) (py + dy) (cx * 64) (cy * 64)) (n : Pt) :
    absI (n.1 * (2 * (cx * 64) + 64 - sweX x0 x1 h f le) + n.2 * (2 * (cy * 64) + 64 - sweY y0 y1 h f le)) ≤ spr n (sweL x0 y0 x1 y1 h f le sl) + (absI n.1 * 64 + absI n.2 * 64) := by
  rw [spr_sw n (by omega) (by omega) hs]
  obtain ⟨A, T, hT, hA, hX, hY⟩ := ht
  have ex1 : px + dx - px = dx := by omega
  have ey1 : py + dy - py = dy := by omega
  rw [ex1] at hX
  rw [ey1] at hY
  have esx : sweX x0 x1 h f le = x0 + x1 + wwX h f le := rfl
  have esy : sweY y0 y1 h f le = y0 + y1 + wwY h f le := rfl
  rcases hw with ⟨rfl, rfl, rfl⟩ | ⟨hf, n', ex, ey, hn, hex, hey, rfl, rfl⟩
  · have w1 : wwX h 0 le = 0 := rfl
    have w2 : wwY h 0 le = 0 := rfl
    have hh : hlf 0 sl = 20 := rfl
    rw [esx, esy, w1, w2, hh]
    simp only [Int.mul_zero, Int.add_zero] at hX hY ⊢
    have c := core_geo (n1 := n.1) (n2 := n.2) (U := T) (d1 := 2 * (cx * 64) + 64 - (x0 + x1)) (d2 := 2 * (cy * 64) + 64 - (y0 + y1)) (σ := 0) (w1 := 0) (w2 := 0) (K1 := x1 - x0 + 104) (K2 := y1 - y0 + 104) (r1 := T * (2 * (cx * 64) + 64 - (x0 + x1))) (r2 := T * (2 * (cy * 64) + 64 - (y0 + y1))) hT (by rw [Int.zero_mul, Int.add_zero]) (by rw [Int.zero_mul, Int.add_zero]) (by
        have a1 := Int.mul_le_mul_of_nonneg_left hx.1 (show 0 ≤ T by omega)
        have a2 := Int.mul_le_mul_of_nonneg_left hx.2 (show 0 ≤ T by omega)
        have e1 : T * (2 * (cx * 64) + 64 - (x0 + x1)) = 2 * (T * (cx * 64)) + 64 * T - T * x0 - T * x1 := by grind
        have e2 : T * (x1 - x0 + 104) = T * x1 - T * x0 + 104 * T := by grind
        have e3 : T * (cx * 64 - 20) = T * (cx * 64) - 20 * T := by grind
        have e4 : T * (cx * 64 + 84) = T * (cx * 64) + 84 * T := by grind
        omega) (by
        have a1 := Int.mul_le_mul_of_nonneg_left hy.1 (show 0 ≤ T by omega)
        have a2 := Int.mul_le_mul_of_nonneg_left hy.2 (show 0 ≤ T by omega)
        have e1 : T * (2 * (cy * 64) + 64 - (y0 + y1)) = 2 * (T * (cy * 64)) + 64 * T - T * y0 - T * y1 := by grind
        have e2 : T * (y1 - y0 + 104) = T * y1 - T * y0 + 104 * T := by grind
        have e3 : T * (cy * 64 - 20) = T * (cy * 64) - 20 * T := by grind
        have e4 : T * (cy * 64 + 84) = T * (cy * 64) + 84 * T := by grind
        omega) (by omega)
    have k1 : absI n.1 * (x1 - x0 + 104) = absI n.1 * (x1 - x0 + 2 * 20) + absI n.1 * 64 := by grind
    have k2 : absI n.2 * (y1 - y0 + 104) = absI n.2 * (y1 - y0 + 2 * 20) + absI n.2 * 64 := by grind
    have z : absZ (n.1 * 0 + n.2 * 0) = 0 := by simp [absZ]
    have z2 : absI 0 = 0 := rfl
    rw [z] at c
    rw [z2]
    simp only [← absI_Z] at c
    omega
  · have hf0 : ¬ f = 0 := by omega
    have w1 : wwX h f le = wayX h (f + le) := if_neg hf0
    have w2 : wwY h f le = wayY h (f + le) := if_neg hf0
    have hh : hlf f sl = sl + 21 := if_neg hf0
    rw [esx, esy, w1, w2, hh]
    have hD : 0 < (dirV h).2.2 := (vecOK_iff.1 (dirV_ok h)).1.1
    have fx := flo_geo (v := (dirV h).1) hD hn
    have fy := flo_geo (v := (dirV h).2.1) hD hn
    obtain ⟨r1, q1, q2⟩ := coord_geo (c := cx * 64) (w := wayX h (f + le)) (w' := wayX h n') hT hA hn hX hx rfl hex fx
    obtain ⟨r2, p1, p2⟩ := coord_geo (c := cy * 64) (w := wayY h (f + le)) (w' := wayY h n') hT hA hn hY hy rfl hey fy
    have hU : 0 < T * (f + le) := Int.mul_pos hT (by omega)
    have hs2 : -(T * (f + le)) ≤ 2 * A * n' - T * (f + le) ∧ 2 * A * n' - T * (f + le) ≤ T * (f + le) := by
      have a1 := Int.mul_nonneg hA.1 hn.1
      have a2 : A * n' ≤ T * (f + le) := Int.mul_le_mul hA.2 hn.2 hn.1 (by omega)
      have e : 2 * A * n' = 2 * (A * n') := by grind
      omega
    have c := core_geo (n1 := n.1) (n2 := n.2) hU q1 p1 q2 p2 hs2
    have k1 : absI n.1 * (x1 - x0 + 2 * sl + 2 + 104) = absI n.1 * (x1 - x0 + 2 * (sl + 21)) + absI n.1 * 64 := by grind
    have k2 : absI n.2 * (y1 - y0 + 2 * sl + 2 + 104) = absI n.2 * (y1 - y0 + 2 * (sl + 21)) + absI n.2 * 64 := by grind
    simp only [← absI_Z] at c
    omega
theorem ww_bd (h : Int) {f le : Int} (hf : 0 ≤ f ∧ f ≤ 32) (hl : 0 ≤ le ∧ le ≤ 16) : (-48 ≤ wwX h f le ∧ wwX h f le ≤ 48) ∧ -48 ≤ wwY h f le ∧ wwY h f le ≤ 48 := by
  have := way_bd h (m := f + le) (by omega)
  unfold wwX wwY; split <;> omega
theorem dbl64 (c X : Int) : c * 64 + (c + 1) * 64 - X = 2 * (c * 64) + 64 - X := by omega
theorem gen64 (c : Int) : (c + 1) * 64 - c * 64 = 64 := by omega
theorem cel_mem {a b c : Int} (h1 : a ≤ c * 64 + 64) (h2 : c * 64 ≤ b) (hab : a ≤ b) : spl a ≤ c ∧ c < spl a + (celN a b : Int) := by unfold celN spl sph; omega
/-- A cell that is touched on the way is among the cells that the sweep touches, and there is no error. -/
theorem cell_in {x0 y0 x1 y1 h t f tu le sl ra px py dx dy cx cy : Int} (he : sweE x0 y0 x1 y1 h t f tu le sl ra = 0) (hX : -600000 ≤ x0 ∧ x1 ≤ 600000 ∧ x1 - x0 ≤ 64) (hY : -600000 ≤ y0 ∧ y1 ≤ 600000 ∧ y1 - y0 ≤ 64) :
    stE x0 y0 x1 y1 h t f tu le sl ra = 0 ∧ ((x0 ≤ px ∧ px ≤ x1) → (y0 ≤ py ∧ py ≤ y1) → WayP h f le sl dx dy → TouP px py (px + dx) (py + dy) (cx * 64) (cy * 64) → (cx, cy) ∈ stL x0 y0 x1 y1 h t f tu le sl ra) := by
  have hB : sweB x0 y0 x1 y1 t f tu le sl ra = true := by
    unfold sweE at he; split at he
    · assumption
    · omega
  have bd := swe_bd hB
  have eX : swX x0 y0 x1 y1 h t f tu le sl ra = sweX x0 x1 h f le := if_pos he
  have eY : swY x0 y0 x1 y1 h t f tu le sl ra = sweY y0 y1 h f le := if_pos he
  have eL : swL x0 y0 x1 y1 h t f tu le sl ra = sweL x0 y0 x1 y1 h f le sl := if_pos he
  have hw := ww_bd h (f := f) (le := le) (by omega) (by omega)
  have hhl : 20 ≤ hlf f sl ∧ hlf f sl ≤ 29 := by unfold hlf; split <;> omega
  have s1 := spr_sw (1, 0) (h := h) (f := f) (le := le) (sl := sl) (show x0 ≤ x1 by omega) (show y0 ≤ y1 by omega) (by omega)
  have s2 := spr_sw (0, 1) (h := h) (f := f) (le := le) (sl := sl) (show x0 ≤ x1 by omega) (show y0 ≤ y1 by omega) (by omega)
  simp only [show absI 1 = 1 from rfl, show absI 0 = 0 from rfl, Int.one_mul, Int.zero_mul, Int.add_zero, Int.zero_add] at s1 s2
  have b1 := absI_bd (x := wwX h f le) (M := 48) hw.1
  have b2 := absI_bd (x := wwY h f le) (M := 48) hw.2
  have esx : sweX x0 x1 h f le = x0 + x1 + wwX h f le := rfl
  have esy : sweY y0 y1 h f le = y0 + y1 + wwY h f le := rfl
  have hv : validB (sweX x0 x1 h f le) (sweY y0 y1 h f le) (sweL x0 y0 x1 y1 h f le sl) = true := by
    unfold sweL at s1 s2 ⊢
    rw [spr_canon] at s1 s2
    refine canon_valid (by omega) (by omega) ?_ (by omega) (by omega)
    unfold recL wayL sqrL
    split <;> simp
  generalize hS1 : spr (1, 0) (sweL x0 y0 x1 y1 h f le sl) = S1 at *
  generalize hS2 : spr (0, 1) (sweL x0 y0 x1 y1 h f le sl) = S2 at *
  have hab1 : (sweX x0 x1 h f le - S1) / 2 ≤ 0 - (0 - (sweX x0 x1 h f le + S1)) / 2 := by omega
  have hab2 : (sweY y0 y1 h f le - S2) / 2 ≤ 0 - (0 - (sweY y0 y1 h f le + S2)) / 2 := by omega
  have hle0 : 0 ≤ le ∧ 0 ≤ sl := by omega
  have hq : touF (sweX x0 x1 h f le) (sweY y0 y1 h f le) (sweL x0 y0 x1 y1 h f le sl) = 0 := by
    unfold touF
    rw [ifv_t hv, ifv_t hv, ifv_t hv, ifv_t hv, hS1, hS2]
    unfold cellsE
    have hr : rctB ((sweX x0 x1 h f le - S1) / 2) ((sweY y0 y1 h f le - S2) / 2) (0 - (0 - (sweX x0 x1 h f le + S1)) / 2) (0 - (0 - (sweY y0 y1 h f le + S2)) / 2) = true := rctB_iff.2 (by omega)
    rw [if_pos hr, if_neg]
    have m := mul_bd (a := sph (0 - (0 - (sweX x0 x1 h f le + S1)) / 2) - spl ((sweX x0 x1 h f le - S1) / 2) + 1) (b := sph (0 - (0 - (sweY y0 y1 h f le + S2)) / 2) - spl ((sweY y0 y1 h f le - S2) / 2) + 1) (A := 20) (B := 20) (by unfold sph spl; omega) (by unfold sph spl; omega)
    omega
  have hE : stE x0 y0 x1 y1 h t f tu le sl ra = 0 := by
    unfold stE touE
    rw [eX, eY, eL, if_pos hv]; exact hq
  have hq' : Unit → touF (sweX x0 x1 h f le) (sweY y0 y1 h f le) (sweL x0 y0 x1 y1 h f le sl) = 0 := fun _ => hq
  have hE' : Unit → stE x0 y0 x1 y1 h t f tu le sl ra = 0 := fun _ => hE
  clear hq hE
  refine ⟨hE' (), fun hpx hpy hwy ht => ?_⟩
  have hna := not_apart hpx hpy hle0.1 hle0.2 hwy ht
  have n1 := hna (1, 0)
  have n2 := hna (0, 1)
  simp only [show absI 1 = 1 from rfl, show absI 0 = 0 from rfl, Int.one_mul, Int.zero_mul, Int.add_zero, Int.zero_add, hS1, hS2] at n1 n2
  rw [absI_le] at n1 n2
  have m1 : spl ((sweX x0 x1 h f le - S1) / 2) ≤ cx ∧ cx < spl ((sweX x0 x1 h f le - S1) / 2) + (celN ((sweX x0 x1 h f le - S1) / 2) (0 - (0 - (sweX x0 x1 h f le + S1)) / 2) : Int) := cel_mem (by clear hna n2 hwy ht he eX eY eL s1 s2; omega) (by clear hna n2 hwy ht he eX eY eL s1 s2; omega) hab1
  have m2 : spl ((sweY y0 y1 h f le - S2) / 2) ≤ cy ∧ cy < spl ((sweY y0 y1 h f le - S2) / 2) + (celN ((sweY y0 y1 h f le - S2) / 2) (0 - (0 - (sweY y0 y1 h f le + S2)) / 2) : Int) := cel_mem (by clear hna n1 hwy ht he eX eY eL s1 s2; omega) (by clear hna n1 hwy ht he eX eY eL s1 s2; omega) hab2
  have hL : stL x0 y0 x1 y1 h t f tu le sl ra = delL (apP (sweX x0 x1 h f le) (sweY y0 y1 h f le) (sweL x0 y0 x1 y1 h f le sl)) (touQ (sweX x0 x1 h f le) (sweY y0 y1 h f le) (sweL x0 y0 x1 y1 h f le sl)) := by
    have h1 : stL x0 y0 x1 y1 h t f tu le sl ra = delL (apP (swX x0 y0 x1 y1 h t f tu le sl ra) (swY x0 y0 x1 y1 h t f tu le sl ra) (swL x0 y0 x1 y1 h t f tu le sl ra)) (touC (swX x0 y0 x1 y1 h t f tu le sl ra) (swY x0 y0 x1 y1 h t f tu le sl ra) (swL x0 y0 x1 y1 h t f tu le sl ra)) := if_pos (hE' ())
    rw [h1, eX, eY, eL]
    unfold touC; rw [if_pos hv]
  rw [hL]
  unfold delL
  rw [List.mem_filter]
  constructor
  · have hG : touQ (sweX x0 x1 h f le) (sweY y0 y1 h f le) (sweL x0 y0 x1 y1 h f le sl) = cellsG ((sweX x0 x1 h f le - S1) / 2) ((sweY y0 y1 h f le - S2) / 2) (0 - (0 - (sweX x0 x1 h f le + S1)) / 2) (0 - (0 - (sweY y0 y1 h f le + S2)) / 2) := by
      have hq := hq' ()
      unfold touQ cellsR mkL
      unfold touF at hq
      rw [ifv_t hv, ifv_t hv, ifv_t hv, ifv_t hv, hS1, hS2] at hq ⊢
      exact if_pos hq
    rw [hG]
    unfold cellsG
    rw [gridR_mem]
    simp only
    exact ⟨m1, m2, rfl⟩
  · have hap : apP (sweX x0 x1 h f le) (sweY y0 y1 h f le) (sweL x0 y0 x1 y1 h f le sl) (cx, cy) = false := by
      unfold apP apartB
      simp only
      have e : (nrmls (canonL (sweL x0 y0 x1 y1 h f le sl ++ [((cx + 1) * 64 - cx * 64, 0), (0, (cy + 1) * 64 - cy * 64)]))).any (beyond (canonL (sweL x0 y0 x1 y1 h f le sl ++ [((cx + 1) * 64 - cx * 64, 0), (0, (cy + 1) * 64 - cy * 64)])) (cx * 64 + (cx + 1) * 64 - sweX x0 x1 h f le, cy * 64 + (cy + 1) * 64 - sweY y0 y1 h f le)) = false := by
        refine List.any_eq_false.2 fun n _ => ?_
        unfold beyond
        rw [decide_eq_false]
        · decide
        · rw [gen64, gen64, spr_canon, spr_app, spr_rec n (by decide) (by decide)]
          have k := hna n
          unfold dotP
          simp only
          rw [dbl64, dbl64]
          exact Int.not_lt.2 k
      rw [e]; simp
    rw [hap]; rfl
open Go.RowKit
set_option maxHeartbeats 4000000
set_option maxRecDepth 100000
theorem clg_r (n lo hi : Int) : (if lo < (if hi < n then hi else n) then (if hi < n then hi else n) else lo) = clgI n lo hi := rfl
theorem bclipg_c (H : AHeap) (n lo hi : Int) : ACalls Tryz.prog 101 [.int .i64 n, .int .i64 lo, .int .i64 hi] H (fun v H' => v = .int .i64 (clgI n lo hi) ∧ H' = H) := by
  have hcl := clg_r n lo hi
  refine AcT true Tryz.func101 ?_; intro hbel Q hQ
  have g'1 := @hcl
  refine runTf g'1 ?_
  exact hQ _ _ (end_plain0 (.inl rfl) hbel (x := .int .i64 (clgI n lo hi)) (resT Tryz.results101) rfl ⟨rfl, rfl⟩)
theorem bsize2_c (H : AHeap) (x : Int) (m : Int) (h : 0 ≤ m ∧ m ≤ 4611686018427387904) : ACalls Tryz.prog 25 [.int .i64 x, .int .i64 m] H (fun v H' => v = .bool (within x m) ∧ H' = H) := by
  refine AcT true Tryz.func25 ?_; intro hbel Q hQ
  refine runT ?_
  refine gd_split (fun h1 => ?_) (fun h1 => ?_)
  · have h1d := bsT h1
    have g'2 := (jn @h1 @h1d)
    refine runTf g'2 ?_
    exact hQ _ _ (end_plain0 (.inl rfl) hbel (x := .bool (decide (x ≤ m))) (resT Tryz.results25) rfl ⟨by first | (simp [within, h1d]; done) | (simp [within, h1d]; omega), rfl⟩)
  · have h1d := bsT h1
    have g'3 := (jn @h1 @h1d)
    refine runTf g'3 ?_
    exact hQ _ _ (end_plain0 (.inl rfl) hbel (x := .bool false) (resT Tryz.results25) rfl ⟨by first | (simp [within, h1d]; done) | (simp [within, h1d]; omega), rfl⟩)
theorem r5pt_c (H : AHeap) (x : Int) (y : Int) : ACalls Tryz.prog 87 [.agg [.int .i64 x, .int .i64 y]] H (fun v H' => v = .bool (lnP x y) ∧ H' = H) := by
  refine AcT true Tryz.func87 ?_; intro hbel Q hQ
  refine runT ?_
  refine call_v (by kernel_rfl) (bsize_c _ _ _ (by decide)) ?_
  refine runT ?_
  refine gd_split (fun h1 => ?_) (fun h1 => ?_)
  · have h1d := bsT h1
    have g'4 := (jn @h1 @h1d)
    refine runTf g'4 ?_
    refine call_v (by kernel_rfl) (bsize_c _ _ _ (by decide)) ?_
    refine runTf g'4 ?_
    exact hQ _ _ (end_plain (.inl rfl) hbel (x := .bool (within y 2097152)) (resT Tryz.results87) rfl ⟨by simp [lnP, h1d], rfl⟩)
  · have h1d := bsT h1
    have g'5 := (jn @h1 @h1d)
    refine runTf g'5 ?_
    exact hQ _ _ (end_plain (.inl rfl) hbel (x := .bool false) (resT Tryz.results87) rfl ⟨by simp [lnP, h1d], rfl⟩)
theorem r5rc_c (H : AHeap) (x0 : Int) (y0 : Int) (x1 : Int) (y1 : Int) : ACalls Tryz.prog 88 [.agg [.int .i64 x0, .int .i64 y0, .int .i64 x1, .int .i64 y1]] H (fun v H' => v = .bool (lnR x0 y0 x1 y1) ∧ H' = H) := by
  refine AcT true Tryz.func88 ?_; intro hbel Q hQ
  refine runT ?_
  refine gd_split (fun h1 => ?_) (fun h1 => ?_)
  · have h1d := bsT h1
    have g'6 := (jn @h1 @h1d)
    refine runTf g'6 ?_
    refine gd_split (fun h2 => ?_) (fun h2 => ?_)
    · have h2d := bsT h2
      have g'7 := (jn @h2 (jn @h2d g'6))
      refine runTf g'7 ?_
      refine gd_split (fun h3 => ?_) (fun h3 => ?_)
      · have h3d := bsT h3
        have g'8 := (jn @h3 (jn @h3d g'7))
        refine runTf g'8 ?_
        refine gd_split (fun h4 => ?_) (fun h4 => ?_)
        · have h4d := bsT h4
          have g'9 := (jn @h4 (jn @h4d g'8))
          refine runTf g'9 ?_
          refine gd_split (fun h5 => ?_) (fun h5 => ?_)
          · have h5d := bsT h5
            have g'10 := (jn @h5 (jn @h5d g'9))
            refine runTf g'10 ?_
            exact hQ _ _ (end_plain (.inl rfl) hbel (x := .bool (decide (y1 ≤ 2097152))) (resT Tryz.results88) rfl ⟨by simp [lnR, h1d, h2d, h3d, h4d, h5d], rfl⟩)
          · have h5d := bsT h5
            have g'11 := (jn @h5 (jn @h5d g'9))
            refine runTf g'11 ?_
            exact hQ _ _ (end_plain (.inl rfl) hbel (x := .bool false) (resT Tryz.results88) rfl ⟨by simp [lnR, h1d, h2d, h3d, h4d, h5d], rfl⟩)
        · have h4d := bsT h4
          have g'12 := (jn @h4 (jn @h4d g'8))
          refine runTf g'12 ?_
          exact hQ _ _ (end_plain (.inl rfl) hbel (x := .bool false) (resT Tryz.results88) rfl ⟨by simp [lnR, h1d, h2d, h3d, h4d], rfl⟩)
      · have h3d := bsT h3
        have g'13 := (jn @h3 (jn @h3d g'7))
        refine runTf g'13 ?_
        exact hQ _ _ (end_plain (.inl rfl) hbel (x := .bool false) (resT Tryz.results88) rfl ⟨by simp [lnR, h1d, h2d, h3d], rfl⟩)
    · have h2d := bsT h2
      have g'14 := (jn @h2 (jn @h2d g'6))
      refine runTf g'14 ?_
      exact hQ _ _ (end_plain (.inl rfl) hbel (x := .bool false) (resT Tryz.results88) rfl ⟨by simp [lnR, h1d, h2d], rfl⟩)
  · have h1d := bsT h1
    have g'15 := (jn @h1 @h1d)
    refine runTf g'15 ?_
    exact hQ _ _ (end_plain (.inl rfl) hbel (x := .bool false) (resT Tryz.results88) rfl ⟨by simp [lnR, h1d], rfl⟩)
theorem r5in_c (H : AHeap) (px : Int) (py : Int) (x0 : Int) (y0 : Int) (x1 : Int) (y1 : Int) : ACalls Tryz.prog 89 [.agg [.int .i64 px, .int .i64 py], .agg [.int .i64 x0, .int .i64 y0, .int .i64 x1, .int .i64 y1]] H (fun v H' => v = .bool (inB4 px py x0 y0 x1 y1) ∧ H' = H) := by
  refine AcT true Tryz.func89 ?_; intro hbel Q hQ
  refine runT ?_
  refine gd_split (fun h1 => ?_) (fun h1 => ?_)
  · have h1d := bsT h1
    have g'16 := (jn @h1 @h1d)
    refine runTf g'16 ?_
    refine gd_split (fun h2 => ?_) (fun h2 => ?_)
    · have h2d := bsT h2
      have g'17 := (jn @h2 (jn @h2d g'16))
      refine runTf g'17 ?_
      refine gd_split (fun h3 => ?_) (fun h3 => ?_)
      · have h3d := bsT h3
        have g'18 := (jn @h3 (jn @h3d g'17))
        refine runTf g'18 ?_
        exact hQ _ _ (end_plain (.inl rfl) hbel (x := .bool (decide (py ≤ y1))) (resT Tryz.results89) rfl ⟨by simp [inB4, h1d, h2d, h3d], rfl⟩)
      · have h3d := bsT h3
        have g'19 := (jn @h3 (jn @h3d g'17))
        refine runTf g'19 ?_
        exact hQ _ _ (end_plain (.inl rfl) hbel (x := .bool false) (resT Tryz.results89) rfl ⟨by simp [inB4, h1d, h2d, h3d], rfl⟩)
    · have h2d := bsT h2
      have g'20 := (jn @h2 (jn @h2d g'16))
      refine runTf g'20 ?_
      exact hQ _ _ (end_plain (.inl rfl) hbel (x := .bool false) (resT Tryz.results89) rfl ⟨by simp [inB4, h1d, h2d], rfl⟩)
  · have h1d := bsT h1
    have g'21 := (jn @h1 @h1d)
    refine runTf g'21 ?_
    exact hQ _ _ (end_plain (.inl rfl) hbel (x := .bool false) (resT Tryz.results89) rfl ⟨by simp [inB4, h1d], rfl⟩)
theorem r5off_c (H : AHeap) (x : Int) (lo : Int) (hi : Int) (kx : -4194304 ≤ x ∧ x ≤ 4194304) (klo : -4194304 ≤ lo ∧ lo ≤ 4194304) (khi : -4194304 ≤ hi ∧ hi ≤ 4194304) : ACalls Tryz.prog 146 [.int .i64 x, .int .i64 lo, .int .i64 hi] H (fun v H' => v = .int .i64 (offI x lo hi) ∧ H' = H) := by
  refine AcT true Tryz.func146 ?_; intro hbel Q hQ
  refine runT ?_
  exact hQ _ _ (end_plain0 (.inl rfl) hbel (x := .int .i64 (if (if (lo - x) < (x - hi) then (x - hi) else (lo - x)) < 0 then 0 else (if (lo - x) < (x - hi) then (x - hi) else (lo - x)))) (resT Tryz.results146) rfl ⟨rfl, rfl⟩)
theorem r5gap_c (H : AHeap) (px : Int) (py : Int) (x0 : Int) (y0 : Int) (x1 : Int) (y1 : Int) : ACalls Tryz.prog 90 [.agg [.int .i64 px, .int .i64 py], .agg [.int .i64 x0, .int .i64 y0, .int .i64 x1, .int .i64 y1]] H (fun v H' => v = .int .i64 (gapI px py x0 y0 x1 y1) ∧ H' = H) := by
  refine AcT true Tryz.func90 ?_; intro hbel Q hQ
  refine runT ?_
  refine call_v (by kernel_rfl) (r5pt_c _ px py) ?_
  refine runT ?_
  refine gd_split (fun h1 => ?_) (fun h1 => ?_)
  · have h1d := bsT h1
    have hvp := lnP_iff.1 h1d
    have g'22 := (jn @h1 @h1d)
    refine runTf g'22 ?_
    refine call_v (by kernel_rfl) (r5rc_c _ x0 y0 x1 y1) ?_
    refine runTf g'22 ?_
    refine cond_split (fun h2 => ?_) (fun h2 => ?_)
    · have h2d := bsT h2
      have g'23 := (jn @h2 (jn @h2d g'22))
      refine runTf g'23 ?_
      exact hQ _ _ (end_plain (.inl rfl) hbel (x := .int .i64 0) (resT Tryz.results90) rfl ⟨by simp [gapI, h1d, h2d], rfl⟩)
    · have h2d := bsT h2
      have hvr := lnR_iff.1 h2d
      have ho1 : 0 ≤ offI px x0 x1 ∧ offI px x0 x1 ≤ 4194304 := ⟨off_nn _ _ _, by unfold offI; split <;> split <;> omega⟩
      have ho2 : 0 ≤ offI py y0 y1 ∧ offI py y0 y1 ≤ 4194304 := ⟨off_nn _ _ _, by unfold offI; split <;> split <;> omega⟩
      have hm1 := mul_bd (a := offI px x0 x1) (b := offI px x0 x1) (A := 4194304) (B := 4194304) (by omega) (by omega)
      have hm2 := mul_bd (a := offI py y0 y1) (b := offI py y0 y1) (A := 4194304) (B := 4194304) (by omega) (by omega)
      have g'24 := (jn @h2 (jn @h2d g'22))
      refine runTf g'24 ?_
      refine call_v (by kernel_rfl) (r5off_c _ px x0 x1 (by omega) (by omega) (by omega)) ?_
      refine runTf g'24 ?_
      refine call_v (by kernel_rfl) (r5off_c _ py y0 y1 (by omega) (by omega) (by omega)) ?_
      refine runTf g'24 ?_
      exact hQ _ _ (end_plain (.inl rfl) hbel (x := .int .i64 (((offI px x0 x1) * (offI px x0 x1)) + ((offI py y0 y1) * (offI py y0 y1)))) (resT Tryz.results90) rfl ⟨by simp [gapI, h1d, h2d], rfl⟩)
  · have h1d := bsT h1
    have g'25 := (jn @h1 @h1d)
    refine runTf g'25 ?_
    exact hQ _ _ (end_plain (.inl rfl) hbel (x := .int .i64 0) (resT Tryz.results90) rfl ⟨by simp [gapI, h1d], rfl⟩)
theorem r5turn_c (H : AHeap) (px : Int) (py : Int) (qx : Int) (qy : Int) (rx : Int) (ry : Int) : ACalls Tryz.prog 147 [.agg [.int .i64 px, .int .i64 py], .agg [.int .i64 qx, .int .i64 qy], .agg [.int .i64 rx, .int .i64 ry]] H (fun v H' => v = .int .i64 (turnI px py qx qy rx ry) ∧ H' = H) := by
  refine AcT true Tryz.func147 ?_; intro hbel Q hQ
  refine runT ?_
  refine call_v (by kernel_rfl) (r5pt_c _ px py) ?_
  refine runT ?_
  refine gd_split (fun h1 => ?_) (fun h1 => ?_)
  · have h1d := bsT h1
    have hvp := lnP_iff.1 h1d
    have g'26 := (jn @h1 @h1d)
    refine runTf g'26 ?_
    refine call_v (by kernel_rfl) (r5pt_c _ qx qy) ?_
    refine runTf g'26 ?_
    refine gd_split (fun h2 => ?_) (fun h2 => ?_)
    · have h2d := bsT h2
      have hvq := lnP_iff.1 h2d
      have g'27 := (jn @h2 (jn @h2d g'26))
      refine runTf g'27 ?_
      refine call_v (by kernel_rfl) (r5pt_c _ rx ry) ?_
      refine runTf g'27 ?_
      refine cond_split (fun h3 => ?_) (fun h3 => ?_)
      · have h3d := bsT h3
        have g'28 := (jn @h3 (jn @h3d g'27))
        refine runTf g'28 ?_
        exact hQ _ _ (end_plain (.inl rfl) hbel (x := .int .i64 0) (resT Tryz.results147) rfl ⟨by simp [turnI, h1d, h2d, h3d], rfl⟩)
      · have h3d := bsT h3
        have hvr := lnP_iff.1 h3d
        have hm1 := mul_bd (a := qx - px) (b := ry - py) (A := 4194304) (B := 4194304) (by omega) (by omega)
        have hm2 := mul_bd (a := qy - py) (b := rx - px) (A := 4194304) (B := 4194304) (by omega) (by omega)
        have g'29 := (jn @h3 (jn @h3d g'27))
        refine runTf g'29 ?_
        refine call_v (by kernel_rfl) (bclipg_c _ (((qx - px) * (ry - py)) - ((qy - py) * (rx - px))) (-1) 1) ?_
        refine runTf g'29 ?_
        exact hQ _ _ (end_plain (.inl rfl) hbel (x := .int .i64 (clgI (((qx - px) * (ry - py)) - ((qy - py) * (rx - px))) (-1) 1)) (resT Tryz.results147) rfl ⟨by simp [turnI, h1d, h2d, h3d], rfl⟩)
    · have h2d := bsT h2
      have g'30 := (jn @h2 (jn @h2d g'26))
      refine runTf g'30 ?_
      exact hQ _ _ (end_plain (.inl rfl) hbel (x := .int .i64 0) (resT Tryz.results147) rfl ⟨by simp [turnI, h1d, h2d], rfl⟩)
  · have h1d := bsT h1
    have g'31 := (jn @h1 @h1d)
    refine runTf g'31 ?_
    exact hQ _ _ (end_plain (.inl rfl) hbel (x := .int .i64 0) (resT Tryz.results147) rfl ⟨by simp [turnI, h1d], rfl⟩)
theorem r5cross_c (H : AHeap) (px : Int) (py : Int) (qx : Int) (qy : Int) (ax : Int) (ay : Int) (bx : Int) (by_ : Int) : ACalls Tryz.prog 92 [.agg [.int .i64 px, .int .i64 py], .agg [.int .i64 qx, .int .i64 qy], .agg [.int .i64 ax, .int .i64 ay], .agg [.int .i64 bx, .int .i64 by_]] H (fun v H' => v = .bool (crossB px py qx qy ax ay bx by_) ∧ H' = H) := by
  have htb : ∀ a b c d e f : Int, -1 ≤ turnI a b c d e f ∧ turnI a b c d e f ≤ 1 := fun a b c d e f => by
    unfold turnI clgI
    repeat' split
    all_goals omega
  have ht1 := htb px py qx qy ax ay
  have ht2 := htb px py qx qy bx by_
  have ht3 := htb ax ay bx by_ px py
  have ht4 := htb ax ay bx by_ qx qy
  refine AcT true Tryz.func92 ?_; intro hbel Q hQ
  refine runT ?_
  refine call_v (by kernel_rfl) (r5pt_c _ px py) ?_
  refine runT ?_
  refine gd_split (fun h1 => ?_) (fun h1 => ?_)
  · have h1d := bsT h1
    have g'32 := (jn @h1 @h1d)
    refine runTf g'32 ?_
    refine call_v (by kernel_rfl) (r5pt_c _ qx qy) ?_
    refine runTf g'32 ?_
    refine gd_split (fun h2 => ?_) (fun h2 => ?_)
    · have h2d := bsT h2
      have g'33 := (jn @h2 (jn @h2d g'32))
      refine runTf g'33 ?_
      refine call_v (by kernel_rfl) (r5pt_c _ ax ay) ?_
      refine runTf g'33 ?_
      refine gd_split (fun h3 => ?_) (fun h3 => ?_)
      · have h3d := bsT h3
        have g'34 := (jn @h3 (jn @h3d g'33))
        refine runTf g'34 ?_
        refine call_v (by kernel_rfl) (r5pt_c _ bx by_) ?_
        refine runTf g'34 ?_
        refine cond_split (fun h4 => ?_) (fun h4 => ?_)
        · have h4d := bsT h4
          have g'35 := (jn @h4 (jn @h4d g'34))
          refine runTf g'35 ?_
          exact hQ _ _ (end_plain (.inl rfl) hbel (x := .bool false) (resT Tryz.results92) rfl ⟨by simp [crossB, h1d, h2d, h3d, h4d], rfl⟩)
        · have h4d := bsT h4
          have hm1 := mul_bd (a := turnI px py qx qy ax ay) (b := turnI px py qx qy bx by_) (A := 1) (B := 1) (by omega) (by omega)
          have hm2 := mul_bd (a := turnI ax ay bx by_ px py) (b := turnI ax ay bx by_ qx qy) (A := 1) (B := 1) (by omega) (by omega)
          have g'36 := (jn @h4 (jn @h4d g'34))
          refine runTf g'36 ?_
          refine gd_split (fun h5 => ?_) (fun h5 => ?_)
          · have h5d := bsT h5
            have g'37 := (jn @h5 (jn @h5d g'36))
            refine runTf g'37 ?_
            refine gd_split (fun h6 => ?_) (fun h6 => ?_)
            · have h6d := bsT h6
              have g'38 := (jn @h6 (jn @h6d g'37))
              refine runTf g'38 ?_
              refine gd_split (fun h7 => ?_) (fun h7 => ?_)
              · have h7d := bsT h7
                have g'39 := (jn @h7 (jn @h7d g'38))
                refine runTf g'39 ?_
                refine cond_split (fun h8 => ?_) (fun h8 => ?_)
                · have h8d := bsT h8
                  have g'40 := (jn @h8 (jn @h8d g'39))
                  refine runTf g'40 ?_
                  exact hQ _ _ (end_plain (.inl rfl) hbel (x := .bool false) (resT Tryz.results92) rfl ⟨by simp [crossB, h1d, h2d, h3d, h4d, h5d, h6d, h7d, h8d], rfl⟩)
                · have h8d := bsT h8
                  have g'41 := (jn @h8 (jn @h8d g'39))
                  refine runTf g'41 ?_
                  refine call_d (by kernel_rfl) (r5turn_c _ px py qx qy ax ay) ?_
                  refine runTf g'41 ?_
                  refine call_d (by kernel_rfl) (r5turn_c _ px py qx qy bx by_) ?_
                  refine runTf g'41 ?_
                  refine gd_split (fun h9 => ?_) (fun h9 => ?_)
                  · have h9d := bsT h9
                    have g'42 := (jn @h9 (jn @h9d g'41))
                    refine runTf g'42 ?_
                    refine call_d (by kernel_rfl) (r5turn_c _ ax ay bx by_ px py) ?_
                    refine runTf g'42 ?_
                    refine call_d (by kernel_rfl) (r5turn_c _ ax ay bx by_ qx qy) ?_
                    refine runTf g'42 ?_
                    exact hQ _ _ (end_plain (.inl rfl) hbel (x := .bool (decide (((turnI ax ay bx by_ px py) * (turnI ax ay bx by_ qx qy)) ≤ 0))) (resT Tryz.results92) rfl ⟨by simp [crossB, h1d, h2d, h3d, h4d, h5d, h6d, h7d, h8d, h9d], rfl⟩)
                  · have h9d := bsT h9
                    have g'43 := (jn @h9 (jn @h9d g'41))
                    refine runTf g'43 ?_
                    exact hQ _ _ (end_plain (.inl rfl) hbel (x := .bool false) (resT Tryz.results92) rfl ⟨by simp [crossB, h1d, h2d, h3d, h4d, h5d, h6d, h7d, h8d, h9d], rfl⟩)
              · have h7d := bsT h7
                have g'44 := (jn @h7 (jn @h7d g'38))
                refine runTf g'44 ?_
                exact hQ _ _ (end_plain (.inl rfl) hbel (x := .bool false) (resT Tryz.results92) rfl ⟨by simp [crossB, h1d, h2d, h3d, h4d, h5d, h6d, h7d], rfl⟩)
            · have h6d := bsT h6
              have g'45 := (jn @h6 (jn @h6d g'37))
              refine runTf g'45 ?_
              exact hQ _ _ (end_plain (.inl rfl) hbel (x := .bool false) (resT Tryz.results92) rfl ⟨by simp [crossB, h1d, h2d, h3d, h4d, h5d, h6d], rfl⟩)
          · have h5d := bsT h5
            have g'46 := (jn @h5 (jn @h5d g'36))
            refine runTf g'46 ?_
            exact hQ _ _ (end_plain (.inl rfl) hbel (x := .bool false) (resT Tryz.results92) rfl ⟨by simp [crossB, h1d, h2d, h3d, h4d, h5d], rfl⟩)
      · have h3d := bsT h3
        have g'47 := (jn @h3 (jn @h3d g'33))
        refine runTf g'47 ?_
        exact hQ _ _ (end_plain (.inl rfl) hbel (x := .bool false) (resT Tryz.results92) rfl ⟨by simp [crossB, h1d, h2d, h3d], rfl⟩)
    · have h2d := bsT h2
      have g'48 := (jn @h2 (jn @h2d g'32))
      refine runTf g'48 ?_
      exact hQ _ _ (end_plain (.inl rfl) hbel (x := .bool false) (resT Tryz.results92) rfl ⟨by simp [crossB, h1d, h2d], rfl⟩)
  · have h1d := bsT h1
    have g'49 := (jn @h1 @h1d)
    refine runTf g'49 ?_
    exact hQ _ _ (end_plain (.inl rfl) hbel (x := .bool false) (resT Tryz.results92) rfl ⟨by simp [crossB, h1d], rfl⟩)
theorem r5near_c (H : AHeap) (cx : Int) (cy : Int) (px : Int) (py : Int) (qx : Int) (qy : Int)  (hd : (-1024 ≤ px - qx ∧ px - qx ≤ 1024) ∧ (-1024 ≤ py - qy ∧ py - qy ≤ 1024) ∧ (-4194304 ≤ px ∧ px ≤ 4194304) ∧ (-4194304 ≤ py ∧ py ≤ 4194304) ∧ (-4194304 ≤ cx ∧ cx ≤ 4194304) ∧ (-4194304 ≤ cy ∧ cy ≤ 4194304)) : ACalls Tryz.prog 93 [.agg [.int .i64 cx, .int .i64 cy], .agg [.int .i64 px, .int .i64 py], .agg [.int .i64 qx, .int .i64 qy], .int .i64 20] H (fun v H' => v = .bool (nearT cx cy px py qx qy) ∧ H' = H) := by
  refine AcT true Tryz.func93 ?_; intro hbel Q hQ
  refine runT ?_
  refine call_v (by kernel_rfl) (bsize_c _ _ _ (by decide)) ?_
  refine runT ?_
  refine gd_split (fun h1 => ?_) (fun h1 => ?_)
  · have h1d := bsT h1
    have hw1 := within_iff.1 h1d
    have g'50 := (jn @h1 @h1d)
    refine runTf g'50 ?_
    refine call_v (by kernel_rfl) (bsize_c _ _ _ (by decide)) ?_
    refine runTf g'50 ?_
    refine cond_split (fun h2 => ?_) (fun h2 => ?_)
    · have h2d := bsT h2
      have g'51 := (jn @h2 (jn @h2d g'50))
      refine runTf g'51 ?_
      exact hQ _ _ (end_plain (.inl rfl) hbel (x := .bool false) (resT Tryz.results93) rfl ⟨by simp [nearT, h1d, h2d], rfl⟩)
    · have h2d := bsT h2
      have hw2 := within_iff.1 h2d
      have hm1 := mul_bd (a := qx - px) (b := cx - px) (A := 3000) (B := 3000) (by omega) (by omega)
      have hm2 := mul_bd (a := qy - py) (b := cy - py) (A := 3000) (B := 3000) (by omega) (by omega)
      have hm3 := mul_bd (a := qx - px) (b := qx - px) (A := 3000) (B := 3000) (by omega) (by omega)
      have hm4 := mul_bd (a := qy - py) (b := qy - py) (A := 3000) (B := 3000) (by omega) (by omega)
      have hm5 := mul_bd (a := cx - px) (b := cx - px) (A := 3000) (B := 3000) (by omega) (by omega)
      have hm6 := mul_bd (a := cy - py) (b := cy - py) (A := 3000) (B := 3000) (by omega) (by omega)
      have hm7 := mul_bd (a := cx - qx) (b := cx - qx) (A := 5000) (B := 5000) (by omega) (by omega)
      have hm8 := mul_bd (a := cy - qy) (b := cy - qy) (A := 5000) (B := 5000) (by omega) (by omega)
      have hm9 := mul_bd (a := qx - px) (b := cy - py) (A := 3000) (B := 3000) (by omega) (by omega)
      have hm10 := mul_bd (a := qy - py) (b := cx - px) (A := 3000) (B := 3000) (by omega) (by omega)
      have hm11 := mul_bd (a := (qx - px) * (cy - py) - (qy - py) * (cx - px)) (b := (qx - px) * (cy - py) - (qy - py) * (cx - px)) (A := 18000000) (B := 18000000) (by omega) (by omega)
      have g'52 := (jn @h2 (jn @h2d g'50))
      refine runTf g'52 ?_
      refine cond_split (fun h3 => ?_) (fun h3 => ?_)
      · have h3d := bsT h3
        have g'53 := (jn @h3 (jn @h3d g'52))
        refine runTf g'53 ?_
        exact hQ _ _ (end_plain (.inl rfl) hbel (x := .bool (decide ((((cx - px) * (cx - px)) + ((cy - py) * (cy - py))) ≤ 400))) (resT Tryz.results93) rfl ⟨by simp [nearT, h1d, h2d, h3d], rfl⟩)
      · have h3d := bsT h3
        have g'54 := (jn @h3 (jn @h3d g'52))
        refine runTf g'54 ?_
        refine cond_split (fun h4 => ?_) (fun h4 => ?_)
        · have h4d := bsT h4
          have g'55 := (jn @h4 (jn @h4d g'54))
          refine runTf g'55 ?_
          exact hQ _ _ (end_plain (.inl rfl) hbel (x := .bool (decide ((((cx - qx) * (cx - qx)) + ((cy - qy) * (cy - qy))) ≤ 400))) (resT Tryz.results93) rfl ⟨by simp [nearT, h1d, h2d, h3d, h4d], rfl⟩)
        · have h4d := bsT h4
          have g'56 := (jn @h4 (jn @h4d g'54))
          refine runTf g'56 ?_
          exact hQ _ _ (end_plain (.inl rfl) hbel (x := .bool (decide (((((qx - px) * (cy - py)) - ((qy - py) * (cx - px))) * (((qx - px) * (cy - py)) - ((qy - py) * (cx - px)))) ≤ (400 * (((qx - px) * (qx - px)) + ((qy - py) * (qy - py))))))) (resT Tryz.results93) rfl ⟨by simp [nearT, h1d, h2d, h3d, h4d], rfl⟩)
  · have h1d := bsT h1
    have g'57 := (jn @h1 @h1d)
    refine runTf g'57 ?_
    exact hQ _ _ (end_plain (.inl rfl) hbel (x := .bool false) (resT Tryz.results93) rfl ⟨by simp [nearT, h1d], rfl⟩)
theorem r5corners_c (H : AHeap) (x0 : Int) (y0 : Int) (x1 : Int) (y1 : Int) : ACalls Tryz.prog 91 [.agg [.int .i64 x0, .int .i64 y0, .int .i64 x1, .int .i64 y1]] H (fun v H' => v = .sl (some (H.length, 0)) 4 none ∧ H' = H ++ [.cells true 2 [.int .i64 x0, .int .i64 y0, .int .i64 x1, .int .i64 y0, .int .i64 x1, .int .i64 y1, .int .i64 x0, .int .i64 y1]]) := by
  refine AcT true Tryz.func91 ?_; intro hbel Q hQ
  refine runT ?_
  refine hQ _ _ (end_byG (.inl rfl) hbel (x1 := .sl (some (H.length + 1, 0)) 4 (some 4)) (l2 := [.cells true 2 [.int .i64 x0, .int .i64 y0, .int .i64 x1, .int .i64 y0, .int .i64 x1, .int .i64 y1, .int .i64 x0, .int .i64 y1]]) (.sl (some (H.length, 0)) 4 none) (resT Tryz.results91) [] rfl [1] (by decide) ⟨rfl, rfl⟩ ?_)
  exact absW
theorem r5touch_c (H : AHeap) (px : Int) (py : Int) (qx : Int) (qy : Int) (x0 : Int) (y0 : Int) (x1 : Int) (y1 : Int)  : ACalls Tryz.prog 31 [.agg [.int .i64 px, .int .i64 py], .agg [.int .i64 qx, .int .i64 qy], .agg [.int .i64 x0, .int .i64 y0, .int .i64 x1, .int .i64 y1], .int .i64 20] H (fun v H' => v = .bool (touchB px py qx qy x0 y0 x1 y1) ∧ H' = H) := by
  refine AcT true Tryz.func31 ?_; intro hbel Q hQ
  refine runT ?_
  refine call_v (by kernel_rfl) (r5pt_c _ px py) ?_
  refine runT ?_
  refine gd_split (fun h1 => ?_) (fun h1 => ?_)
  · have h1d := bsT h1
    have hvp := lnP_iff.1 h1d
    have g'58 := (jn @h1 @h1d)
    refine runTf g'58 ?_
    refine call_v (by kernel_rfl) (r5pt_c _ qx qy) ?_
    refine runTf g'58 ?_
    refine gd_split (fun h2 => ?_) (fun h2 => ?_)
    · have h2d := bsT h2
      have hvq := lnP_iff.1 h2d
      have g'59 := (jn @h2 (jn @h2d g'58))
      refine runTf g'59 ?_
      refine call_v (by kernel_rfl) (r5rc_c _ x0 y0 x1 y1) ?_
      refine runTf g'59 ?_
      refine gd_split (fun h3 => ?_) (fun h3 => ?_)
      · have h3d := bsT h3
        have hvr := lnR_iff.1 h3d
        have g'60 := (jn @h3 (jn @h3d g'59))
        refine runTf g'60 ?_
        refine call_v (by kernel_rfl) (bsize_c _ _ _ (by decide)) ?_
        refine runTf g'60 ?_
        refine gd_split (fun h4 => ?_) (fun h4 => ?_)
        · have h4d := bsT h4
          have hwx := within_iff.1 h4d
          have g'61 := (jn @h4 (jn @h4d g'60))
          refine runTf g'61 ?_
          refine call_v (by kernel_rfl) (bsize_c _ _ _ (by decide)) ?_
          refine runTf g'61 ?_
          refine cond_split (fun h5 => ?_) (fun h5 => ?_)
          · have h5d := bsT h5
            have g'62 := (jn @h5 (jn @h5d g'61))
            refine runTf g'62 ?_
            exact hQ _ _ (end_plain (.inl rfl) hbel (x := .bool false) (resT Tryz.results31) rfl ⟨by first | (rw [hfinT]; done) | (unfold touchB tokB; simp [h1d, h2d, h3d, h4d, h5d]; done) | (unfold touchB; rw [htok]; simp [h1d, h2d, h3d, h4d, h5d]), rfl⟩)
          · have h5d := bsT h5
            have hwy := within_iff.1 h5d
            have htok : tokB px py qx qy x0 y0 x1 y1 = true := by unfold tokB; simp only [*]; rfl
            have g'63 := (jn @h5 (jn @h5d g'61))
            refine runTf g'63 ?_
            refine call_v (by kernel_rfl) (r5in_c _ px py x0 y0 x1 y1) ?_
            refine runTf g'63 ?_
            refine gd_split (fun h6 => ?_) (fun h6 => ?_)
            · have h6d := bsT h6
              have hin0 := h6d
              have g'64 := (jn @h6 (jn @h6d g'63))
              refine runTf g'64 ?_
              refine call_v (by kernel_rfl) (r5gap_c _ px py x0 y0 x1 y1) ?_
              refine runTf g'64 ?_
              refine gd_split (fun h7 => ?_) (fun h7 => ?_)
              · have h7d := bsT h7
                have hg1 := h7d
                have g'65 := (jn @h7 (jn @h7d g'64))
                refine runTf g'65 ?_
                refine call_v (by kernel_rfl) (r5gap_c _ qx qy x0 y0 x1 y1) ?_
                refine runTf g'65 ?_
                refine cond_split (fun h8 => ?_) (fun h8 => ?_)
                · have h8d := bsT h8
                  have g'66 := (jn @h8 (jn @h8d g'65))
                  refine runTf g'66 ?_
                  exact hQ _ _ (end_plain (.inl rfl) hbel (x := .bool true) (resT Tryz.results31) rfl ⟨by first | (rw [hfinT]; done) | (unfold touchB tokB; simp [h1d, h2d, h3d, h4d, h5d, h6d, h7d, h8d]; done) | (unfold touchB; rw [htok]; simp [h1d, h2d, h3d, h4d, h5d, h6d, h7d, h8d]), rfl⟩)
                · have h8d := bsT h8
                  have hg2 := h8d
                  have g'67 := (jn @h8 (jn @h8d g'65))
                  refine runTf g'67 ?_
                  refine call_v (by kernel_rfl) (r5corners_c _ x0 y0 x1 y1) ?_
                  refine runTf g'67 ?_
                  refine go_loop try_mixed (by kernel_rfl) (fun k F Hx => ∃ i : Nat, i + k = 4 ∧ (∀ j : Nat, j < i → tcN px py qx qy x0 y0 x1 y1 j = false) ∧ F = [(3, .int .i64 20), (4, .ptr (some (H.length, 0))), (5, .ptr (some (H.length + 1, 0))), (9, .sl (some (H.length + 2, 0)) 4 none), (10, .int .i64 ((i : Nat) : Int))] ∧ Hx = H ++ [.cells true 0 [.int .i64 px, .int .i64 py], .cells true 0 [.int .i64 qx, .int .i64 qy], .cells true 2 [.int .i64 x0, .int .i64 y0, .int .i64 x1, .int .i64 y0, .int .i64 x1, .int .i64 y1, .int .i64 x0, .int .i64 y1]]) (4) ?_ ?_
                  · refine ⟨_, _, _, ⟨0, by omega, fun j h => by omega, rfl, rfl⟩, Abs.byG hbel [] rfl [0, 1, 3] (by decide) ?_⟩
                    exact absW
                  · rintro k0 F Hx ⟨i, hm0, htn, rfl, rfl⟩ J0 hJ0
                    refine runTf g'67 ?_
                    refine cond_split (fun h9 => ?_) (fun h9 => ?_)
                    · have h9d := bsT h9
                      obtain rfl | rfl | rfl | rfl := (by omega : i = 0 ∨ i = 1 ∨ i = 2 ∨ i = 3)
                      · skip
                        have g'68 := (jn @h9 (jn @h9d g'67))
                        refine runTf g'68 ?_
                        refine call_d (by kernel_rfl) (r5cross_c _ px py qx qy x0 y0 x1 y0) ?_
                        refine runTf g'68 ?_
                        refine gd_split (fun h10 => ?_) (fun h10 => ?_)
                        · have h10d := bsT h10
                          have hcr := h10d
                          have g'69 := (jn @h10 (jn @h10d g'68))
                          refine runTf g'69 ?_
                          refine call_d (by kernel_rfl) (r5near_c _ x0 y0 px py qx qy (by omega)) ?_
                          refine runTf g'69 ?_
                          refine cond_split (fun h11 => ?_) (fun h11 => ?_)
                          · have h11d := bsT h11
                            have hfinT : touchB px py qx qy x0 y0 x1 y1 = true := touchB_t htok (j := 0) (by decide) (by show (crossB px py qx qy x0 y0 x1 y0 || nearT x0 y0 px py qx qy) = true; rw [h11d]; simp)
                            have g'70 := (jn @h11 (jn @h11d g'69))
                            refine runTf g'70 ?_
                            exact hQ _ _ (end_plain (.inl rfl) hbel (x := .bool true) (resT Tryz.results31) rfl ⟨by first | (rw [hfinT]; done) | (unfold touchB tokB; simp [h1d, h2d, h3d, h4d, h5d, h6d, h7d, h8d, h9d, h10d, h11d, hfinT]; done) | (unfold touchB; rw [htok]; simp [h1d, h2d, h3d, h4d, h5d, h6d, h7d, h8d, h9d, h10d, h11d, hfinT]), rfl⟩)
                          · have h11d := bsT h11
                            have htc : tcN px py qx qy x0 y0 x1 y1 0 = false := by show (crossB px py qx qy x0 y0 x1 y0 || nearT x0 y0 px py qx qy) = false; rw [hcr, h11d]; rfl
                            have g'71 := (jn @h11 (jn @h11d g'69))
                            refine runTf g'71 ?_
                            refine hJ0 _ _ ⟨k0 - 1, by omega, _, _, _, ⟨0 + 1, by omega, fun j hj => by
                                        rcases (show j < 0 ∨ j = 0 by omega) with hji | rfl
                                        · exact htn j hji
                                        · exact htc, rfl, rfl⟩, Abs.byG hbel [] rfl [0, 1, 2] (by decide) ?_⟩
                            exact absW
                        · have h10d := bsT h10
                          have hfinT : touchB px py qx qy x0 y0 x1 y1 = true := touchB_t htok (j := 0) (by decide) (by show (crossB px py qx qy x0 y0 x1 y0 || nearT x0 y0 px py qx qy) = true; rw [h10d]; rfl)
                          have g'72 := (jn @h10 (jn @h10d g'68))
                          refine runTf g'72 ?_
                          exact hQ _ _ (end_plain (.inl rfl) hbel (x := .bool true) (resT Tryz.results31) rfl ⟨by first | (rw [hfinT]; done) | (unfold touchB tokB; simp [h1d, h2d, h3d, h4d, h5d, h6d, h7d, h8d, h9d, h10d, hfinT]; done) | (unfold touchB; rw [htok]; simp [h1d, h2d, h3d, h4d, h5d, h6d, h7d, h8d, h9d, h10d, hfinT]), rfl⟩)
                      · skip
                        have g'73 := (jn @h9 (jn @h9d g'67))
                        refine runTf g'73 ?_
                        refine call_d (by kernel_rfl) (r5cross_c _ px py qx qy x1 y0 x1 y1) ?_
                        refine runTf g'73 ?_
                        refine gd_split (fun h12 => ?_) (fun h12 => ?_)
                        · have h12d := bsT h12
                          have hcr := h12d
                          have g'74 := (jn @h12 (jn @h12d g'73))
                          refine runTf g'74 ?_
                          refine call_d (by kernel_rfl) (r5near_c _ x1 y0 px py qx qy (by omega)) ?_
                          refine runTf g'74 ?_
                          refine cond_split (fun h13 => ?_) (fun h13 => ?_)
                          · have h13d := bsT h13
                            have hfinT : touchB px py qx qy x0 y0 x1 y1 = true := touchB_t htok (j := 1) (by decide) (by show (crossB px py qx qy x1 y0 x1 y1 || nearT x1 y0 px py qx qy) = true; rw [h13d]; simp)
                            have g'75 := (jn @h13 (jn @h13d g'74))
                            refine runTf g'75 ?_
                            exact hQ _ _ (end_plain (.inl rfl) hbel (x := .bool true) (resT Tryz.results31) rfl ⟨by first | (rw [hfinT]; done) | (unfold touchB tokB; simp [h1d, h2d, h3d, h4d, h5d, h6d, h7d, h8d, h9d, h12d, h13d, hfinT]; done) | (unfold touchB; rw [htok]; simp [h1d, h2d, h3d, h4d, h5d, h6d, h7d, h8d, h9d, h12d, h13d, hfinT]), rfl⟩)
                          · have h13d := bsT h13
                            have htc : tcN px py qx qy x0 y0 x1 y1 1 = false := by show (crossB px py qx qy x1 y0 x1 y1 || nearT x1 y0 px py qx qy) = false; rw [hcr, h13d]; rfl
                            have g'76 := (jn @h13 (jn @h13d g'74))
                            refine runTf g'76 ?_
                            refine hJ0 _ _ ⟨k0 - 1, by omega, _, _, _, ⟨1 + 1, by omega, fun j hj => by
                                        rcases (show j < 1 ∨ j = 1 by omega) with hji | rfl
                                        · exact htn j hji
                                        · exact htc, rfl, rfl⟩, Abs.byG hbel [] rfl [0, 1, 2] (by decide) ?_⟩
                            exact absW
                        · have h12d := bsT h12
                          have hfinT : touchB px py qx qy x0 y0 x1 y1 = true := touchB_t htok (j := 1) (by decide) (by show (crossB px py qx qy x1 y0 x1 y1 || nearT x1 y0 px py qx qy) = true; rw [h12d]; rfl)
                          have g'77 := (jn @h12 (jn @h12d g'73))
                          refine runTf g'77 ?_
                          exact hQ _ _ (end_plain (.inl rfl) hbel (x := .bool true) (resT Tryz.results31) rfl ⟨by first | (rw [hfinT]; done) | (unfold touchB tokB; simp [h1d, h2d, h3d, h4d, h5d, h6d, h7d, h8d, h9d, h12d, hfinT]; done) | (unfold touchB; rw [htok]; simp [h1d, h2d, h3d, h4d, h5d, h6d, h7d, h8d, h9d, h12d, hfinT]), rfl⟩)
                      · skip
                        have g'78 := (jn @h9 (jn @h9d g'67))
                        refine runTf g'78 ?_
                        refine call_d (by kernel_rfl) (r5cross_c _ px py qx qy x1 y1 x0 y1) ?_
                        refine runTf g'78 ?_
                        refine gd_split (fun h14 => ?_) (fun h14 => ?_)
                        · have h14d := bsT h14
                          have hcr := h14d
                          have g'79 := (jn @h14 (jn @h14d g'78))
                          refine runTf g'79 ?_
                          refine call_d (by kernel_rfl) (r5near_c _ x1 y1 px py qx qy (by omega)) ?_
                          refine runTf g'79 ?_
                          refine cond_split (fun h15 => ?_) (fun h15 => ?_)
                          · have h15d := bsT h15
                            have hfinT : touchB px py qx qy x0 y0 x1 y1 = true := touchB_t htok (j := 2) (by decide) (by show (crossB px py qx qy x1 y1 x0 y1 || nearT x1 y1 px py qx qy) = true; rw [h15d]; simp)
                            have g'80 := (jn @h15 (jn @h15d g'79))
                            refine runTf g'80 ?_
                            exact hQ _ _ (end_plain (.inl rfl) hbel (x := .bool true) (resT Tryz.results31) rfl ⟨by first | (rw [hfinT]; done) | (unfold touchB tokB; simp [h1d, h2d, h3d, h4d, h5d, h6d, h7d, h8d, h9d, h14d, h15d, hfinT]; done) | (unfold touchB; rw [htok]; simp [h1d, h2d, h3d, h4d, h5d, h6d, h7d, h8d, h9d, h14d, h15d, hfinT]), rfl⟩)
                          · have h15d := bsT h15
                            have htc : tcN px py qx qy x0 y0 x1 y1 2 = false := by show (crossB px py qx qy x1 y1 x0 y1 || nearT x1 y1 px py qx qy) = false; rw [hcr, h15d]; rfl
                            have g'81 := (jn @h15 (jn @h15d g'79))
                            refine runTf g'81 ?_
                            refine hJ0 _ _ ⟨k0 - 1, by omega, _, _, _, ⟨2 + 1, by omega, fun j hj => by
                                        rcases (show j < 2 ∨ j = 2 by omega) with hji | rfl
                                        · exact htn j hji
                                        · exact htc, rfl, rfl⟩, Abs.byG hbel [] rfl [0, 1, 2] (by decide) ?_⟩
                            exact absW
                        · have h14d := bsT h14
                          have hfinT : touchB px py qx qy x0 y0 x1 y1 = true := touchB_t htok (j := 2) (by decide) (by show (crossB px py qx qy x1 y1 x0 y1 || nearT x1 y1 px py qx qy) = true; rw [h14d]; rfl)
                          have g'82 := (jn @h14 (jn @h14d g'78))
                          refine runTf g'82 ?_
                          exact hQ _ _ (end_plain (.inl rfl) hbel (x := .bool true) (resT Tryz.results31) rfl ⟨by first | (rw [hfinT]; done) | (unfold touchB tokB; simp [h1d, h2d, h3d, h4d, h5d, h6d, h7d, h8d, h9d, h14d, hfinT]; done) | (unfold touchB; rw [htok]; simp [h1d, h2d, h3d, h4d, h5d, h6d, h7d, h8d, h9d, h14d, hfinT]), rfl⟩)
                      · skip
                        have g'83 := (jn @h9 (jn @h9d g'67))
                        refine runTf g'83 ?_
                        refine call_d (by kernel_rfl) (r5cross_c _ px py qx qy x0 y1 x0 y0) ?_
                        refine runTf g'83 ?_
                        refine gd_split (fun h16 => ?_) (fun h16 => ?_)
                        · have h16d := bsT h16
                          have hcr := h16d
                          have g'84 := (jn @h16 (jn @h16d g'83))
                          refine runTf g'84 ?_
                          refine call_d (by kernel_rfl) (r5near_c _ x0 y1 px py qx qy (by omega)) ?_
                          refine runTf g'84 ?_
                          refine cond_split (fun h17 => ?_) (fun h17 => ?_)
                          · have h17d := bsT h17
                            have hfinT : touchB px py qx qy x0 y0 x1 y1 = true := touchB_t htok (j := 3) (by decide) (by show (crossB px py qx qy x0 y1 x0 y0 || nearT x0 y1 px py qx qy) = true; rw [h17d]; simp)
                            have g'85 := (jn @h17 (jn @h17d g'84))
                            refine runTf g'85 ?_
                            exact hQ _ _ (end_plain (.inl rfl) hbel (x := .bool true) (resT Tryz.results31) rfl ⟨by first | (rw [hfinT]; done) | (unfold touchB tokB; simp [h1d, h2d, h3d, h4d, h5d, h6d, h7d, h8d, h9d, h16d, h17d, hfinT]; done) | (unfold touchB; rw [htok]; simp [h1d, h2d, h3d, h4d, h5d, h6d, h7d, h8d, h9d, h16d, h17d, hfinT]), rfl⟩)
                          · have h17d := bsT h17
                            have htc : tcN px py qx qy x0 y0 x1 y1 3 = false := by show (crossB px py qx qy x0 y1 x0 y0 || nearT x0 y1 px py qx qy) = false; rw [hcr, h17d]; rfl
                            have g'86 := (jn @h17 (jn @h17d g'84))
                            refine runTf g'86 ?_
                            refine hJ0 _ _ ⟨k0 - 1, by omega, _, _, _, ⟨3 + 1, by omega, fun j hj => by
                                        rcases (show j < 3 ∨ j = 3 by omega) with hji | rfl
                                        · exact htn j hji
                                        · exact htc, rfl, rfl⟩, Abs.byG hbel [] rfl [0, 1, 2] (by decide) ?_⟩
                            exact absW
                        · have h16d := bsT h16
                          have hfinT : touchB px py qx qy x0 y0 x1 y1 = true := touchB_t htok (j := 3) (by decide) (by show (crossB px py qx qy x0 y1 x0 y0 || nearT x0 y1 px py qx qy) = true; rw [h16d]; rfl)
                          have g'87 := (jn @h16 (jn @h16d g'83))
                          refine runTf g'87 ?_
                          exact hQ _ _ (end_plain (.inl rfl) hbel (x := .bool true) (resT Tryz.results31) rfl ⟨by first | (rw [hfinT]; done) | (unfold touchB tokB; simp [h1d, h2d, h3d, h4d, h5d, h6d, h7d, h8d, h9d, h16d, hfinT]; done) | (unfold touchB; rw [htok]; simp [h1d, h2d, h3d, h4d, h5d, h6d, h7d, h8d, h9d, h16d, hfinT]), rfl⟩)
                    · have h9d := bsT h9
                      obtain rfl : i = 4 := by omega
                      have hfinT : touchB px py qx qy x0 y0 x1 y1 = false := touchB_f hin0 (by omega) (by omega) htn
                      have g'88 := (jn @h9 (jn @h9d g'67))
                      refine runTf g'88 ?_
                      exact hQ _ _ (end_plain (.inl rfl) hbel (x := .bool false) (resT Tryz.results31) rfl ⟨by first | (rw [hfinT]; done) | (unfold touchB tokB; simp [h1d, h2d, h3d, h4d, h5d, h6d, h7d, h8d, h9d, hfinT]; done) | (unfold touchB; rw [htok]; simp [h1d, h2d, h3d, h4d, h5d, h6d, h7d, h8d, h9d, hfinT]), rfl⟩)
              · have h7d := bsT h7
                have g'89 := (jn @h7 (jn @h7d g'64))
                refine runTf g'89 ?_
                exact hQ _ _ (end_plain (.inl rfl) hbel (x := .bool true) (resT Tryz.results31) rfl ⟨by first | (rw [hfinT]; done) | (unfold touchB tokB; simp [h1d, h2d, h3d, h4d, h5d, h6d, h7d]; done) | (unfold touchB; rw [htok]; simp [h1d, h2d, h3d, h4d, h5d, h6d, h7d]), rfl⟩)
            · have h6d := bsT h6
              have g'90 := (jn @h6 (jn @h6d g'63))
              refine runTf g'90 ?_
              exact hQ _ _ (end_plain (.inl rfl) hbel (x := .bool true) (resT Tryz.results31) rfl ⟨by first | (rw [hfinT]; done) | (unfold touchB tokB; simp [h1d, h2d, h3d, h4d, h5d, h6d]; done) | (unfold touchB; rw [htok]; simp [h1d, h2d, h3d, h4d, h5d, h6d]), rfl⟩)
        · have h4d := bsT h4
          have g'91 := (jn @h4 (jn @h4d g'60))
          refine runTf g'91 ?_
          exact hQ _ _ (end_plain (.inl rfl) hbel (x := .bool false) (resT Tryz.results31) rfl ⟨by first | (rw [hfinT]; done) | (unfold touchB tokB; simp [h1d, h2d, h3d, h4d]; done) | (unfold touchB; rw [htok]; simp [h1d, h2d, h3d, h4d]), rfl⟩)
      · have h3d := bsT h3
        have g'92 := (jn @h3 (jn @h3d g'59))
        refine runTf g'92 ?_
        exact hQ _ _ (end_plain (.inl rfl) hbel (x := .bool false) (resT Tryz.results31) rfl ⟨by first | (rw [hfinT]; done) | (unfold touchB tokB; simp [h1d, h2d, h3d]; done) | (unfold touchB; rw [htok]; simp [h1d, h2d, h3d]), rfl⟩)
    · have h2d := bsT h2
      have g'93 := (jn @h2 (jn @h2d g'58))
      refine runTf g'93 ?_
      exact hQ _ _ (end_plain (.inl rfl) hbel (x := .bool false) (resT Tryz.results31) rfl ⟨by first | (rw [hfinT]; done) | (unfold touchB tokB; simp [h1d, h2d]; done) | (unfold touchB; rw [htok]; simp [h1d, h2d]), rfl⟩)
  · have h1d := bsT h1
    have g'94 := (jn @h1 @h1d)
    refine runTf g'94 ?_
    exact hQ _ _ (end_plain (.inl rfl) hbel (x := .bool false) (resT Tryz.results31) rfl ⟨by first | (rw [hfinT]; done) | (unfold touchB tokB; simp [h1d]; done) | (unfold touchB; rw [htok]; simp [h1d]), rfl⟩)
open Go.RowKit
open Go.RowKit
open Go.RowKit
open Go.RowKit
def poseB (x y h : Int) : Bool := within x 1048576 && (within y 1048576 && (decide (0 ≤ h) && decide (h < 256)))
theorem poseB_iff {x y h : Int} : poseB x y h = true ↔ (ptB x y = true ∧ btw h 0 255 = true) := by
  unfold poseB ptB; simp only [Bool.and_eq_true, within_iff, btw_iff, decide_eq_true_eq]; omega
theorem bpose_c (H : AHeap) (x : Int) (y : Int) (h : Int) : ACalls Tryz.prog 24 [.agg [.int .i64 x, .int .i64 y, .int .i64 h]] H (fun v H' => v = .bool (poseB x y h) ∧ H' = H) := by
  refine AcT true Tryz.func24 ?_; intro hbel Q hQ
  refine runT ?_
  refine call_v (by kernel_rfl) (bsize_c _ _ _ (by decide)) ?_
  refine runT ?_
  refine gd_split (fun h1 => ?_) (fun h1 => ?_)
  · have h1d := bsT h1
    have g'2 := (jn @h1 @h1d)
    refine runTf g'2 ?_
    refine call_v (by kernel_rfl) (bsize_c _ _ _ (by decide)) ?_
    refine runTf g'2 ?_
    refine gd_split (fun h2 => ?_) (fun h2 => ?_)
    · have h2d := bsT h2
      have g'3 := (jn @h2 (jn @h2d g'2))
      refine runTf g'3 ?_
      refine gd_split (fun h3 => ?_) (fun h3 => ?_)
      · have h3d := bsT h3
        have g'4 := (jn @h3 (jn @h3d g'3))
        refine runTf g'4 ?_
        exact hQ _ _ (end_plain (.inl rfl) hbel (x := .bool (decide (h < 256))) (resT Tryz.results24) rfl ⟨by simp [poseB, h1d, h2d, h3d], rfl⟩)
      · have h3d := bsT h3
        have g'5 := (jn @h3 (jn @h3d g'3))
        refine runTf g'5 ?_
        exact hQ _ _ (end_plain (.inl rfl) hbel (x := .bool false) (resT Tryz.results24) rfl ⟨by simp [poseB, h1d, h2d, h3d], rfl⟩)
    · have h2d := bsT h2
      have g'6 := (jn @h2 (jn @h2d g'2))
      refine runTf g'6 ?_
      exact hQ _ _ (end_plain (.inl rfl) hbel (x := .bool false) (resT Tryz.results24) rfl ⟨by simp [poseB, h1d, h2d], rfl⟩)
  · have h1d := bsT h1
    have g'7 := (jn @h1 @h1d)
    refine runTf g'7 ?_
    exact hQ _ _ (end_plain (.inl rfl) hbel (x := .bool false) (resT Tryz.results24) rfl ⟨by simp [poseB, h1d], rfl⟩)
open Go.RowKit
def errB (eT eL eX eY : Int) : Bool := within eT 64 && (within eL 64 && (within eX 64 && within eY 64))
def nhI (ah t eT : Int) : Int := (((((ah + t) + eT) % 256).toNat : Nat) : Int)
def rwX (ax h f eL eX : Int) : Int := if f = 0 then ax else ax + (wayX h (mxI (f + eL) 0) + eX)
def rwY (ay h f eL eY : Int) : Int := if f = 0 then ay else ay + (wayY h (mxI (f + eL) 0) + eY)
/-- The pose after a motion, and the error. -/
def nxE (ax ay ah t f eT eL eX eY : Int) : Int := if (poseB ax ay ah && cmdB t f) = true then (if errB eT eL eX eY = true then (if f = 0 then 0 else if poseB (rwX ax (nhI ah t eT) f eL eX) (rwY ay (nhI ah t eT) f eL eY) (nhI ah t eT) = true then 0 else 2) else 2) else 1
def nxX (ax ay ah t f eT eL eX eY : Int) : Int := if nxE ax ay ah t f eT eL eX eY = 0 then rwX ax (nhI ah t eT) f eL eX else 0
def nxY (ax ay ah t f eT eL eX eY : Int) : Int := if nxE ax ay ah t f eT eL eX eY = 0 then rwY ay (nhI ah t eT) f eL eY else 0
def nxH (ax ay ah t f eT eL eX eY : Int) : Int := if nxE ax ay ah t f eT eL eX eY = 0 then nhI ah t eT else 0
theorem nx_err {ax ay ah t f eT eL eX eY : Int} {e : Int} (h : nxE ax ay ah t f eT eL eX eY = e) (he : ¬ e = 0) : nxX ax ay ah t f eT eL eX eY = 0 ∧ nxY ax ay ah t f eT eL eX eY = 0 ∧ nxH ax ay ah t f eT eL eX eY = 0 := ⟨if_neg (by rw [h]; exact he), if_neg (by rw [h]; exact he), if_neg (by rw [h]; exact he)⟩
theorem nx_ok {ax ay ah t f eT eL eX eY : Int} (h : nxE ax ay ah t f eT eL eX eY = 0) : nxX ax ay ah t f eT eL eX eY = rwX ax (nhI ah t eT) f eL eX ∧ nxY ax ay ah t f eT eL eX eY = rwY ay (nhI ah t eT) f eL eY ∧ nxH ax ay ah t f eT eL eX eY = nhI ah t eT := ⟨if_pos h, if_pos h, if_pos h⟩
theorem clg_bd {n k : Int} (hk : 0 ≤ k) : -k ≤ clgI n (0 - k) k ∧ clgI n (0 - k) k ≤ k := by
  unfold clgI; repeat' split
  all_goals omega
theorem mx_r (a : Int) : (if a < 0 then 0 else a) = mxI a 0 := rfl
theorem next_way {ax ay ah t f eT eL eX eY le sl : Int} (h : nxE ax ay ah t f eT eL eX eY = 0) (hf : 0 ≤ f) (h1 : -le ≤ eL ∧ eL ≤ le) (h2 : -sl ≤ eX ∧ eX ≤ sl) (h3 : -sl ≤ eY ∧ eY ≤ sl) : WayP (nxH ax ay ah t f eT eL eX eY) f le sl (nxX ax ay ah t f eT eL eX eY - ax) (nxY ax ay ah t f eT eL eX eY - ay) := by
  obtain ⟨e1, e2, e3⟩ := nx_ok h
  rw [e1, e2, e3]
  unfold rwX rwY
  by_cases h0 : f = 0
  · left; rw [if_pos h0, if_pos h0]; omega
  · right; rw [if_neg h0, if_neg h0]
    refine ⟨by omega, mxI (f + eL) 0, eX, eY, by unfold mxI; split <;> omega, h2, h3, by omega, by omega⟩
theorem nx_dist {ax ay ah t f eT eL eX eY : Int} (h : nxE ax ay ah t f eT eL eX eY = 0) : (-1024 ≤ ax - nxX ax ay ah t f eT eL eX eY ∧ ax - nxX ax ay ah t f eT eL eX eY ≤ 1024) ∧ -1024 ≤ ay - nxY ax ay ah t f eT eL eX eY ∧ ay - nxY ax ay ah t f eT eL eX eY ≤ 1024 := by
  obtain ⟨e1, e2, -⟩ := nx_ok h
  have hg : errB eT eL eX eY = true ∧ cmdB t f = true := by
    unfold nxE at h; split at h
    · rename_i hc
      rw [Bool.and_eq_true] at hc
      split at h
      · rename_i he; exact ⟨he, hc.2⟩
      · omega
    · omega
  unfold errB cmdB at hg
  simp only [Bool.and_eq_true, within_iff, btw_iff] at hg
  rw [e1, e2]
  have hw := way_bd (nhI ah t eT) (m := mxI (f + eL) 0) (by unfold mxI; split <;> omega)
  have hm : mxI (f + eL) 0 ≤ 96 := by unfold mxI; split <;> omega
  unfold rwX rwY
  split <;> omega
theorem nx_pose {ax ay ah t f eT eL eX eY : Int} (h : nxE ax ay ah t f eT eL eX eY = 0) (ha : poseB ax ay ah = true) : poseB (nxX ax ay ah t f eT eL eX eY) (nxY ax ay ah t f eT eL eX eY) (nxH ax ay ah t f eT eL eX eY) = true := by
  obtain ⟨e1, e2, e3⟩ := nx_ok h
  rw [e1, e2, e3]
  unfold nxE at h
  split at h
  · split at h
    · split at h
      · rename_i h0
        unfold rwX rwY; rw [if_pos h0, if_pos h0]
        have := poseB_iff.1 ha
        exact poseB_iff.2 ⟨this.1, btw_iff.2 (by unfold nhI; omega)⟩
      · split at h
        · assumption
        · omega
    · omega
  · omega
theorem moved_c (H : AHeap) (n : Int) (h : Int) (hn : 0 ≤ n ∧ n ≤ 1000) : ACalls Tryz.prog 85 [.int .i64 n, .int .i64 h] H (fun v H' => v = .agg [.int .i64 (wayX h n), .int .i64 (wayY h n)] ∧ H' = H) := by
  have hdv := vecOK_iff.1 (dirV_ok h)
  have hm1 := mul_bd (a := n) (b := (dirV h).1) (A := 1000) (B := 8065) (by omega) (by omega)
  have hm2 := mul_bd (a := n) (b := (dirV h).2.1) (A := 1000) (B := 8065) (by omega) (by omega)
  refine AcT true Tryz.func85 ?_; intro hbel Q hQ
  refine runT ?_
  refine call_v (by kernel_rfl) (rdir_c _ h) ?_
  refine runT ?_
  refine call_d (by kernel_rfl) (bfloor_c _ (n * ((dirV h).1)) ((dirV h).2.2) (by omega) (by omega)) ?_
  refine runT ?_
  refine call_d (by kernel_rfl) (bfloor_c _ (n * ((dirV h).2.1)) ((dirV h).2.2) (by omega) (by omega)) ?_
  refine runT ?_
  exact hQ _ _ (end_plain (.inl rfl) hbel (x := .agg [.int .i64 ((n * ((dirV h).1)) / ((dirV h).2.2)), .int .i64 ((n * ((dirV h).2.1)) / ((dirV h).2.2))]) (resT Tryz.results85) rfl ⟨rfl, rfl⟩)
theorem r11clip_c (H : AHeap) (tu : Int) (le : Int) (sl : Int) (ra : Int) (eT : Int) (eL : Int) (eX : Int) (eY : Int) (hb : bndB tu le sl ra = true) : ACalls Tryz.prog 86 [.agg [.int .i64 tu, .int .i64 le, .int .i64 sl, .int .i64 ra], .agg [.int .i64 eT, .int .i64 eL, .int .i64 eX, .int .i64 eY]] H (fun v H' => v = .tup [.agg [.int .i64 (clgI eT (0 - tu) tu), .int .i64 (clgI eL (0 - le) le), .int .i64 (clgI eX (0 - sl) sl), .int .i64 (clgI eY (0 - sl) sl)], .int .i64 0] ∧ H' = H) := by
  have hbi := hb
  simp only [bndB, Bool.and_eq_true, btw_iff] at hbi
  refine AcT true Tryz.func86 ?_; intro hbel Q hQ
  have g'1 := @hb
  refine runTf g'1 ?_
  refine call_v (by kernel_rfl) (bbnd_c _ tu le sl ra) ?_
  refine runTf g'1 ?_
  refine call_d (by kernel_rfl) (bclipg_c _ eT (0 - tu) tu) ?_
  refine runTf g'1 ?_
  refine call_d (by kernel_rfl) (bclipg_c _ eL (0 - le) le) ?_
  refine runTf g'1 ?_
  refine call_d (by kernel_rfl) (bclipg_c _ eX (0 - sl) sl) ?_
  refine runTf g'1 ?_
  refine call_d (by kernel_rfl) (bclipg_c _ eY (0 - sl) sl) ?_
  refine runTf g'1 ?_
  exact hQ _ _ (end_plain (.inl rfl) hbel (x := .tup [.agg [.int .i64 (clgI eT (0 - tu) tu), .int .i64 (clgI eL (0 - le) le), .int .i64 (clgI eX (0 - sl) sl), .int .i64 (clgI eY (0 - sl) sl)], .int .i64 0]) (resT Tryz.results86) rfl ⟨rfl, rfl⟩)
theorem next_c (H : AHeap) (ax : Int) (ay : Int) (ah : Int) (t : Int) (f : Int) (eT : Int) (eL : Int) (eX : Int) (eY : Int) : ACalls Tryz.prog 27 [.agg [.int .i64 ax, .int .i64 ay, .int .i64 ah], .agg [.int .i64 t, .int .i64 f], .agg [.int .i64 eT, .int .i64 eL, .int .i64 eX, .int .i64 eY]] H (fun v H' => v = .tup [.agg [.int .i64 (nxX ax ay ah t f eT eL eX eY), .int .i64 (nxY ax ay ah t f eT eL eX eY), .int .i64 (nxH ax ay ah t f eT eL eX eY)], .int .i64 (nxE ax ay ah t f eT eL eX eY)] ∧ H' = H) := by
  have hmx := mx_r (f + eL)
  (refine ACalls_pieces Tryz.func27 _ rfl (Nat.le_of_ble_eq_true (by kernel_rfl)) rfl ?_; intro hbel Q hQ hQ' c hc; unfold Tryz.f27 at hc; simp only [Option.some.injEq] at hc; subst hc; clear hQ')
  refine AW_seqQ fun Q1 hn1 hr1 he1 => ?_
  have hQ1 := fun F H' h => hr1 F H' (hQ F H' h)
  refine AW_fin true try_mixed (by kernel_rfl) ?_
  have g'2 := @hmx
  refine runTf g'2 ?_
  refine hn1 _ _ ?_
  refine AW_seqQ fun Q2 hn2 hr2 he2 => ?_
  have hQ2 := fun F H' h => hr2 F H' (hQ F H' h)
  refine AW_fin true try_mixed (by kernel_rfl) ?_
  refine runTf g'2 ?_
  refine call_v (by kernel_rfl) (bpose_c _ ax ay ah) ?_
  refine runTf g'2 ?_
  refine gd_split (fun h1 => ?_) (fun h1 => ?_)
  · have h1d := bsT h1
    have hP := h1d
    have hPi := poseB_iff.1 hP
    have hbt := btw_iff.1 hPi.2
    have g'3 := (jn @h1 (jn @h1d g'2))
    refine runTf g'3 ?_
    refine call_v (by kernel_rfl) (bcmd_c _ t f) ?_
    refine runTf g'3 ?_
    refine cond_split (fun h2 => ?_) (fun h2 => ?_)
    · have h2d := bsT h2
      have hfinE : nxE ax ay ah t f eT eL eX eY = 1 := by unfold nxE; rw [hP, h2d]; rfl
      obtain ⟨hfinX, hfinY, hfinH⟩ := nx_err hfinE (by decide)
      have g'4 := (jn @h2 (jn @h2d g'3))
      refine runTf g'4 ?_
      exact hQ2 _ _ (end_plain (.inl rfl) hbel (x := .tup [.agg [.int .i64 0, .int .i64 0, .int .i64 0], .int .i64 1]) (resT Tryz.results27) rfl ⟨by first | (rw [hfinX, hfinY, hfinH, hfinE]; done) | (rw [hfinX, hfinY, hfinH, hfinE]; rfl), rfl⟩)
    · have h2d := bsT h2
      have hC := h2d
      have hCi := hC
      simp only [cmdB, Bool.and_eq_true, btw_iff, within_iff] at hCi
      have g'5 := (jn @h2 (jn @h2d g'3))
      refine runTf g'5 ?_
      refine hn2 _ _ ?_
      refine AW_seqQ fun Q3 hn3 hr3 he3 => ?_
      have hQ3 := fun F H' h => hr3 F H' (hQ F H' h)
      refine AW_fin true try_mixed (by kernel_rfl) ?_
      refine runTf g'5 ?_
      refine call_v (by kernel_rfl) (bsize2_c _ eT 64 (by decide)) ?_
      refine runTf g'5 ?_
      refine gd_split (fun h3 => ?_) (fun h3 => ?_)
      · have h3d := bsT h3
        have hw1 := within_iff.1 h3d
        have hww1 := h3d
        have g'6 := (jn @h3 (jn @h3d g'5))
        refine runTf g'6 ?_
        refine call_v (by kernel_rfl) (bsize2_c _ eL 64 (by decide)) ?_
        refine runTf g'6 ?_
        refine gd_split (fun h4 => ?_) (fun h4 => ?_)
        · have h4d := bsT h4
          have hw2 := within_iff.1 h4d
          have hww2 := h4d
          have g'7 := (jn @h4 (jn @h4d g'6))
          refine runTf g'7 ?_
          refine call_v (by kernel_rfl) (bsize2_c _ eX 64 (by decide)) ?_
          refine runTf g'7 ?_
          refine gd_split (fun h5 => ?_) (fun h5 => ?_)
          · have h5d := bsT h5
            have hw3 := within_iff.1 h5d
            have hww3 := h5d
            have g'8 := (jn @h5 (jn @h5d g'7))
            refine runTf g'8 ?_
            refine call_v (by kernel_rfl) (bsize2_c _ eY 64 (by decide)) ?_
            refine runTf g'8 ?_
            refine cond_split (fun h6 => ?_) (fun h6 => ?_)
            · have h6d := bsT h6
              have herr : errB eT eL eX eY = false := by unfold errB; simp [h6d]
              have hfinE : nxE ax ay ah t f eT eL eX eY = 2 := by unfold nxE; rw [hP, hC, herr]; rfl
              obtain ⟨hfinX, hfinY, hfinH⟩ := nx_err hfinE (by decide)
              have g'9 := (jn @h6 (jn @h6d g'8))
              refine runTf g'9 ?_
              exact hQ3 _ _ (end_plain (.inl rfl) hbel (x := .tup [.agg [.int .i64 0, .int .i64 0, .int .i64 0], .int .i64 2]) (resT Tryz.results27) rfl ⟨by first | (rw [hfinX, hfinY, hfinH, hfinE]; done) | (rw [hfinX, hfinY, hfinH, hfinE]; rfl), rfl⟩)
            · have h6d := bsT h6
              have hw4 := within_iff.1 h6d
              have hww4 := h6d
              have herr : errB eT eL eX eY = true := by unfold errB; rw [hww1, hww2, hww3, hww4]; rfl
              have g'10 := (jn @h6 (jn @h6d g'8))
              refine runTf g'10 ?_
              refine hn3 _ _ ?_
              refine AW_special true try_mixed [[0, 1, 2, 3, 4, 5, 6, 7, 8, 9, 10, 11, 12, 13, 14, 15], [0, 1, 2, 3, 4, 5, 6, 7, 8, 9, 10, 11, 14, 12, 13, 15]] (by kernel_rfl) (fun F2 H2 => F2 = [(4, .ptr (some (H.length, 0))), (5, .ptr (some (H.length + 1, 0))), (6, .ptr (some (H.length + 2, 0))), (7, .int .i64 0), (8, .ptr (some (H.length + 3, 0)))] ∧ H2 = H ++ [.cells true 0 [.int .i64 t, .int .i64 f], .cells true 0 [.int .i64 eT, .int .i64 eL, .int .i64 eX, .int .i64 eY], .cells true 0 [.int .i64 0, .int .i64 0, .int .i64 0], .cells true 0 [.int .i64 ax, .int .i64 ay, .int .i64 (((((ah + t) + eT) % 256).toNat : Nat) : Int)]]) ?_ ?_
              · refine reps_cons ?_ (reps_cons ?_ (reps_nil)) <;> intro J hJ
                · skip
                  refine runDf g'10 ?_
                  refine call_d (by kernel_rfl) (bmod_c _ ((ah + t) + eT) 256 (by omega) (by omega)) ?_
                  refine runDf g'10 ?_
                  refine inv_of (hJ _ _ ⟨_, _, _, ⟨rfl, rfl⟩, Abs.byG hbel [] rfl [1, 2, 3, 4] (by decide) ?_⟩)
                  exact absW
                · skip
                  refine runDf g'10 ?_
                  refine call_d (by kernel_rfl) (bmod_c _ ((ah + t) + eT) 256 (by omega) (by omega)) ?_
                  refine runDf g'10 ?_
                  refine inv_of (hJ _ _ ⟨_, _, _, ⟨rfl, rfl⟩, Abs.byG hbel [] rfl [1, 2, 3, 4] (by decide) ?_⟩)
                  exact absW
              rintro F2 H2 ⟨rfl, rfl⟩
              refine AW_fin true try_mixed (by kernel_rfl) ?_
              refine runTf g'10 ?_
              refine cond_split (fun h7 => ?_) (fun h7 => ?_)
              · have h7d := bsT h7
                have h7n := bnT h7
                have hf0 : f = 0 := h7d
                have hfinE : nxE ax ay ah t f eT eL eX eY = 0 := by unfold nxE; rw [hP, hC, herr, if_pos hf0]; rfl
                obtain ⟨hX1, hY1, hfinH⟩ := nx_ok hfinE
                have hfinX : nxX ax ay ah t f eT eL eX eY = ax := hX1.trans (if_pos hf0)
                have hfinY : nxY ax ay ah t f eT eL eX eY = ay := hY1.trans (if_pos hf0)
                have g'11 := (jn @h7 (jn @h7n (jn @int_bne (jn @int_beq g'10))))
                refine runTf g'11 ?_
                exact hQ _ _ (end_plain (.inl rfl) hbel (x := .tup [.agg [.int .i64 ax, .int .i64 ay, .int .i64 (((((ah + t) + eT) % 256).toNat : Nat) : Int)], .int .i64 0]) (resT Tryz.results27) rfl ⟨by first | (rw [hfinX, hfinY, hfinH, hfinE]; done) | (rw [hfinX, hfinY, hfinH, hfinE]; rfl), rfl⟩)
              · have h7d := bsT h7
                have h7n := bnT h7
                have hf0 : ¬ f = 0 := by simpa using h7d
                have hrx : rwX ax (nhI ah t eT) f eL eX = ax + (wayX (nhI ah t eT) (mxI (f + eL) 0) + eX) := if_neg hf0
                have hry : rwY ay (nhI ah t eT) f eL eY = ay + (wayY (nhI ah t eT) (mxI (f + eL) 0) + eY) := if_neg hf0
                have hwb := way_bd (nhI ah t eT) (m := mxI (f + eL) 0) (by unfold mxI; split <;> omega)
                have hmx3 : mxI (f + eL) 0 ≤ 96 := by unfold mxI; split <;> omega
                obtain ⟨p1, p2⟩ := hPi
                have hpp := p1
                simp only [ptB, Bool.and_eq_true, within_iff] at hpp
                have g'12 := (jn @h7 (jn @h7n (jn @int_bne (jn @int_beq g'10))))
                refine runTf g'12 ?_
                refine call_v (by kernel_rfl) (moved_c _ (mxI (f + eL) 0) (nhI ah t eT) (by unfold mxI; split <;> omega)) ?_
                refine runTf g'12 ?_
                refine call_v (by kernel_rfl) (bpose_c _ (ax + ((wayX (nhI ah t eT) (mxI (f + eL) 0)) + eX)) (ay + ((wayY (nhI ah t eT) (mxI (f + eL) 0)) + eY)) (((((ah + t) + eT) % 256).toNat : Nat) : Int)) ?_
                refine runTf g'12 ?_
                refine cond_split (fun h8 => ?_) (fun h8 => ?_)
                · have h8d := bsT h8
                  have hpo : poseB (rwX ax (nhI ah t eT) f eL eX) (rwY ay (nhI ah t eT) f eL eY) (nhI ah t eT) = false := by rw [hrx, hry]; exact h8d
                  have hfinE : nxE ax ay ah t f eT eL eX eY = 2 := by unfold nxE; rw [hP, hC, herr]; simp [hf0, hpo]
                  obtain ⟨hfinX, hfinY, hfinH⟩ := nx_err hfinE (by decide)
                  have g'13 := (jn @h8 (jn @h8d g'12))
                  refine runTf g'13 ?_
                  exact hQ _ _ (end_plain (.inl rfl) hbel (x := .tup [.agg [.int .i64 0, .int .i64 0, .int .i64 0], .int .i64 2]) (resT Tryz.results27) rfl ⟨by first | (rw [hfinX, hfinY, hfinH, hfinE]; done) | (rw [hfinX, hfinY, hfinH, hfinE]; rfl), rfl⟩)
                · have h8d := bsT h8
                  have hpo : poseB (rwX ax (nhI ah t eT) f eL eX) (rwY ay (nhI ah t eT) f eL eY) (nhI ah t eT) = true := by rw [hrx, hry]; exact h8d
                  have hfinE : nxE ax ay ah t f eT eL eX eY = 0 := by unfold nxE; rw [hP, hC, herr]; simp [hf0, hpo]
                  obtain ⟨hX1, hY1, hfinH⟩ := nx_ok hfinE
                  have hfinX := hX1.trans hrx
                  have hfinY := hY1.trans hry
                  have g'14 := (jn @h8 (jn @h8d g'12))
                  refine runTf g'14 ?_
                  exact hQ _ _ (end_plain (.inl rfl) hbel (x := .tup [.agg [.int .i64 (ax + ((wayX (nhI ah t eT) (mxI (f + eL) 0)) + eX)), .int .i64 (ay + ((wayY (nhI ah t eT) (mxI (f + eL) 0)) + eY)), .int .i64 (((((ah + t) + eT) % 256).toNat : Nat) : Int)], .int .i64 0]) (resT Tryz.results27) rfl ⟨by first | (rw [hfinX, hfinY, hfinH, hfinE]; done) | (rw [hfinX, hfinY, hfinH, hfinE]; rfl), rfl⟩)
          · have h5d := bsT h5
            have herr : errB eT eL eX eY = false := by unfold errB; simp [h5d]
            have hfinE : nxE ax ay ah t f eT eL eX eY = 2 := by unfold nxE; rw [hP, hC, herr]; rfl
            obtain ⟨hfinX, hfinY, hfinH⟩ := nx_err hfinE (by decide)
            have g'15 := (jn @h5 (jn @h5d g'7))
            refine runTf g'15 ?_
            exact hQ3 _ _ (end_plain (.inl rfl) hbel (x := .tup [.agg [.int .i64 0, .int .i64 0, .int .i64 0], .int .i64 2]) (resT Tryz.results27) rfl ⟨by first | (rw [hfinX, hfinY, hfinH, hfinE]; done) | (rw [hfinX, hfinY, hfinH, hfinE]; rfl), rfl⟩)
        · have h4d := bsT h4
          have herr : errB eT eL eX eY = false := by unfold errB; simp [h4d]
          have hfinE : nxE ax ay ah t f eT eL eX eY = 2 := by unfold nxE; rw [hP, hC, herr]; rfl
          obtain ⟨hfinX, hfinY, hfinH⟩ := nx_err hfinE (by decide)
          have g'16 := (jn @h4 (jn @h4d g'6))
          refine runTf g'16 ?_
          exact hQ3 _ _ (end_plain (.inl rfl) hbel (x := .tup [.agg [.int .i64 0, .int .i64 0, .int .i64 0], .int .i64 2]) (resT Tryz.results27) rfl ⟨by first | (rw [hfinX, hfinY, hfinH, hfinE]; done) | (rw [hfinX, hfinY, hfinH, hfinE]; rfl), rfl⟩)
      · have h3d := bsT h3
        have herr : errB eT eL eX eY = false := by unfold errB; simp [h3d]
        have hfinE : nxE ax ay ah t f eT eL eX eY = 2 := by unfold nxE; rw [hP, hC, herr]; rfl
        obtain ⟨hfinX, hfinY, hfinH⟩ := nx_err hfinE (by decide)
        have g'17 := (jn @h3 (jn @h3d g'5))
        refine runTf g'17 ?_
        exact hQ3 _ _ (end_plain (.inl rfl) hbel (x := .tup [.agg [.int .i64 0, .int .i64 0, .int .i64 0], .int .i64 2]) (resT Tryz.results27) rfl ⟨by first | (rw [hfinX, hfinY, hfinH, hfinE]; done) | (rw [hfinX, hfinY, hfinH, hfinE]; rfl), rfl⟩)
  · have h1d := bsT h1
    have hfinE : nxE ax ay ah t f eT eL eX eY = 1 := by unfold nxE; rw [h1d]; rfl
    obtain ⟨hfinX, hfinY, hfinH⟩ := nx_err hfinE (by decide)
    have g'18 := (jn @h1 (jn @h1d g'2))
    refine runTf g'18 ?_
    exact hQ2 _ _ (end_plain (.inl rfl) hbel (x := .tup [.agg [.int .i64 0, .int .i64 0, .int .i64 0], .int .i64 1]) (resT Tryz.results27) rfl ⟨by first | (rw [hfinX, hfinY, hfinH, hfinE]; done) | (rw [hfinX, hfinY, hfinH, hfinE]; rfl), rfl⟩)
theorem lwithin_c (H : AHeap) (tu : Int) (le : Int) (sl : Int) (ra : Int) (eT : Int) (eL : Int) (eX : Int) (eY : Int) (hb : bndB tu le sl ra = true) : ACalls Tryz.prog 28 [.agg [.int .i64 tu, .int .i64 le, .int .i64 sl, .int .i64 ra], .agg [.int .i64 eT, .int .i64 eL, .int .i64 eX, .int .i64 eY]] H (fun v H' => v = .agg [.int .i64 (clgI eT (0 - tu) tu), .int .i64 (clgI eL (0 - le) le), .int .i64 (clgI eX (0 - sl) sl), .int .i64 (clgI eY (0 - sl) sl)] ∧ H' = H) := by
  refine AcT true Tryz.func28 ?_; intro hbel Q hQ
  have g'19 := @hb
  refine runTf g'19 ?_
  refine call_v (by kernel_rfl) (r11clip_c _ tu le sl ra eT eL eX eY (by assumption)) ?_
  refine runTf g'19 ?_
  exact hQ _ _ (end_plain (.inl rfl) hbel (x := .agg [.int .i64 (clgI eT (0 - tu) tu), .int .i64 (clgI eL (0 - le) le), .int .i64 (clgI eX (0 - sl) sl), .int .i64 (clgI eY (0 - sl) sl)]) (resT Tryz.results28) rfl ⟨rfl, rfl⟩)
end Go.Proofs.YtoimakfecmhjkaaGreat
