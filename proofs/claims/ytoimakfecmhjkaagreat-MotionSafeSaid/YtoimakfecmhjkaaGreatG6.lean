/- Proved: the law MotionSafe returns true on every input, and its arguments read afterwards as before. Conditions: none beyond the given row's. -/
import Derived.Test.YtoimakfecmhjkaaGreatG5
import Derived.Test.YtoimakfecmhjkaaGreatG4
import Derived.Test.YtoimakfecmhjkaaGreatG3
import Derived.Test.YtoimakfecmhjkaaGreatG2

/- Walks by the abstract machine: Sweep. Conditions: as each theorem states. -/
namespace Go.Proofs.YtoimakfecmhjkaaGreat
set_option linter.unusedSimpArgs false
set_option linter.unusedVariables false
open Go.RowKit
set_option maxHeartbeats 4000000 in
set_option maxRecDepth 100000 in
theorem sweep_c (H : AHeap) (x0 : Int) (y0 : Int) (x1 : Int) (y1 : Int) (h : Int) (t : Int) (f : Int) (tu : Int) (le : Int) (sl : Int) (ra : Int) : ACalls Tryz.prog 13 [.agg [.int .i64 x0, .int .i64 y0, .int .i64 x1, .int .i64 y1], .int .i64 h, .agg [.int .i64 t, .int .i64 f], .agg [.int .i64 tu, .int .i64 le, .int .i64 sl, .int .i64 ra]] H (fun v H' => v = .tup [.agg [.int .i64 (mkX (sweE x0 y0 x1 y1 h t f tu le sl ra) (sweX x0 x1 h f le)), .int .i64 (mkX (sweE x0 y0 x1 y1 h t f tu le sl ra) (sweY y0 y1 h f le)), .sl (some (H.length, 0)) ((mkL (sweE x0 y0 x1 y1 h t f tu le sl ra) (sweL x0 y0 x1 y1 h f le sl)).length) (capG (mkL (sweE x0 y0 x1 y1 h t f tu le sl ra) (sweL x0 y0 x1 y1 h f le sl)).length)], .int .i64 (sweE x0 y0 x1 y1 h t f tu le sl ra)] ∧ H' = H ++ [.cells (ownG (mkL (sweE x0 y0 x1 y1 h t f tu le sl ra) (sweL x0 y0 x1 y1 h f le sl)).length) 2 (prs (mkL (sweE x0 y0 x1 y1 h t f tu le sl ra) (sweL x0 y0 x1 y1 h f le sl)))]) := by
  have hwx : (f + le) * (dirV h).1 / (dirV h).2.2 = wayX h (f + le) := rfl
  have hwy : (f + le) * (dirV h).2.1 / (dirV h).2.2 = wayY h (f + le) := rfl
  (refine ACalls_pieces Tryz.func13 _ rfl (Nat.le_of_ble_eq_true (by kernel_rfl)) rfl ?_; intro hbel Q hQ hQ' c hc; unfold Tryz.f13 at hc; simp only [Option.some.injEq] at hc; subst hc; clear hQ')
  refine AW_step false try_mixed (by kernel_rfl) (fun F Hx => look F 1 = .int .i64 h ∧ look F 4 = .ptr (some (H.length, 0)) ∧ look F 6 = .ptr (some (H.length + 1, 0)) ∧ look F 7 = .ptr (some (H.length + 2, 0)) ∧ look F 8 = .ptr (some (H.length + 3, 0)) ∧ look F 9 = .int .i64 0 ∧ Hx = H ++ [.cells true 0 [.int .i64 x0, .int .i64 y0, .int .i64 x1, .int .i64 y1], .cells true 0 [.int .i64 t, .int .i64 f], .cells true 0 [.int .i64 tu, .int .i64 le, .int .i64 sl, .int .i64 ra], .cells true 0 [.int .i64 0, .int .i64 0, .sl none 0 (some 0)]]) ?_ ?_
  · skip
    have g'1 := (jn @hwx @hwy)
    refine runTf g'1 ?_
    refine inv_of ?_
    exact absT
  rintro F Hx ⟨f1, f2, f3, f4, f5, f6, rfl⟩
  refine AW_step false try_mixed (by kernel_rfl) (fun F Hx => within x0 1048576 = true ∧ within y0 1048576 = true ∧ within x1 1048576 = true ∧ within y1 1048576 = true ∧ (btw (x1 - x0) 0 32768) = true ∧ (btw (y1 - y0) 0 32768) = true ∧ cmdB t f = true ∧ bndB tu le sl ra = true ∧ look F 1 = .int .i64 h ∧ look F 4 = .ptr (some (H.length, 0)) ∧ look F 6 = .ptr (some (H.length + 1, 0)) ∧ look F 7 = .ptr (some (H.length + 2, 0)) ∧ look F 8 = .ptr (some (H.length + 3, 0)) ∧ look F 9 = .int .i64 0 ∧ Hx = H ++ [.cells true 0 [.int .i64 x0, .int .i64 y0, .int .i64 x1, .int .i64 y1], .cells true 0 [.int .i64 t, .int .i64 f], .cells true 0 [.int .i64 tu, .int .i64 le, .int .i64 sl, .int .i64 ra], .cells true 0 [.int .i64 0, .int .i64 0, .sl none 0 (some 0)]]) ?_ ?_
  · skip
    have g'2 := (jn @f1 (jn @f2 (jn @f3 (jn @f4 (jn @f5 (jn @f6 (jn @hwx @hwy)))))))
    refine runTf g'2 ?_
    refine call_v (by kernel_rfl) (mnear_c _ x0) ?_
    refine runTf g'2 ?_
    refine gd_split (fun h7 => ?_) (fun h7 => ?_)
    · have h7d := h7
      try simp only [boolset, beq_iff_eq, ne_eq] at h7d
      have hwx0 := within_iff.1 h7d
      have g'3 := (jn @h7 (jn @h7d g'2))
      refine runTf g'3 ?_
      refine call_v (by kernel_rfl) (mnear_c _ y0) ?_
      refine runTf g'3 ?_
      refine gd_split (fun h8 => ?_) (fun h8 => ?_)
      · have h8d := h8
        try simp only [boolset, beq_iff_eq, ne_eq] at h8d
        have hwy0 := within_iff.1 h8d
        have g'4 := (jn @h8 (jn @h8d g'3))
        refine runTf g'4 ?_
        refine call_v (by kernel_rfl) (mnear_c _ x1) ?_
        refine runTf g'4 ?_
        refine gd_split (fun h9 => ?_) (fun h9 => ?_)
        · have h9d := h9
          try simp only [boolset, beq_iff_eq, ne_eq] at h9d
          have hwx1 := within_iff.1 h9d
          have g'5 := (jn @h9 (jn @h9d g'4))
          refine runTf g'5 ?_
          refine call_v (by kernel_rfl) (mnear_c _ y1) ?_
          refine runTf g'5 ?_
          refine gd_split (fun h10 => ?_) (fun h10 => ?_)
          · have h10d := h10
            try simp only [boolset, beq_iff_eq, ne_eq] at h10d
            have hwy1 := within_iff.1 h10d
            have g'6 := (jn @h10 (jn @h10d g'5))
            refine runTf g'6 ?_
            refine call_v (by kernel_rfl) (mwithin_c _ (x1 - x0) 0 32768) ?_
            refine runTf g'6 ?_
            refine gd_split (fun h11 => ?_) (fun h11 => ?_)
            · have h11d := h11
              try simp only [boolset, beq_iff_eq, ne_eq] at h11d
              have g'7 := (jn @h11 (jn @h11d g'6))
              refine runTf g'7 ?_
              refine call_v (by kernel_rfl) (mwithin_c _ (y1 - y0) 0 32768) ?_
              refine runTf g'7 ?_
              refine gd_split (fun h12 => ?_) (fun h12 => ?_)
              · have h12d := h12
                try simp only [boolset, beq_iff_eq, ne_eq] at h12d
                have g'8 := (jn @h12 (jn @h12d g'7))
                refine runTf g'8 ?_
                refine call_v (by kernel_rfl) (vcmd_c _ t f) ?_
                refine runTf g'8 ?_
                refine gd_split (fun h13 => ?_) (fun h13 => ?_)
                · have h13d := h13
                  try simp only [boolset, beq_iff_eq, ne_eq] at h13d
                  have g'9 := (jn @h13 (jn @h13d g'8))
                  refine runTf g'9 ?_
                  refine call_v (by kernel_rfl) (vbnd_c _ tu le sl ra) ?_
                  refine runTf g'9 ?_
                  refine cond_split (fun h14 => ?_) (fun h14 => ?_)
                  · have h14d := h14
                    try simp only [boolset, beq_iff_eq, ne_eq] at h14d
                    have g'10 := (jn @h14 (jn @h14d g'9))
                    refine runTf g'10 ?_
                    refine hQ _ _ (end_byG (.inl rfl) hbel (x1 := .tup [.agg [.int .i64 0, .int .i64 0, .sl none 0 (some 0)], .int .i64 1]) (l2 := [.cells false 2 []]) (.tup [.agg [.int .i64 0, .int .i64 0, .sl (some (H.length, 0)) 0 (some 0)], .int .i64 1]) (resTf (jn @f1 (jn @f2 (jn @f3 (jn @f4 (jn @f5 @f6))))) Tryz.results13) [.cells false 2 []] rfl [4] (by decide) ⟨by first | (simp [mkX, mkL, sweE, sweB, capG_0, ownG_0, prs_nil, h7d, h8d, h9d, h10d, h11d, h12d, h13d, h14d]; done) | (simp [mkX, mkL, sweE, hok, capG_0, ownG_0, prs_nil, h7d, h8d, h9d, h10d, h11d, h12d, h13d, h14d]; done) | (rw [hfinE]; simp only [mkX_0, mkL_0, sweX, sweY, sweL, wayL, hlf, hfinF, if_true, if_false, sw_eq, ← sw_eq0, Int.add_zero]), by first | (simp [mkX, mkL, sweE, sweB, capG_0, ownG_0, prs_nil, h7d, h8d, h9d, h10d, h11d, h12d, h13d, h14d]; done) | (simp [mkX, mkL, sweE, hok, capG_0, ownG_0, prs_nil, h7d, h8d, h9d, h10d, h11d, h12d, h13d, h14d]; done) | (rw [hfinE]; simp only [mkX_0, mkL_0, sweX, sweY, sweL, wayL, hlf, hfinF, if_true, if_false, sw_eq, ← sw_eq0, Int.add_zero])⟩ ?_)
                    exact absW
                  · have h14d := h14
                    try simp only [boolset, beq_iff_eq, ne_eq] at h14d
                    have g'11 := (jn @h14 (jn @h14d g'9))
                    refine runTf g'11 ?_
                    refine inv_of ?_
                    exact absTf (jn @f1 (jn @f2 (jn @f3 (jn @f4 (jn @f5 @f6)))))
                · have h13d := h13
                  try simp only [boolset, beq_iff_eq, ne_eq] at h13d
                  have g'12 := (jn @h13 (jn @h13d g'8))
                  refine runTf g'12 ?_
                  refine hQ _ _ (end_byG (.inl rfl) hbel (x1 := .tup [.agg [.int .i64 0, .int .i64 0, .sl none 0 (some 0)], .int .i64 1]) (l2 := [.cells false 2 []]) (.tup [.agg [.int .i64 0, .int .i64 0, .sl (some (H.length, 0)) 0 (some 0)], .int .i64 1]) (resTf (jn @f1 (jn @f2 (jn @f3 (jn @f4 (jn @f5 @f6))))) Tryz.results13) [.cells false 2 []] rfl [4] (by decide) ⟨by first | (simp [mkX, mkL, sweE, sweB, capG_0, ownG_0, prs_nil, h7d, h8d, h9d, h10d, h11d, h12d, h13d]; done) | (simp [mkX, mkL, sweE, hok, capG_0, ownG_0, prs_nil, h7d, h8d, h9d, h10d, h11d, h12d, h13d]; done) | (rw [hfinE]; simp only [mkX_0, mkL_0, sweX, sweY, sweL, wayL, hlf, hfinF, if_true, if_false, sw_eq, ← sw_eq0, Int.add_zero]), by first | (simp [mkX, mkL, sweE, sweB, capG_0, ownG_0, prs_nil, h7d, h8d, h9d, h10d, h11d, h12d, h13d]; done) | (simp [mkX, mkL, sweE, hok, capG_0, ownG_0, prs_nil, h7d, h8d, h9d, h10d, h11d, h12d, h13d]; done) | (rw [hfinE]; simp only [mkX_0, mkL_0, sweX, sweY, sweL, wayL, hlf, hfinF, if_true, if_false, sw_eq, ← sw_eq0, Int.add_zero])⟩ ?_)
                  exact absW
              · have h12d := h12
                try simp only [boolset, beq_iff_eq, ne_eq] at h12d
                have g'13 := (jn @h12 (jn @h12d g'7))
                refine runTf g'13 ?_
                refine hQ _ _ (end_byG (.inl rfl) hbel (x1 := .tup [.agg [.int .i64 0, .int .i64 0, .sl none 0 (some 0)], .int .i64 1]) (l2 := [.cells false 2 []]) (.tup [.agg [.int .i64 0, .int .i64 0, .sl (some (H.length, 0)) 0 (some 0)], .int .i64 1]) (resTf (jn @f1 (jn @f2 (jn @f3 (jn @f4 (jn @f5 @f6))))) Tryz.results13) [.cells false 2 []] rfl [4] (by decide) ⟨by first | (simp [mkX, mkL, sweE, sweB, capG_0, ownG_0, prs_nil, h7d, h8d, h9d, h10d, h11d, h12d]; done) | (simp [mkX, mkL, sweE, hok, capG_0, ownG_0, prs_nil, h7d, h8d, h9d, h10d, h11d, h12d]; done) | (rw [hfinE]; simp only [mkX_0, mkL_0, sweX, sweY, sweL, wayL, hlf, hfinF, if_true, if_false, sw_eq, ← sw_eq0, Int.add_zero]), by first | (simp [mkX, mkL, sweE, sweB, capG_0, ownG_0, prs_nil, h7d, h8d, h9d, h10d, h11d, h12d]; done) | (simp [mkX, mkL, sweE, hok, capG_0, ownG_0, prs_nil, h7d, h8d, h9d, h10d, h11d, h12d]; done) | (rw [hfinE]; simp only [mkX_0, mkL_0, sweX, sweY, sweL, wayL, hlf, hfinF, if_true, if_false, sw_eq, ← sw_eq0, Int.add_zero])⟩ ?_)
                exact absW
            · have h11d := h11
              try simp only [boolset, beq_iff_eq, ne_eq] at h11d
              have g'14 := (jn @h11 (jn @h11d g'6))
              refine runTf g'14 ?_
              refine hQ _ _ (end_byG (.inl rfl) hbel (x1 := .tup [.agg [.int .i64 0, .int .i64 0, .sl none 0 (some 0)], .int .i64 1]) (l2 := [.cells false 2 []]) (.tup [.agg [.int .i64 0, .int .i64 0, .sl (some (H.length, 0)) 0 (some 0)], .int .i64 1]) (resTf (jn @f1 (jn @f2 (jn @f3 (jn @f4 (jn @f5 @f6))))) Tryz.results13) [.cells false 2 []] rfl [4] (by decide) ⟨by first | (simp [mkX, mkL, sweE, sweB, capG_0, ownG_0, prs_nil, h7d, h8d, h9d, h10d, h11d]; done) | (simp [mkX, mkL, sweE, hok, capG_0, ownG_0, prs_nil, h7d, h8d, h9d, h10d, h11d]; done) | (rw [hfinE]; simp only [mkX_0, mkL_0, sweX, sweY, sweL, wayL, hlf, hfinF, if_true, if_false, sw_eq, ← sw_eq0, Int.add_zero]), by first | (simp [mkX, mkL, sweE, sweB, capG_0, ownG_0, prs_nil, h7d, h8d, h9d, h10d, h11d]; done) | (simp [mkX, mkL, sweE, hok, capG_0, ownG_0, prs_nil, h7d, h8d, h9d, h10d, h11d]; done) | (rw [hfinE]; simp only [mkX_0, mkL_0, sweX, sweY, sweL, wayL, hlf, hfinF, if_true, if_false, sw_eq, ← sw_eq0, Int.add_zero])⟩ ?_)
              exact absW
          · have h10d := h10
            try simp only [boolset, beq_iff_eq, ne_eq] at h10d
            have g'15 := (jn @h10 (jn @h10d g'5))
            refine runTf g'15 ?_
            refine hQ _ _ (end_byG (.inl rfl) hbel (x1 := .tup [.agg [.int .i64 0, .int .i64 0, .sl none 0 (some 0)], .int .i64 1]) (l2 := [.cells false 2 []]) (.tup [.agg [.int .i64 0, .int .i64 0, .sl (some (H.length, 0)) 0 (some 0)], .int .i64 1]) (resTf (jn @f1 (jn @f2 (jn @f3 (jn @f4 (jn @f5 @f6))))) Tryz.results13) [.cells false 2 []] rfl [4] (by decide) ⟨by first | (simp [mkX, mkL, sweE, sweB, capG_0, ownG_0, prs_nil, h7d, h8d, h9d, h10d]; done) | (simp [mkX, mkL, sweE, hok, capG_0, ownG_0, prs_nil, h7d, h8d, h9d, h10d]; done) | (rw [hfinE]; simp only [mkX_0, mkL_0, sweX, sweY, sweL, wayL, hlf, hfinF, if_true, if_false, sw_eq, ← sw_eq0, Int.add_zero]), by first | (simp [mkX, mkL, sweE, sweB, capG_0, ownG_0, prs_nil, h7d, h8d, h9d, h10d]; done) | (simp [mkX, mkL, sweE, hok, capG_0, ownG_0, prs_nil, h7d, h8d, h9d, h10d]; done) | (rw [hfinE]; simp only [mkX_0, mkL_0, sweX, sweY, sweL, wayL, hlf, hfinF, if_true, if_false, sw_eq, ← sw_eq0, Int.add_zero])⟩ ?_)
            exact absW
        · have h9d := h9
          try simp only [boolset, beq_iff_eq, ne_eq] at h9d
          have g'16 := (jn @h9 (jn @h9d g'4))
          refine runTf g'16 ?_
          refine hQ _ _ (end_byG (.inl rfl) hbel (x1 := .tup [.agg [.int .i64 0, .int .i64 0, .sl none 0 (some 0)], .int .i64 1]) (l2 := [.cells false 2 []]) (.tup [.agg [.int .i64 0, .int .i64 0, .sl (some (H.length, 0)) 0 (some 0)], .int .i64 1]) (resTf (jn @f1 (jn @f2 (jn @f3 (jn @f4 (jn @f5 @f6))))) Tryz.results13) [.cells false 2 []] rfl [4] (by decide) ⟨by first | (simp [mkX, mkL, sweE, sweB, capG_0, ownG_0, prs_nil, h7d, h8d, h9d]; done) | (simp [mkX, mkL, sweE, hok, capG_0, ownG_0, prs_nil, h7d, h8d, h9d]; done) | (rw [hfinE]; simp only [mkX_0, mkL_0, sweX, sweY, sweL, wayL, hlf, hfinF, if_true, if_false, sw_eq, ← sw_eq0, Int.add_zero]), by first | (simp [mkX, mkL, sweE, sweB, capG_0, ownG_0, prs_nil, h7d, h8d, h9d]; done) | (simp [mkX, mkL, sweE, hok, capG_0, ownG_0, prs_nil, h7d, h8d, h9d]; done) | (rw [hfinE]; simp only [mkX_0, mkL_0, sweX, sweY, sweL, wayL, hlf, hfinF, if_true, if_false, sw_eq, ← sw_eq0, Int.add_zero])⟩ ?_)
          exact absW
      · have h8d := h8
        try simp only [boolset, beq_iff_eq, ne_eq] at h8d
        have g'17 := (jn @h8 (jn @h8d g'3))
        refine runTf g'17 ?_
        refine hQ _ _ (end_byG (.inl rfl) hbel (x1 := .tup [.agg [.int .i64 0, .int .i64 0, .sl none 0 (some 0)], .int .i64 1]) (l2 := [.cells false 2 []]) (.tup [.agg [.int .i64 0, .int .i64 0, .sl (some (H.length, 0)) 0 (some 0)], .int .i64 1]) (resTf (jn @f1 (jn @f2 (jn @f3 (jn @f4 (jn @f5 @f6))))) Tryz.results13) [.cells false 2 []] rfl [4] (by decide) ⟨by first | (simp [mkX, mkL, sweE, sweB, capG_0, ownG_0, prs_nil, h7d, h8d]; done) | (simp [mkX, mkL, sweE, hok, capG_0, ownG_0, prs_nil, h7d, h8d]; done) | (rw [hfinE]; simp only [mkX_0, mkL_0, sweX, sweY, sweL, wayL, hlf, hfinF, if_true, if_false, sw_eq, ← sw_eq0, Int.add_zero]), by first | (simp [mkX, mkL, sweE, sweB, capG_0, ownG_0, prs_nil, h7d, h8d]; done) | (simp [mkX, mkL, sweE, hok, capG_0, ownG_0, prs_nil, h7d, h8d]; done) | (rw [hfinE]; simp only [mkX_0, mkL_0, sweX, sweY, sweL, wayL, hlf, hfinF, if_true, if_false, sw_eq, ← sw_eq0, Int.add_zero])⟩ ?_)
        exact absW
    · have h7d := h7
      try simp only [boolset, beq_iff_eq, ne_eq] at h7d
      have g'18 := (jn @h7 (jn @h7d g'2))
      refine runTf g'18 ?_
      refine hQ _ _ (end_byG (.inl rfl) hbel (x1 := .tup [.agg [.int .i64 0, .int .i64 0, .sl none 0 (some 0)], .int .i64 1]) (l2 := [.cells false 2 []]) (.tup [.agg [.int .i64 0, .int .i64 0, .sl (some (H.length, 0)) 0 (some 0)], .int .i64 1]) (resTf (jn @f1 (jn @f2 (jn @f3 (jn @f4 (jn @f5 @f6))))) Tryz.results13) [.cells false 2 []] rfl [4] (by decide) ⟨by first | (simp [mkX, mkL, sweE, sweB, capG_0, ownG_0, prs_nil, h7d]; done) | (simp [mkX, mkL, sweE, hok, capG_0, ownG_0, prs_nil, h7d]; done) | (rw [hfinE]; simp only [mkX_0, mkL_0, sweX, sweY, sweL, wayL, hlf, hfinF, if_true, if_false, sw_eq, ← sw_eq0, Int.add_zero]), by first | (simp [mkX, mkL, sweE, sweB, capG_0, ownG_0, prs_nil, h7d]; done) | (simp [mkX, mkL, sweE, hok, capG_0, ownG_0, prs_nil, h7d]; done) | (rw [hfinE]; simp only [mkX_0, mkL_0, sweX, sweY, sweL, wayL, hlf, hfinF, if_true, if_false, sw_eq, ← sw_eq0, Int.add_zero])⟩ ?_)
      exact absW
  rintro F Hx ⟨h15d, h16d, h17d, h18d, h19d, h20d, h21d, h22d, f23, f24, f25, f26, f27, f28, rfl⟩
  have hok : sweB x0 y0 x1 y1 t f tu le sl ra = true := by unfold sweB; rw [h15d, h16d, h17d, h18d, h19d, h20d, h21d, h22d]; rfl
  have hbd := swe_bd hok
  have hre : rectE x0 y0 x1 y1 = 0 := if_pos ⟨by unfold far4; simp only [Bool.and_eq_true, within_iff]; omega, by omega, by omega, by omega, by omega⟩
  have hrs := rec_spr (x0 := x0) (y0 := y0) (x1 := x1) (y1 := y1) (by omega) (by omega)
  have hq1 := sqr_spr (a := 20) (by omega)
  have hq2 := sqr_spr (a := sl + 21) (by omega)
  refine AW_step false try_mixed (by kernel_rfl) (fun F Hx => btw h 0 255 = true ∧ look F 1 = .int .i64 h ∧ look F 4 = .ptr (some (H.length, 0)) ∧ look F 6 = .ptr (some (H.length + 1, 0)) ∧ look F 7 = .ptr (some (H.length + 2, 0)) ∧ look F 8 = .ptr (some (H.length + 3, 0)) ∧ look F 9 = .int .i64 0 ∧ Hx = H ++ [.cells true 0 [.int .i64 x0, .int .i64 y0, .int .i64 x1, .int .i64 y1], .cells true 0 [.int .i64 t, .int .i64 f], .cells true 0 [.int .i64 tu, .int .i64 le, .int .i64 sl, .int .i64 ra], .cells true 0 [.int .i64 0, .int .i64 0, .sl none 0 (some 0)]]) ?_ ?_
  · skip
    have g'19 := (jn @f1 (jn @f2 (jn @f3 (jn @f4 (jn @f5 (jn @f6 (jn @f23 (jn @f24 (jn @f25 (jn @f26 (jn @f27 (jn @f28 (jn @h15d (jn @h16d (jn @h17d (jn @h18d (jn @h19d (jn @h20d (jn @h21d (jn @h22d (jn @hwx @hwy)))))))))))))))))))))
    refine runTf g'19 ?_
    refine call_v (by kernel_rfl) (mwithin_c _ h 0 255) ?_
    refine runTf g'19 ?_
    refine cond_split (fun h29 => ?_) (fun h29 => ?_)
    · have h29d := h29
      try simp only [boolset, beq_iff_eq, ne_eq] at h29d
      have g'20 := (jn @h29 (jn @h29d g'19))
      refine runTf g'20 ?_
      refine hQ _ _ (end_byG (.inl rfl) hbel (x1 := .tup [.agg [.int .i64 0, .int .i64 0, .sl none 0 (some 0)], .int .i64 2]) (l2 := [.cells false 2 []]) (.tup [.agg [.int .i64 0, .int .i64 0, .sl (some (H.length, 0)) 0 (some 0)], .int .i64 2]) (resTf (jn @f1 (jn @f2 (jn @f3 (jn @f4 (jn @f5 (jn @f6 (jn @f23 (jn @f24 (jn @f25 (jn @f26 (jn @f27 @f28))))))))))) Tryz.results13) [.cells false 2 []] rfl [4] (by decide) ⟨by first | (simp [mkX, mkL, sweE, sweB, capG_0, ownG_0, prs_nil, h15d, h16d, h17d, h18d, h19d, h20d, h21d, h22d, h29d]; done) | (simp [mkX, mkL, sweE, hok, capG_0, ownG_0, prs_nil, h15d, h16d, h17d, h18d, h19d, h20d, h21d, h22d, h29d]; done) | (rw [hfinE]; simp only [mkX_0, mkL_0, sweX, sweY, sweL, wayL, hlf, hfinF, if_true, if_false, sw_eq, ← sw_eq0, Int.add_zero]), by first | (simp [mkX, mkL, sweE, sweB, capG_0, ownG_0, prs_nil, h15d, h16d, h17d, h18d, h19d, h20d, h21d, h22d, h29d]; done) | (simp [mkX, mkL, sweE, hok, capG_0, ownG_0, prs_nil, h15d, h16d, h17d, h18d, h19d, h20d, h21d, h22d, h29d]; done) | (rw [hfinE]; simp only [mkX_0, mkL_0, sweX, sweY, sweL, wayL, hlf, hfinF, if_true, if_false, sw_eq, ← sw_eq0, Int.add_zero])⟩ ?_)
      exact absW
    · have h29d := h29
      try simp only [boolset, beq_iff_eq, ne_eq] at h29d
      have g'21 := (jn @h29 (jn @h29d g'19))
      refine runTf g'21 ?_
      refine inv_of ?_
      exact absTf (jn @f1 (jn @f2 (jn @f3 (jn @f4 (jn @f5 (jn @f6 (jn @f23 (jn @f24 (jn @f25 (jn @f26 (jn @f27 @f28)))))))))))
  rintro F Hx ⟨h30d, f31, f32, f33, f34, f35, f36, rfl⟩
  have hfinE : sweE x0 y0 x1 y1 h t f tu le sl ra = 0 := by unfold sweE; rw [hok, h30d]; rfl
  have hz0 : sumE (x0 + x1) (y0 + y1) (canonL (recL x0 y0 x1 y1)) 0 0 (canonL (sqrL 20)) = 0 := sum_ok (by omega) (by omega) (by omega) (by omega) (by simp [recL, sqrL]) (by omega) (by omega)
  refine AW_step false try_mixed (by kernel_rfl) (fun F Hx => look F 1 = .int .i64 h ∧ look F 6 = .ptr (some (H.length + 1, 0)) ∧ look F 7 = .ptr (some (H.length + 2, 0)) ∧ look F 8 = .ptr (some (H.length + 3, 0)) ∧ look F 9 = .int .i64 0 ∧ look F 10 = .ptr (some (H.length + 5, 0)) ∧ Hx = H ++ [.cells true 0 [.int .i64 x0, .int .i64 y0, .int .i64 x1, .int .i64 y1], .cells true 0 [.int .i64 t, .int .i64 f], .cells true 0 [.int .i64 tu, .int .i64 le, .int .i64 sl, .int .i64 ra], .cells true 0 [.int .i64 0, .int .i64 0, .sl none 0 (some 0)], .cells (ownG (canonL (recL x0 y0 x1 y1)).length) 2 (prs (canonL (recL x0 y0 x1 y1))), .cells true 0 [.int .i64 (x0 + x1), .int .i64 (y0 + y1), .sl (some (H.length + 4, 0)) ((canonL (recL x0 y0 x1 y1)).length) (capG (canonL (recL x0 y0 x1 y1)).length)]]) ?_ ?_
  · skip
    have g'22 := (jn @f1 (jn @f2 (jn @f3 (jn @f4 (jn @f5 (jn @f6 (jn @f23 (jn @f24 (jn @f25 (jn @f26 (jn @f27 (jn @f28 (jn @h15d (jn @h16d (jn @h17d (jn @h18d (jn @h19d (jn @h20d (jn @h21d (jn @h22d (jn @f31 (jn @f32 (jn @f33 (jn @f34 (jn @f35 (jn @f36 (jn @h30d (jn @hwx @hwy))))))))))))))))))))))))))))
    refine runTf g'22 ?_
    refine call_v (by kernel_rfl) (ofrect_0 _ x0 y0 x1 y1 (by assumption)) ?_
    refine runTf g'22 ?_
    refine inv_of ?_
    exact absTf (jn @f1 (jn @f2 (jn @f3 (jn @f4 (jn @f5 (jn @f6 (jn @f23 (jn @f24 (jn @f25 (jn @f26 (jn @f27 (jn @f28 (jn @f31 (jn @f32 (jn @f33 (jn @f34 (jn @f35 @f36)))))))))))))))))
  rintro F Hx ⟨f37, f38, f39, f40, f41, f42, rfl⟩
  refine AW_step false try_mixed (by kernel_rfl) (fun F Hx => (f == 0) = false ∧ look F 1 = .int .i64 h ∧ look F 6 = .ptr (some (H.length + 1, 0)) ∧ look F 7 = .ptr (some (H.length + 2, 0)) ∧ look F 8 = .ptr (some (H.length + 3, 0)) ∧ look F 9 = .int .i64 0 ∧ look F 10 = .ptr (some (H.length + 5, 0)) ∧ Hx = H ++ [.cells true 0 [.int .i64 x0, .int .i64 y0, .int .i64 x1, .int .i64 y1], .cells true 0 [.int .i64 t, .int .i64 f], .cells true 0 [.int .i64 tu, .int .i64 le, .int .i64 sl, .int .i64 ra], .cells true 0 [.int .i64 0, .int .i64 0, .sl none 0 (some 0)], .cells (ownG (canonL (recL x0 y0 x1 y1)).length) 2 (prs (canonL (recL x0 y0 x1 y1))), .cells true 0 [.int .i64 (x0 + x1), .int .i64 (y0 + y1), .sl (some (H.length + 4, 0)) ((canonL (recL x0 y0 x1 y1)).length) (capG (canonL (recL x0 y0 x1 y1)).length)]]) ?_ ?_
  · skip
    have g'23 := (jn @f1 (jn @f2 (jn @f3 (jn @f4 (jn @f5 (jn @f6 (jn @f23 (jn @f24 (jn @f25 (jn @f26 (jn @f27 (jn @f28 (jn @h15d (jn @h16d (jn @h17d (jn @h18d (jn @h19d (jn @h20d (jn @h21d (jn @h22d (jn @f31 (jn @f32 (jn @f33 (jn @f34 (jn @f35 (jn @f36 (jn @h30d (jn @f37 (jn @f38 (jn @f39 (jn @f40 (jn @f41 (jn @f42 (jn @hwx @hwy))))))))))))))))))))))))))))))))))
    refine runTf g'23 ?_
    refine cond_split (fun h43 => ?_) (fun h43 => ?_)
    · have h43d := h43
      try simp only [boolset, beq_iff_eq, ne_eq] at h43d
      have hfinF : f = 0 := h43d
      have g'24 := (jn @h43 (jn @h43d (jn @int_bne (jn @int_beq g'23))))
      refine runTf g'24 ?_
      refine call_x (by kernel_rfl) (by simp) (square_c _ 20 (by omega)) ?_
      refine runTf g'24 ?_
      refine call_x (by kernel_rfl) (by simp) (Sum_0 _ (x0 + x1) (y0 + y1) _ (canonL (recL x0 y0 x1 y1)) 0 0 _ (canonL (sqrL 20)) ⟨_, _, _, by first | rfl | (rw [List.length_append]; done) | (rw [List.length_append]; rfl), by first | rfl | (rw [get_newk]; rfl) | (rw [get_new0]; rfl) | (rw [get_newk, prs_append]; rfl) | (rw [get_new0, prs_append]; rfl)⟩ ⟨_, _, _, by first | rfl | (rw [List.length_append]; done) | (rw [List.length_append]; rfl), by first | rfl | (rw [get_newk]; rfl) | (rw [get_new0]; rfl) | (rw [get_newk, prs_append]; rfl) | (rw [get_new0, prs_append]; rfl)⟩ (by assumption)) ?_
      refine runTf g'24 ?_
      refine hQ _ _ (end_byG (.inl rfl) hbel (x1 := .tup [.agg [.int .i64 ((x0 + x1) + 0), .int .i64 ((y0 + y1) + 0), .sl (some (H.length + 7, 0)) ((canonL ((canonL (recL x0 y0 x1 y1)) ++ (canonL (sqrL 20)))).length) (capG (canonL ((canonL (recL x0 y0 x1 y1)) ++ (canonL (sqrL 20)))).length)], .int .i64 0]) (l2 := [.cells (ownG (canonL ((canonL (recL x0 y0 x1 y1)) ++ (canonL (sqrL 20)))).length) 2 (prs (canonL ((canonL (recL x0 y0 x1 y1)) ++ (canonL (sqrL 20)))))]) (.tup [.agg [.int .i64 ((x0 + x1) + 0), .int .i64 ((y0 + y1) + 0), .sl (some (H.length, 0)) ((canonL ((canonL (recL x0 y0 x1 y1)) ++ (canonL (sqrL 20)))).length) (capG (canonL ((canonL (recL x0 y0 x1 y1)) ++ (canonL (sqrL 20)))).length)], .int .i64 0]) (resTf (jn @f1 (jn @f2 (jn @f3 (jn @f4 (jn @f5 (jn @f6 (jn @f23 (jn @f24 (jn @f25 (jn @f26 (jn @f27 (jn @f28 (jn @f31 (jn @f32 (jn @f33 (jn @f34 (jn @f35 (jn @f36 (jn @f37 (jn @f38 (jn @f39 (jn @f40 (jn @f41 @f42))))))))))))))))))))))) Tryz.results13) [] rfl [7] (by decide) ⟨by first | (simp [mkX, mkL, sweE, sweB, capG_0, ownG_0, prs_nil, h15d, h16d, h17d, h18d, h19d, h20d, h21d, h22d, h30d, h43d, hfinE, hfinF]; done) | (simp [mkX, mkL, sweE, hok, capG_0, ownG_0, prs_nil, h15d, h16d, h17d, h18d, h19d, h20d, h21d, h22d, h30d, h43d, hfinE, hfinF]; done) | (rw [hfinE]; simp only [mkX_0, mkL_0, sweX, sweY, sweL, wayL, hlf, hfinF, if_true, if_false, sw_eq, ← sw_eq0, Int.add_zero]), by first | (simp [mkX, mkL, sweE, sweB, capG_0, ownG_0, prs_nil, h15d, h16d, h17d, h18d, h19d, h20d, h21d, h22d, h30d, h43d, hfinE, hfinF]; done) | (simp [mkX, mkL, sweE, hok, capG_0, ownG_0, prs_nil, h15d, h16d, h17d, h18d, h19d, h20d, h21d, h22d, h30d, h43d, hfinE, hfinF]; done) | (rw [hfinE]; simp only [mkX_0, mkL_0, sweX, sweY, sweL, wayL, hlf, hfinF, if_true, if_false, sw_eq, ← sw_eq0, Int.add_zero])⟩ ?_)
      exact absW
    · have h43d := h43
      try simp only [boolset, beq_iff_eq, ne_eq] at h43d
      have g'25 := (jn @h43 (jn @h43d (jn @int_bne (jn @int_beq g'23))))
      refine runTf g'25 ?_
      refine inv_of ?_
      exact absTf (jn @f1 (jn @f2 (jn @f3 (jn @f4 (jn @f5 (jn @f6 (jn @f23 (jn @f24 (jn @f25 (jn @f26 (jn @f27 (jn @f28 (jn @f31 (jn @f32 (jn @f33 (jn @f34 (jn @f35 (jn @f36 (jn @f37 (jn @f38 (jn @f39 (jn @f40 (jn @f41 @f42)))))))))))))))))))))))
  rintro F Hx ⟨h44d, f45, f46, f47, f48, f49, f50, rfl⟩
  have hfinF : ¬ f = 0 := by simpa using h44d
  have hdv := vecOK_iff.1 (dirV_ok h)
  have hpx := mul_bd (a := f + le) (b := (dirV h).1) (A := 48) (B := 8065) (by omega) (by omega)
  have hpy := mul_bd (a := f + le) (b := (dirV h).2.1) (A := 48) (B := 8065) (by omega) (by omega)
  have hwb := way_bd h (m := f + le) (by omega)
  have hws := way_spr (h := h) (m := f + le) (by omega)
  have hwe : segE 0 0 (wayX h (f + le)) (wayY h (f + le)) = 0 := if_pos ⟨by unfold far4; simp only [Bool.and_eq_true, within_iff]; omega, by rw [within_iff]; omega, by rw [within_iff]; omega⟩
  have hz1 : sumE (x0 + x1) (y0 + y1) (canonL (recL x0 y0 x1 y1)) (wayX h (f + le)) (wayY h (f + le)) (canonL [(wayX h (f + le), wayY h (f + le))]) = 0 := sum_ok (by omega) (by omega) (by omega) (by omega) (by simp [recL]) (by omega) (by omega)
  have hz2 : sumE (x0 + x1 + wayX h (f + le)) (y0 + y1 + wayY h (f + le)) (canonL (canonL (recL x0 y0 x1 y1) ++ canonL [(wayX h (f + le), wayY h (f + le))])) 0 0 (canonL (sqrL (sl + 21))) = 0 := sum_ok (by omega) (by omega) (by omega) (by omega) (by have a1 := canonL_len (recL x0 y0 x1 y1); have a2 := canonL_len [(wayX h (f + le), wayY h (f + le))]; have a3 : (recL x0 y0 x1 y1).length = 2 := rfl; have a4 : (sqrL (sl + 21)).length = 2 := rfl; rw [List.length_append]; simp only [List.length_cons, List.length_nil] at a2; omega) (by rw [spr_app, spr_canon, spr_canon]; omega) (by rw [spr_app, spr_canon, spr_canon]; omega)
  refine AW_special false try_mixed [[0, 1, 2, 3, 4, 5, 6, 7, 8, 9], [0, 1, 2, 3, 4, 7, 8, 5, 6, 9], [0, 1, 2, 4, 5, 7, 8, 3, 6, 9], [0, 1, 2, 4, 7, 8, 3, 5, 6, 9], [0, 2, 3, 4, 5, 6, 7, 1, 8, 9], [0, 2, 3, 4, 7, 1, 8, 5, 6, 9], [0, 2, 4, 5, 7, 1, 8, 3, 6, 9], [0, 2, 4, 7, 1, 8, 3, 5, 6, 9]] (by kernel_rfl) (fun F2 H2 => F2 = [(7, .ptr (some (H.length, 0))), (8, .ptr (some (H.length + 1, 0))), (9, .int .i64 0), (10, .ptr (some (H.length + 3, 0))), (12, .ptr (some (H.length + 4, 0))), (13, .int .i64 (f + le))] ∧ H2 = H ++ [.cells true 0 [.int .i64 tu, .int .i64 le, .int .i64 sl, .int .i64 ra], .cells true 0 [.int .i64 0, .int .i64 0, .sl none 0 (some 0)], .cells (ownG (canonL (recL x0 y0 x1 y1)).length) 2 (prs (canonL (recL x0 y0 x1 y1))), .cells true 0 [.int .i64 (x0 + x1), .int .i64 (y0 + y1), .sl (some (H.length + 2, 0)) ((canonL (recL x0 y0 x1 y1)).length) (capG (canonL (recL x0 y0 x1 y1)).length)], .cells true 0 [.int .i64 ((dirV h).1), .int .i64 ((dirV h).2.1), .int .i64 ((dirV h).2.2)]]) ?_ ?_
  · refine reps_cons ?_ (reps_cons ?_ (reps_cons ?_ (reps_cons ?_ (reps_cons ?_ (reps_cons ?_ (reps_cons ?_ (reps_cons ?_ (reps_nil)))))))) <;> intro J hJ
    · skip
      have g'26 := (jn @f1 (jn @f2 (jn @f3 (jn @f4 (jn @f5 (jn @f6 (jn @f23 (jn @f24 (jn @f25 (jn @f26 (jn @f27 (jn @f28 (jn @h15d (jn @h16d (jn @h17d (jn @h18d (jn @h19d (jn @h20d (jn @h21d (jn @h22d (jn @f31 (jn @f32 (jn @f33 (jn @f34 (jn @f35 (jn @f36 (jn @h30d (jn @f37 (jn @f38 (jn @f39 (jn @f40 (jn @f41 (jn @f42 (jn @f45 (jn @f46 (jn @f47 (jn @f48 (jn @f49 (jn @f50 (jn @h44d (jn @hwx @hwy)))))))))))))))))))))))))))))))))))))))))
      refine runDf g'26 ?_
      refine call_d (by kernel_rfl) (dir_c _ h) ?_
      refine runDf g'26 ?_
      refine inv_of (hJ _ _ ⟨_, _, _, ⟨rfl, rfl⟩, Abs.byG hbel [] rfl [2, 3, 4, 5, 6] (by decide) ?_⟩)
      exact absRf (jn @f1 (jn @f2 (jn @f3 (jn @f4 (jn @f5 (jn @f6 (jn @f23 (jn @f24 (jn @f25 (jn @f26 (jn @f27 (jn @f28 (jn @f31 (jn @f32 (jn @f33 (jn @f34 (jn @f35 (jn @f36 (jn @f37 (jn @f38 (jn @f39 (jn @f40 (jn @f41 (jn @f42 (jn @f45 (jn @f46 (jn @f47 (jn @f48 (jn @f49 @f50)))))))))))))))))))))))))))))
    · skip
      have g'27 := (jn @f1 (jn @f2 (jn @f3 (jn @f4 (jn @f5 (jn @f6 (jn @f23 (jn @f24 (jn @f25 (jn @f26 (jn @f27 (jn @f28 (jn @h15d (jn @h16d (jn @h17d (jn @h18d (jn @h19d (jn @h20d (jn @h21d (jn @h22d (jn @f31 (jn @f32 (jn @f33 (jn @f34 (jn @f35 (jn @f36 (jn @h30d (jn @f37 (jn @f38 (jn @f39 (jn @f40 (jn @f41 (jn @f42 (jn @f45 (jn @f46 (jn @f47 (jn @f48 (jn @f49 (jn @f50 (jn @h44d (jn @hwx @hwy)))))))))))))))))))))))))))))))))))))))))
      refine runDf g'27 ?_
      refine call_d (by kernel_rfl) (dir_c _ h) ?_
      refine runDf g'27 ?_
      refine inv_of (hJ _ _ ⟨_, _, _, ⟨rfl, rfl⟩, Abs.byG hbel [] rfl [2, 3, 4, 5, 6] (by decide) ?_⟩)
      exact absRf (jn @f1 (jn @f2 (jn @f3 (jn @f4 (jn @f5 (jn @f6 (jn @f23 (jn @f24 (jn @f25 (jn @f26 (jn @f27 (jn @f28 (jn @f31 (jn @f32 (jn @f33 (jn @f34 (jn @f35 (jn @f36 (jn @f37 (jn @f38 (jn @f39 (jn @f40 (jn @f41 (jn @f42 (jn @f45 (jn @f46 (jn @f47 (jn @f48 (jn @f49 @f50)))))))))))))))))))))))))))))
    · skip
      have g'28 := (jn @f1 (jn @f2 (jn @f3 (jn @f4 (jn @f5 (jn @f6 (jn @f23 (jn @f24 (jn @f25 (jn @f26 (jn @f27 (jn @f28 (jn @h15d (jn @h16d (jn @h17d (jn @h18d (jn @h19d (jn @h20d (jn @h21d (jn @h22d (jn @f31 (jn @f32 (jn @f33 (jn @f34 (jn @f35 (jn @f36 (jn @h30d (jn @f37 (jn @f38 (jn @f39 (jn @f40 (jn @f41 (jn @f42 (jn @f45 (jn @f46 (jn @f47 (jn @f48 (jn @f49 (jn @f50 (jn @h44d (jn @hwx @hwy)))))))))))))))))))))))))))))))))))))))))
      refine runDf g'28 ?_
      refine call_d (by kernel_rfl) (dir_c _ h) ?_
      refine runDf g'28 ?_
      refine inv_of (hJ _ _ ⟨_, _, _, ⟨rfl, rfl⟩, Abs.byG hbel [] rfl [2, 3, 4, 5, 6] (by decide) ?_⟩)
      exact absRf (jn @f1 (jn @f2 (jn @f3 (jn @f4 (jn @f5 (jn @f6 (jn @f23 (jn @f24 (jn @f25 (jn @f26 (jn @f27 (jn @f28 (jn @f31 (jn @f32 (jn @f33 (jn @f34 (jn @f35 (jn @f36 (jn @f37 (jn @f38 (jn @f39 (jn @f40 (jn @f41 (jn @f42 (jn @f45 (jn @f46 (jn @f47 (jn @f48 (jn @f49 @f50)))))))))))))))))))))))))))))
    · skip
      have g'29 := (jn @f1 (jn @f2 (jn @f3 (jn @f4 (jn @f5 (jn @f6 (jn @f23 (jn @f24 (jn @f25 (jn @f26 (jn @f27 (jn @f28 (jn @h15d (jn @h16d (jn @h17d (jn @h18d (jn @h19d (jn @h20d (jn @h21d (jn @h22d (jn @f31 (jn @f32 (jn @f33 (jn @f34 (jn @f35 (jn @f36 (jn @h30d (jn @f37 (jn @f38 (jn @f39 (jn @f40 (jn @f41 (jn @f42 (jn @f45 (jn @f46 (jn @f47 (jn @f48 (jn @f49 (jn @f50 (jn @h44d (jn @hwx @hwy)))))))))))))))))))))))))))))))))))))))))
      refine runDf g'29 ?_
      refine call_d (by kernel_rfl) (dir_c _ h) ?_
      refine runDf g'29 ?_
      refine inv_of (hJ _ _ ⟨_, _, _, ⟨rfl, rfl⟩, Abs.byG hbel [] rfl [2, 3, 4, 5, 6] (by decide) ?_⟩)
      exact absRf (jn @f1 (jn @f2 (jn @f3 (jn @f4 (jn @f5 (jn @f6 (jn @f23 (jn @f24 (jn @f25 (jn @f26 (jn @f27 (jn @f28 (jn @f31 (jn @f32 (jn @f33 (jn @f34 (jn @f35 (jn @f36 (jn @f37 (jn @f38 (jn @f39 (jn @f40 (jn @f41 (jn @f42 (jn @f45 (jn @f46 (jn @f47 (jn @f48 (jn @f49 @f50)))))))))))))))))))))))))))))
    · skip
      have g'30 := (jn @f1 (jn @f2 (jn @f3 (jn @f4 (jn @f5 (jn @f6 (jn @f23 (jn @f24 (jn @f25 (jn @f26 (jn @f27 (jn @f28 (jn @h15d (jn @h16d (jn @h17d (jn @h18d (jn @h19d (jn @h20d (jn @h21d (jn @h22d (jn @f31 (jn @f32 (jn @f33 (jn @f34 (jn @f35 (jn @f36 (jn @h30d (jn @f37 (jn @f38 (jn @f39 (jn @f40 (jn @f41 (jn @f42 (jn @f45 (jn @f46 (jn @f47 (jn @f48 (jn @f49 (jn @f50 (jn @h44d (jn @hwx @hwy)))))))))))))))))))))))))))))))))))))))))
      refine runDf g'30 ?_
      refine call_d (by kernel_rfl) (dir_c _ h) ?_
      refine runDf g'30 ?_
      refine inv_of (hJ _ _ ⟨_, _, _, ⟨rfl, rfl⟩, Abs.byG hbel [] rfl [2, 3, 4, 5, 6] (by decide) ?_⟩)
      exact absRf (jn @f1 (jn @f2 (jn @f3 (jn @f4 (jn @f5 (jn @f6 (jn @f23 (jn @f24 (jn @f25 (jn @f26 (jn @f27 (jn @f28 (jn @f31 (jn @f32 (jn @f33 (jn @f34 (jn @f35 (jn @f36 (jn @f37 (jn @f38 (jn @f39 (jn @f40 (jn @f41 (jn @f42 (jn @f45 (jn @f46 (jn @f47 (jn @f48 (jn @f49 @f50)))))))))))))))))))))))))))))
    · skip
      have g'31 := (jn @f1 (jn @f2 (jn @f3 (jn @f4 (jn @f5 (jn @f6 (jn @f23 (jn @f24 (jn @f25 (jn @f26 (jn @f27 (jn @f28 (jn @h15d (jn @h16d (jn @h17d (jn @h18d (jn @h19d (jn @h20d (jn @h21d (jn @h22d (jn @f31 (jn @f32 (jn @f33 (jn @f34 (jn @f35 (jn @f36 (jn @h30d (jn @f37 (jn @f38 (jn @f39 (jn @f40 (jn @f41 (jn @f42 (jn @f45 (jn @f46 (jn @f47 (jn @f48 (jn @f49 (jn @f50 (jn @h44d (jn @hwx @hwy)))))))))))))))))))))))))))))))))))))))))
      refine runDf g'31 ?_
      refine call_d (by kernel_rfl) (dir_c _ h) ?_
      refine runDf g'31 ?_
      refine inv_of (hJ _ _ ⟨_, _, _, ⟨rfl, rfl⟩, Abs.byG hbel [] rfl [2, 3, 4, 5, 6] (by decide) ?_⟩)
      exact absRf (jn @f1 (jn @f2 (jn @f3 (jn @f4 (jn @f5 (jn @f6 (jn @f23 (jn @f24 (jn @f25 (jn @f26 (jn @f27 (jn @f28 (jn @f31 (jn @f32 (jn @f33 (jn @f34 (jn @f35 (jn @f36 (jn @f37 (jn @f38 (jn @f39 (jn @f40 (jn @f41 (jn @f42 (jn @f45 (jn @f46 (jn @f47 (jn @f48 (jn @f49 @f50)))))))))))))))))))))))))))))
    · skip
      have g'32 := (jn @f1 (jn @f2 (jn @f3 (jn @f4 (jn @f5 (jn @f6 (jn @f23 (jn @f24 (jn @f25 (jn @f26 (jn @f27 (jn @f28 (jn @h15d (jn @h16d (jn @h17d (jn @h18d (jn @h19d (jn @h20d (jn @h21d (jn @h22d (jn @f31 (jn @f32 (jn @f33 (jn @f34 (jn @f35 (jn @f36 (jn @h30d (jn @f37 (jn @f38 (jn @f39 (jn @f40 (jn @f41 (jn @f42 (jn @f45 (jn @f46 (jn @f47 (jn @f48 (jn @f49 (jn @f50 (jn @h44d (jn @hwx @hwy)))))))))))))))))))))))))))))))))))))))))
      refine runDf g'32 ?_
      refine call_d (by kernel_rfl) (dir_c _ h) ?_
      refine runDf g'32 ?_
      refine inv_of (hJ _ _ ⟨_, _, _, ⟨rfl, rfl⟩, Abs.byG hbel [] rfl [2, 3, 4, 5, 6] (by decide) ?_⟩)
      exact absRf (jn @f1 (jn @f2 (jn @f3 (jn @f4 (jn @f5 (jn @f6 (jn @f23 (jn @f24 (jn @f25 (jn @f26 (jn @f27 (jn @f28 (jn @f31 (jn @f32 (jn @f33 (jn @f34 (jn @f35 (jn @f36 (jn @f37 (jn @f38 (jn @f39 (jn @f40 (jn @f41 (jn @f42 (jn @f45 (jn @f46 (jn @f47 (jn @f48 (jn @f49 @f50)))))))))))))))))))))))))))))
    · skip
      have g'33 := (jn @f1 (jn @f2 (jn @f3 (jn @f4 (jn @f5 (jn @f6 (jn @f23 (jn @f24 (jn @f25 (jn @f26 (jn @f27 (jn @f28 (jn @h15d (jn @h16d (jn @h17d (jn @h18d (jn @h19d (jn @h20d (jn @h21d (jn @h22d (jn @f31 (jn @f32 (jn @f33 (jn @f34 (jn @f35 (jn @f36 (jn @h30d (jn @f37 (jn @f38 (jn @f39 (jn @f40 (jn @f41 (jn @f42 (jn @f45 (jn @f46 (jn @f47 (jn @f48 (jn @f49 (jn @f50 (jn @h44d (jn @hwx @hwy)))))))))))))))))))))))))))))))))))))))))
      refine runDf g'33 ?_
      refine call_d (by kernel_rfl) (dir_c _ h) ?_
      refine runDf g'33 ?_
      refine inv_of (hJ _ _ ⟨_, _, _, ⟨rfl, rfl⟩, Abs.byG hbel [] rfl [2, 3, 4, 5, 6] (by decide) ?_⟩)
      exact absRf (jn @f1 (jn @f2 (jn @f3 (jn @f4 (jn @f5 (jn @f6 (jn @f23 (jn @f24 (jn @f25 (jn @f26 (jn @f27 (jn @f28 (jn @f31 (jn @f32 (jn @f33 (jn @f34 (jn @f35 (jn @f36 (jn @f37 (jn @f38 (jn @f39 (jn @f40 (jn @f41 (jn @f42 (jn @f45 (jn @f46 (jn @f47 (jn @f48 (jn @f49 @f50)))))))))))))))))))))))))))))
  rintro F2 H2 ⟨rfl, rfl⟩
  refine AW_special false try_mixed [[0, 1, 2, 3, 4, 5, 6, 7, 8, 9, 10, 11, 12, 13, 14, 15, 16, 17, 18, 19, 20, 21, 22], [0, 1, 2, 3, 4, 5, 6, 7, 8, 9, 10, 11, 12, 13, 14, 15, 20, 16, 17, 18, 19, 21, 22], [0, 1, 2, 3, 4, 5, 6, 7, 8, 9, 10, 11, 12, 13, 20, 14, 15, 16, 17, 18, 19, 21, 22], [0, 1, 2, 3, 4, 5, 6, 8, 9, 10, 11, 12, 13, 20, 7, 14, 15, 16, 17, 18, 19, 21, 22]] (by kernel_rfl) (fun F2 H2 => F2 = [(7, .ptr (some (H.length, 0))), (8, .ptr (some (H.length + 1, 0))), (9, .int .i64 0), (10, .ptr (some (H.length + 3, 0))), (14, .ptr (some (H.length + 5, 0)))] ∧ H2 = H ++ [.cells true 0 [.int .i64 tu, .int .i64 le, .int .i64 sl, .int .i64 ra], .cells true 0 [.int .i64 0, .int .i64 0, .sl none 0 (some 0)], .cells (ownG (canonL (recL x0 y0 x1 y1)).length) 2 (prs (canonL (recL x0 y0 x1 y1))), .cells true 0 [.int .i64 (x0 + x1), .int .i64 (y0 + y1), .sl (some (H.length + 2, 0)) ((canonL (recL x0 y0 x1 y1)).length) (capG (canonL (recL x0 y0 x1 y1)).length)], .cells (ownG (canonL [((wayX h (f + le)), (wayY h (f + le)))]).length) 2 (prs (canonL [((wayX h (f + le)), (wayY h (f + le)))])), .cells true 0 [.int .i64 (wayX h (f + le)), .int .i64 (wayY h (f + le)), .sl (some (H.length + 4, 0)) ((canonL [((wayX h (f + le)), (wayY h (f + le)))]).length) (capG (canonL [((wayX h (f + le)), (wayY h (f + le)))]).length)]]) ?_ ?_
  · refine reps_cons ?_ (reps_cons ?_ (reps_cons ?_ (reps_cons ?_ (reps_nil)))) <;> intro J hJ
    · skip
      have g'34 := (jn @h15d (jn @h16d (jn @h17d (jn @h18d (jn @h19d (jn @h20d (jn @h21d (jn @h22d (jn @h30d (jn @h44d (jn @prs_len (jn @prs_one (jn @hwx @hwy)))))))))))))
      refine runDf g'34 ?_
      refine call_d (by kernel_rfl) (mfloor_c _ ((f + le) * ((dirV h).1)) ((dirV h).2.2) (by omega) (by omega)) ?_
      refine runDf g'34 ?_
      refine call_d (by kernel_rfl) (mfloor_c _ ((f + le) * ((dirV h).2.1)) ((dirV h).2.2) (by omega) (by omega)) ?_
      refine runDf g'34 ?_
      refine call_x (by kernel_rfl) (by simp) (ofway_0 _ (wayX h (f + le)) (wayY h (f + le)) (by assumption)) ?_
      refine runDf g'34 ?_
      refine inv_of (hJ _ _ ⟨_, _, _, ⟨rfl, rfl⟩, Abs.byG hbel [] rfl [0, 1, 2, 3, 5, 6] (by decide) ?_⟩)
      exact absR
    · skip
      have g'35 := (jn @h15d (jn @h16d (jn @h17d (jn @h18d (jn @h19d (jn @h20d (jn @h21d (jn @h22d (jn @h30d (jn @h44d (jn @prs_len (jn @prs_one (jn @hwx @hwy)))))))))))))
      refine runDf g'35 ?_
      refine call_d (by kernel_rfl) (mfloor_c _ ((f + le) * ((dirV h).1)) ((dirV h).2.2) (by omega) (by omega)) ?_
      refine runDf g'35 ?_
      refine call_d (by kernel_rfl) (mfloor_c _ ((f + le) * ((dirV h).2.1)) ((dirV h).2.2) (by omega) (by omega)) ?_
      refine runDf g'35 ?_
      refine call_x (by kernel_rfl) (by simp) (ofway_0 _ (wayX h (f + le)) (wayY h (f + le)) (by assumption)) ?_
      refine runDf g'35 ?_
      refine inv_of (hJ _ _ ⟨_, _, _, ⟨rfl, rfl⟩, Abs.byG hbel [] rfl [0, 1, 2, 3, 6, 5] (by decide) ?_⟩)
      exact absR
    · skip
      have g'36 := (jn @h15d (jn @h16d (jn @h17d (jn @h18d (jn @h19d (jn @h20d (jn @h21d (jn @h22d (jn @h30d (jn @h44d (jn @prs_len (jn @prs_one (jn @hwx @hwy)))))))))))))
      refine runDf g'36 ?_
      refine call_d (by kernel_rfl) (mfloor_c _ ((f + le) * ((dirV h).1)) ((dirV h).2.2) (by omega) (by omega)) ?_
      refine runDf g'36 ?_
      refine call_d (by kernel_rfl) (mfloor_c _ ((f + le) * ((dirV h).2.1)) ((dirV h).2.2) (by omega) (by omega)) ?_
      refine runDf g'36 ?_
      refine call_x (by kernel_rfl) (by simp) (ofway_0 _ (wayX h (f + le)) (wayY h (f + le)) (by assumption)) ?_
      refine runDf g'36 ?_
      refine inv_of (hJ _ _ ⟨_, _, _, ⟨rfl, rfl⟩, Abs.byG hbel [] rfl [0, 1, 2, 3, 6, 5] (by decide) ?_⟩)
      exact absR
    · skip
      have g'37 := (jn @h15d (jn @h16d (jn @h17d (jn @h18d (jn @h19d (jn @h20d (jn @h21d (jn @h22d (jn @h30d (jn @h44d (jn @prs_len (jn @prs_one (jn @hwx @hwy)))))))))))))
      refine runDf g'37 ?_
      refine call_d (by kernel_rfl) (mfloor_c _ ((f + le) * ((dirV h).1)) ((dirV h).2.2) (by omega) (by omega)) ?_
      refine runDf g'37 ?_
      refine call_d (by kernel_rfl) (mfloor_c _ ((f + le) * ((dirV h).2.1)) ((dirV h).2.2) (by omega) (by omega)) ?_
      refine runDf g'37 ?_
      refine call_x (by kernel_rfl) (by simp) (ofway_0 _ (wayX h (f + le)) (wayY h (f + le)) (by assumption)) ?_
      refine runDf g'37 ?_
      refine inv_of (hJ _ _ ⟨_, _, _, ⟨rfl, rfl⟩, Abs.byG hbel [] rfl [0, 1, 2, 3, 6, 5] (by decide) ?_⟩)
      exact absR
  rintro F2 H2 ⟨rfl, rfl⟩
  refine AW_fin false try_mixed (by kernel_rfl) ?_
  have g'38 := (jn @h15d (jn @h16d (jn @h17d (jn @h18d (jn @h19d (jn @h20d (jn @h21d (jn @h22d (jn @h30d (jn @h44d (jn @prs_len (jn @prs_one (jn @hwx @hwy)))))))))))))
  refine runTf g'38 ?_
  refine call_v (by kernel_rfl) (Sum_0 _ (x0 + x1) (y0 + y1) _ (canonL (recL x0 y0 x1 y1)) (wayX h (f + le)) (wayY h (f + le)) _ (canonL [((wayX h (f + le)), (wayY h (f + le)))]) ⟨_, _, _, by first | rfl | (rw [List.length_append]; done) | (rw [List.length_append]; rfl), by first | rfl | (rw [get_newk]; rfl) | (rw [get_new0]; rfl) | (rw [get_newk, prs_append]; rfl) | (rw [get_new0, prs_append]; rfl)⟩ ⟨_, _, _, by first | rfl | (rw [List.length_append]; done) | (rw [List.length_append]; rfl), by first | rfl | (rw [get_newk]; rfl) | (rw [get_new0]; rfl) | (rw [get_newk, prs_append]; rfl) | (rw [get_new0, prs_append]; rfl)⟩ (by assumption)) ?_
  refine runTf g'38 ?_
  refine call_x (by kernel_rfl) (by simp) (square_c _ (sl + 21) (by omega)) ?_
  refine runTf g'38 ?_
  refine call_x (by kernel_rfl) (by simp) (Sum_0 _ ((x0 + x1) + (wayX h (f + le))) ((y0 + y1) + (wayY h (f + le))) _ (canonL ((canonL (recL x0 y0 x1 y1)) ++ (canonL [((wayX h (f + le)), (wayY h (f + le)))]))) 0 0 _ (canonL (sqrL (sl + 21))) ⟨_, _, _, by first | rfl | (rw [List.length_append]; done) | (rw [List.length_append]; rfl), by first | rfl | (rw [get_newk]; rfl) | (rw [get_new0]; rfl) | (rw [get_newk, prs_append]; rfl) | (rw [get_new0, prs_append]; rfl)⟩ ⟨_, _, _, by first | rfl | (rw [List.length_append]; done) | (rw [List.length_append]; rfl), by first | rfl | (rw [get_newk]; rfl) | (rw [get_new0]; rfl) | (rw [get_newk, prs_append]; rfl) | (rw [get_new0, prs_append]; rfl)⟩ (by assumption)) ?_
  refine runTf g'38 ?_
  refine hQ _ _ (end_byG (.inl rfl) hbel (x1 := .tup [.agg [.int .i64 (((x0 + x1) + (wayX h (f + le))) + 0), .int .i64 (((y0 + y1) + (wayY h (f + le))) + 0), .sl (some (H.length + 8, 0)) ((canonL ((canonL ((canonL (recL x0 y0 x1 y1)) ++ (canonL [((wayX h (f + le)), (wayY h (f + le)))]))) ++ (canonL (sqrL (sl + 21))))).length) (capG (canonL ((canonL ((canonL (recL x0 y0 x1 y1)) ++ (canonL [((wayX h (f + le)), (wayY h (f + le)))]))) ++ (canonL (sqrL (sl + 21))))).length)], .int .i64 0]) (l2 := [.cells (ownG (canonL ((canonL ((canonL (recL x0 y0 x1 y1)) ++ (canonL [((wayX h (f + le)), (wayY h (f + le)))]))) ++ (canonL (sqrL (sl + 21))))).length) 2 (prs (canonL ((canonL ((canonL (recL x0 y0 x1 y1)) ++ (canonL [((wayX h (f + le)), (wayY h (f + le)))]))) ++ (canonL (sqrL (sl + 21))))))]) (.tup [.agg [.int .i64 (((x0 + x1) + (wayX h (f + le))) + 0), .int .i64 (((y0 + y1) + (wayY h (f + le))) + 0), .sl (some (H.length, 0)) ((canonL ((canonL ((canonL (recL x0 y0 x1 y1)) ++ (canonL [((wayX h (f + le)), (wayY h (f + le)))]))) ++ (canonL (sqrL (sl + 21))))).length) (capG (canonL ((canonL ((canonL (recL x0 y0 x1 y1)) ++ (canonL [((wayX h (f + le)), (wayY h (f + le)))]))) ++ (canonL (sqrL (sl + 21))))).length)], .int .i64 0]) (resT Tryz.results13) [] rfl [8] (by decide) ⟨by first | (simp [mkX, mkL, sweE, sweB, capG_0, ownG_0, prs_nil, h15d, h16d, h17d, h18d, h19d, h20d, h21d, h22d, h30d, h44d, hfinE, hfinF]; done) | (simp [mkX, mkL, sweE, hok, capG_0, ownG_0, prs_nil, h15d, h16d, h17d, h18d, h19d, h20d, h21d, h22d, h30d, h44d, hfinE, hfinF]; done) | (rw [hfinE]; simp only [mkX_0, mkL_0, sweX, sweY, sweL, wayL, hlf, hfinF, if_true, if_false, sw_eq, ← sw_eq0, Int.add_zero]), by first | (simp [mkX, mkL, sweE, sweB, capG_0, ownG_0, prs_nil, h15d, h16d, h17d, h18d, h19d, h20d, h21d, h22d, h30d, h44d, hfinE, hfinF]; done) | (simp [mkX, mkL, sweE, hok, capG_0, ownG_0, prs_nil, h15d, h16d, h17d, h18d, h19d, h20d, h21d, h22d, h30d, h44d, hfinE, hfinF]; done) | (rw [hfinE]; simp only [mkX_0, mkL_0, sweX, sweY, sweL, wayL, hlf, hfinF, if_true, if_false, sw_eq, ← sw_eq0, Int.add_zero])⟩ ?_)
  exact absW
end Go.Proofs.YtoimakfecmhjkaaGreat

/- Walks by the abstract machine: unhindered. Conditions: as each theorem states. -/
namespace Go.Proofs.YtoimakfecmhjkaaGreat
set_option linter.unusedSimpArgs false
set_option linter.unusedVariables false
open Go.RowKit
theorem sweepq_c (H : AHeap) (x0 y0 x1 y1 h t f tu le sl ra : Int) : ACalls Tryz.prog 13 [.agg [.int .i64 x0, .int .i64 y0, .int .i64 x1, .int .i64 y1], .int .i64 h, .agg [.int .i64 t, .int .i64 f], .agg [.int .i64 tu, .int .i64 le, .int .i64 sl, .int .i64 ra]] H (fun v H' => v = .tup [.agg [.int .i64 (swX x0 y0 x1 y1 h t f tu le sl ra), .int .i64 (swY x0 y0 x1 y1 h t f tu le sl ra), .sl (some (H.length, 0)) (swL x0 y0 x1 y1 h t f tu le sl ra).length (capG (swL x0 y0 x1 y1 h t f tu le sl ra).length)], .int .i64 (sweE x0 y0 x1 y1 h t f tu le sl ra)] ∧ H' = H ++ [.cells (ownG (swL x0 y0 x1 y1 h t f tu le sl ra).length) 2 (prs (swL x0 y0 x1 y1 h t f tu le sl ra))]) := sweep_c H x0 y0 x1 y1 h t f tu le sl ra
theorem touchq_c (H : AHeap) (x0 y0 x1 y1 h t f tu le sl ra : Int) (s : AV) (hs : Sl H 2 s (swL x0 y0 x1 y1 h t f tu le sl ra).length (prs (swL x0 y0 x1 y1 h t f tu le sl ra))) : ACalls Tryz.prog 17 [.agg [.int .i64 (swX x0 y0 x1 y1 h t f tu le sl ra), .int .i64 (swY x0 y0 x1 y1 h t f tu le sl ra), s]] H (fun v H' => v = .tup [.sl (some (H.length, 0)) (stL x0 y0 x1 y1 h t f tu le sl ra).length none, .int .i64 (stE x0 y0 x1 y1 h t f tu le sl ra)] ∧ H' = H ++ [.cells (ownG (touC (swX x0 y0 x1 y1 h t f tu le sl ra) (swY x0 y0 x1 y1 h t f tu le sl ra) (swL x0 y0 x1 y1 h t f tu le sl ra)).length) 2 (prs (stL x0 y0 x1 y1 h t f tu le sl ra))]) := touched_c H _ _ _ _ hs
set_option maxHeartbeats 4000000 in
set_option maxRecDepth 100000 in
theorem unh_c (H : AHeap) (W : Int) (Hh : Int) (pp : AV) (xs : List Int) (x0 : Int) (y0 : Int) (x1 : Int) (y1 : Int) (h : Int) (t : Int) (f : Int) (tu : Int) (le : Int) (sl : Int) (ra : Int) (hpp : Sl H 1 pp xs.length (ints .u8 xs)) (hV : vldB W Hh xs = true) : ACalls Tryz.prog 78 [.agg [.int .i64 W, .int .i64 Hh, pp], .agg [.int .i64 x0, .int .i64 y0, .int .i64 x1, .int .i64 y1], .int .i64 h, .agg [.int .i64 t, .int .i64 f], .agg [.int .i64 tu, .int .i64 le, .int .i64 sl, .int .i64 ra]] H (fun v H' => v = .bool (unhB W Hh xs x0 y0 x1 y1 h t f tu le sl ra) ∧ H' = H) := by
  obtain ⟨bpp, opp, cpp, rfl, hbpp⟩ := hpp
  have hblpp := getElem?_lt hbpp
  have hb0pp := fun l => get_app (l := l) hbpp
  (refine ACalls_run try_mixed Tryz.func78 true _ rfl (Nat.le_of_ble_eq_true (by kernel_rfl)) (by kernel_rfl) ?_; intro hbel Q hQ hQ' c hc; unfold Tryz.f78 at hc; simp only [Option.some.injEq] at hc; subst hc; clear hQ')
  have g'1 := (jn @hbpp @hb0pp)
  refine runTf g'1 ?_
  refine call_v (by kernel_rfl) (sweepq_c _ x0 y0 x1 y1 h t f tu le sl ra) ?_
  refine runTf g'1 ?_
  refine cond_split (fun h1 => ?_) (fun h1 => ?_)
  · have h1d := h1
    try simp only [boolset, beq_iff_eq, ne_eq] at h1d
    have h1n := h1
    try simp only [int_bne, int_beq, Bool.not_eq_true', Bool.not_eq_false', Bool.not_not] at h1n
    have hfinU : unhB W Hh xs x0 y0 x1 y1 h t f tu le sl ra = false := by unfold unhB; rw [decide_eq_false (by simpa using h1d)]; rfl
    have g'2 := (jn @h1 (jn @h1n (jn @int_bne (jn @int_beq g'1))))
    refine runTf g'2 ?_
    exact hQ _ _ (end_plain (.inl rfl) hbel (x := .bool false) (resT Tryz.results78) rfl ⟨by first | (rw [hfinU]; done) | (unfold unhB; rw [decide_eq_true hsw, decide_eq_true hst0]; rfl), rfl⟩)
  · have h1d := h1
    try simp only [boolset, beq_iff_eq, ne_eq] at h1d
    have h1n := h1
    try simp only [int_bne, int_beq, Bool.not_eq_true', Bool.not_eq_false', Bool.not_not] at h1n
    have hsw : sweE x0 y0 x1 y1 h t f tu le sl ra = 0 := by simpa using h1d
    have g'3 := (jn @h1 (jn @h1n (jn @int_bne (jn @int_beq g'1))))
    refine runTf g'3 ?_
    refine call_v (by kernel_rfl) (touchq_c _ x0 y0 x1 y1 h t f tu le sl ra _ ⟨_, _, _, by first | rfl | (rw [List.length_append]; done) | (rw [List.length_append]; rfl), by first | rfl | (rw [get_newk]; rfl) | (rw [get_new0]; rfl) | (rw [get_newk, prs_append]; rfl) | (rw [get_new0, prs_append]; rfl)⟩) ?_
    refine runTf g'3 ?_
    refine gd_split (fun h2 => ?_) (fun h2 => ?_)
    · have h2d := h2
      try simp only [boolset, beq_iff_eq, ne_eq] at h2d
      have h2n := h2
      try simp only [int_bne, int_beq, Bool.not_eq_true', Bool.not_eq_false', Bool.not_not] at h2n
      have hst0 : stE x0 y0 x1 y1 h t f tu le sl ra = 0 := by simpa using h2d
      have g'4 := (jn @h2 (jn @h2n g'3))
      refine runTf g'4 ?_
      refine call_v (by kernel_rfl) (has_cell _ _ (stL x0 y0 x1 y1 h t f tu le sl ra) ⟨_, _, _, by first | rfl | (rw [List.length_append]; done) | (rw [List.length_append]; rfl), by first | rfl | (rw [get_newk]; rfl) | (rw [get_new0]; rfl) | (rw [get_newk, prs_append]; rfl) | (rw [get_new0, prs_append]; rfl)⟩ (Nat.le_trans stL_len (by decide)) _ [.ptr (some (H.length, 0))] (by kernel_rfl) (by simp [AV.bels, AV.bel]) (fun c => atI W Hh xs c.1 c.2 != 1) (fun j hj => unh1_c _ _ _ W Hh _ xs _ ⟨_, _, _, rfl, hb0pp _⟩ ⟨_, by rw [get_new0]; rfl⟩ hV)) ?_
      refine runTf g'4 ?_
      exact hQ _ _ (end_plain (.inl rfl) hbel (x := .bool (!((stL x0 y0 x1 y1 h t f tu le sl ra).any (fun c => atI W Hh xs c.1 c.2 != 1)))) (resTf (jn @int_beq @int_bne) Tryz.results78) rfl ⟨by first | (rw [hfinU]; done) | (unfold unhB; rw [decide_eq_true hsw, decide_eq_true hst0]; rfl), rfl⟩)
    · have h2d := h2
      try simp only [boolset, beq_iff_eq, ne_eq] at h2d
      have h2n := h2
      try simp only [int_bne, int_beq, Bool.not_eq_true', Bool.not_eq_false', Bool.not_not] at h2n
      have hfinU : unhB W Hh xs x0 y0 x1 y1 h t f tu le sl ra = false := by unfold unhB; rw [decide_eq_false (show ¬ stE x0 y0 x1 y1 h t f tu le sl ra = 0 by simpa using h2d)]; simp
      have g'5 := (jn @h2 (jn @h2n g'3))
      refine runTf g'5 ?_
      exact hQ _ _ (end_plain (.inl rfl) hbel (x := .bool false) (resT Tryz.results78) rfl ⟨by first | (rw [hfinU]; done) | (unfold unhB; rw [decide_eq_true hsw, decide_eq_true hst0]; rfl), rfl⟩)
end Go.Proofs.YtoimakfecmhjkaaGreat

/- Walks by the abstract machine: boxes, by the references. Conditions: as each theorem states. -/
namespace Go.Proofs.YtoimakfecmhjkaaGreat
set_option linter.unusedSimpArgs false
set_option linter.unusedVariables false
open Go.RowKit
theorem mrkL_0 (f : Int) : mrkL f 0 = [] := rfl
set_option maxHeartbeats 4000000 in
set_option maxRecDepth 100000 in
theorem rlist_c (H : AHeap) (f : Int) (c : Int) (ha : arcB f c = true) : ACalls Tryz.prog 83 [.agg [.int .i64 f, .int .i64 c]] H (fun v H' => v = .sl (some (H.length, 0)) ((mrkL f c.toNat).length) (capG (mrkL f c.toNat).length) ∧ H' = H ++ [.cells (ownG (mrkL f c.toNat).length) 1 (ints .i64 (mrkL f c.toNat))]) := by
  have ka := arcB_iff.1 ha
  (refine ACalls_run try_mixed Tryz.func83 true _ rfl (Nat.le_of_ble_eq_true (by kernel_rfl)) (by kernel_rfl) ?_; intro hbel Q hQ hQ' c hc; unfold Tryz.f83 at hc; simp only [Option.some.injEq] at hc; subst hc; clear hQ')
  have g'1 := @ha
  refine runTf g'1 ?_
  refine call_v (by kernel_rfl) (r4varc_c _ f c) ?_
  refine runTf g'1 ?_
  refine go_loop try_mixed (by kernel_rfl) (fun k F Hx => ∃ i : Nat, i + k = c.toNat ∧ F = [(1, .ptr (some (H.length, 0))), (3, .sl (some (H.length + 1, 0)) ((mrkL f i).length) (capG (mrkL f i).length)), (4, .int .i64 ((i : Nat) : Int))] ∧ Hx = H ++ [.cells true 0 [.int .i64 f, .int .i64 c], .cells (ownG (mrkL f i).length) 1 (ints .i64 (mrkL f i))]) (c.toNat) ?_ ?_
  · refine ⟨_, _, _, ⟨0, by omega, rfl, rfl⟩, Abs.byG hbel [.cells false 1 []] rfl [0, 1] (by decide) ?_⟩
    exact absRf @mrkL_0
  · rintro k0 F Hx ⟨i, hm0, rfl, rfl⟩ J0 hJ0
    have htm : Int.tmod (f + ((i : Nat) : Int)) 256 = (f + ((i : Nat) : Int)) % 256 := by rw [Int.tmod_eq_emod_of_nonneg (by omega)]
    have hln := mrkL_len f i
    have g'2 := (jn @htm (jn @ints_len (jn @ints_ones g'1)))
    refine runTf g'2 ?_
    refine cond_split (fun h1 => ?_) (fun h1 => ?_)
    · have h1d := h1
      try simp only [boolset, beq_iff_eq, ne_eq] at h1d
      have g'3 := (jn @h1 (jn @h1d (jn @prs_len (jn @capG_s g'2))))
      refine runTf g'3 ?_
      refine hJ0 _ _ ⟨k0 - 1, by omega, _, _, _, ⟨i + 1, by omega, rfl, rfl⟩, Abs.byG hbel [] rfl [0, 3] (by decide) ?_⟩
      exact absRf @mrkL_succ
    · have h1d := h1
      try simp only [boolset, beq_iff_eq, ne_eq] at h1d
      obtain rfl : i = c.toNat := by omega
      have g'4 := (jn @h1 (jn @h1d g'2))
      refine runTf g'4 ?_
      refine hQ _ _ (end_byG (.inl rfl) hbel (x1 := .sl (some (H.length + 1, 0)) ((mrkL f c.toNat).length) (capG (mrkL f c.toNat).length)) (l2 := [.cells (ownG (mrkL f c.toNat).length) 1 (ints .i64 (mrkL f c.toNat))]) (.sl (some (H.length, 0)) ((mrkL f c.toNat).length) (capG (mrkL f c.toNat).length)) (resT Tryz.results83) [] rfl [1] (by decide) ⟨rfl, rfl⟩ ?_)
      exact absW
end Go.Proofs.YtoimakfecmhjkaaGreat

/- Walks by the abstract machine: arcs turned and grown. Conditions: as each theorem states. -/
namespace Go.Proofs.YtoimakfecmhjkaaGreat
set_option linter.unusedSimpArgs false
set_option linter.unusedVariables false
open Go.RowKit
theorem arep_z {k : IntKind} {n : Nat} : (List.range n).map (fun j => ([.int k 0] : List AV).getD (j % 1) .any) = ints k (List.replicate n 0) := by
  rw [← ints_rep]
  refine List.ext_getElem (by simp) fun i h1 h2 => ?_
  simp [Nat.mod_one]
def lisS (f : Int) (n i : Nat) : List Int := mrkL f i ++ List.replicate (n - i) 0
theorem lisS_len {f : Int} {n i : Nat} (h : i ≤ n) : (lisS f n i).length = n := by unfold lisS; rw [List.length_append, mrkL_len, List.length_replicate]; omega
theorem lisS_set {f : Int} {n i : Nat} (h : i < n) : (lisS f n i).set i ((f + (i : Int)) % 256) = lisS f n (i + 1) := by
  unfold lisS
  obtain ⟨k, hk⟩ : ∃ k, n - i = k + 1 := ⟨n - i - 1, by omega⟩
  rw [hk, List.replicate_succ, List.set_append_right _ _ (by rw [mrkL_len]; exact Nat.le_refl _), mrkL_len, Nat.sub_self, List.set_cons_zero, mrkL_succ, List.append_assoc, show n - (i + 1) = k by omega]
  rfl
theorem lisS_0 (f : Int) (n : Nat) : lisS f n 0 = List.replicate n 0 := rfl
theorem lisS_n (f : Int) (n : Nat) : lisS f n n = mrkL f n := by unfold lisS; rw [Nat.sub_self]; simp
set_option maxHeartbeats 4000000 in
set_option maxRecDepth 100000 in
theorem harc_c (H : AHeap) (f : Int) (n : Int) (hn : 1 ≤ n ∧ n ≤ 100000) : ACalls Tryz.prog 139 [.int .i64 f, .int .i64 n] H (fun v H' => v = .agg [.int .i64 (arcF f n), .int .i64 (arcC n)] ∧ H' = H) := by
  (refine ACalls_run try_mixed Tryz.func139 true _ rfl (Nat.le_of_ble_eq_true (by kernel_rfl)) (by kernel_rfl) ?_; intro hbel Q hQ hQ' c hc; unfold Tryz.f139 at hc; simp only [Option.some.injEq] at hc; subst hc; clear hQ')
  refine runT ?_
  refine cond_split (fun h1 => ?_) (fun h1 => ?_)
  · have h1d := h1
    try simp only [boolset, beq_iff_eq, ne_eq] at h1d
    have g'1 := (jn @h1 @h1d)
    refine runTf g'1 ?_
    exact hQ _ _ (end_plain (.inl rfl) hbel (x := .agg [.int .i64 0, .int .i64 256]) (resT Tryz.results139) rfl ⟨by unfold arcF arcC; first | (rw [if_pos (by omega), if_pos (by omega)]; done) | (rw [if_neg (by omega), if_neg (by omega), show (((f % 256).toNat : Nat) : Int) = f % 256 by omega]), rfl⟩)
  · have h1d := h1
    try simp only [boolset, beq_iff_eq, ne_eq] at h1d
    have g'2 := (jn @h1 @h1d)
    refine runTf g'2 ?_
    refine call_v (by kernel_rfl) (mark_c _ f) ?_
    refine runTf g'2 ?_
    exact hQ _ _ (end_plain (.inl rfl) hbel (x := .agg [.int .i64 (((f % 256).toNat : Nat) : Int), .int .i64 n]) (resT Tryz.results139) rfl ⟨by unfold arcF arcC; first | (rw [if_pos (by omega), if_pos (by omega)]; done) | (rw [if_neg (by omega), if_neg (by omega), show (((f % 256).toNat : Nat) : Int) = f % 256 by omega]), rfl⟩)
set_option maxHeartbeats 4000000 in
set_option maxRecDepth 100000 in
theorem rarc_c (H : AHeap) (f : Int) (n : Int) (hn : 1 ≤ n ∧ n ≤ 100000) : ACalls Tryz.prog 144 [.int .i64 f, .int .i64 n] H (fun v H' => v = .agg [.int .i64 (arcF f n), .int .i64 (arcC n)] ∧ H' = H) := by
  (refine ACalls_run try_mixed Tryz.func144 true _ rfl (Nat.le_of_ble_eq_true (by kernel_rfl)) (by kernel_rfl) ?_; intro hbel Q hQ hQ' c hc; unfold Tryz.f144 at hc; simp only [Option.some.injEq] at hc; subst hc; clear hQ')
  refine runT ?_
  refine cond_split (fun h1 => ?_) (fun h1 => ?_)
  · have h1d := h1
    try simp only [boolset, beq_iff_eq, ne_eq] at h1d
    have g'3 := (jn @h1 @h1d)
    refine runTf g'3 ?_
    exact hQ _ _ (end_plain (.inl rfl) hbel (x := .agg [.int .i64 0, .int .i64 256]) (resT Tryz.results144) rfl ⟨by unfold arcF arcC; first | (rw [if_pos (by omega), if_pos (by omega)]; done) | (rw [if_neg (by omega), if_neg (by omega), show (((f % 256).toNat : Nat) : Int) = f % 256 by omega]), rfl⟩)
  · have h1d := h1
    try simp only [boolset, beq_iff_eq, ne_eq] at h1d
    have g'4 := (jn @h1 @h1d)
    refine runTf g'4 ?_
    refine call_v (by kernel_rfl) (bmod_c _ f 256 (by omega) (by omega)) ?_
    refine runTf g'4 ?_
    exact hQ _ _ (end_plain (.inl rfl) hbel (x := .agg [.int .i64 (((f % 256).toNat : Nat) : Int), .int .i64 n]) (resT Tryz.results144) rfl ⟨by unfold arcF arcC; first | (rw [if_pos (by omega), if_pos (by omega)]; done) | (rw [if_neg (by omega), if_neg (by omega), show (((f % 256).toNat : Nat) : Int) = f % 256 by omega]), rfl⟩)
set_option maxHeartbeats 4000000 in
set_option maxRecDepth 100000 in
theorem hshift_c (H : AHeap) (f : Int) (c : Int) (n : Int) (ha : arcB f c = true) : ACalls Tryz.prog 75 [.agg [.int .i64 f, .int .i64 c], .int .i64 n] H (fun v H' => v = .tup [.agg [.int .i64 (shF f c n), .int .i64 (arcC c)], .int .i64 0] ∧ H' = H) := by
  have ka := arcB_iff.1 ha
  (refine ACalls_run try_mixed Tryz.func75 true _ rfl (Nat.le_of_ble_eq_true (by kernel_rfl)) (by kernel_rfl) ?_; intro hbel Q hQ hQ' c hc; unfold Tryz.f75 at hc; simp only [Option.some.injEq] at hc; subst hc; clear hQ')
  have g'5 := @ha
  refine runTf g'5 ?_
  refine call_v (by kernel_rfl) (varc_c _ f c) ?_
  refine runTf g'5 ?_
  refine call_d (by kernel_rfl) (mark_c _ n) ?_
  refine runTf g'5 ?_
  refine call_d (by kernel_rfl) (harc_c _ (f + (((n % 256).toNat : Nat) : Int)) c (by omega)) ?_
  refine runTf g'5 ?_
  exact hQ _ _ (end_plain (.inl rfl) hbel (x := .tup [.agg [.int .i64 (arcF (f + (((n % 256).toNat : Nat) : Int)) c), .int .i64 (arcC c)], .int .i64 0]) (resT Tryz.results75) rfl ⟨rfl, rfl⟩)
set_option maxHeartbeats 4000000 in
set_option maxRecDepth 100000 in
theorem rshift_c (H : AHeap) (f : Int) (c : Int) (n : Int) (ha : arcB f c = true) : ACalls Tryz.prog 81 [.agg [.int .i64 f, .int .i64 c], .int .i64 n] H (fun v H' => v = .tup [.agg [.int .i64 (shF f c n), .int .i64 (arcC c)], .int .i64 0] ∧ H' = H) := by
  have ka := arcB_iff.1 ha
  (refine ACalls_run try_mixed Tryz.func81 true _ rfl (Nat.le_of_ble_eq_true (by kernel_rfl)) (by kernel_rfl) ?_; intro hbel Q hQ hQ' c hc; unfold Tryz.f81 at hc; simp only [Option.some.injEq] at hc; subst hc; clear hQ')
  have g'6 := @ha
  refine runTf g'6 ?_
  refine call_v (by kernel_rfl) (r4varc_c _ f c) ?_
  refine runTf g'6 ?_
  refine call_d (by kernel_rfl) (bmod_c _ n 256 (by omega) (by omega)) ?_
  refine runTf g'6 ?_
  refine call_d (by kernel_rfl) (rarc_c _ (f + (((n % 256).toNat : Nat) : Int)) c (by omega)) ?_
  refine runTf g'6 ?_
  exact hQ _ _ (end_plain (.inl rfl) hbel (x := .tup [.agg [.int .i64 (arcF (f + (((n % 256).toNat : Nat) : Int)) c), .int .i64 (arcC c)], .int .i64 0]) (resT Tryz.results81) rfl ⟨rfl, rfl⟩)
set_option maxHeartbeats 4000000 in
set_option maxRecDepth 100000 in
theorem hgrow_c (H : AHeap) (f : Int) (c : Int) (n : Int) (ha : arcB f c = true) (hn : 0 ≤ n ∧ n ≤ 256) : ACalls Tryz.prog 76 [.agg [.int .i64 f, .int .i64 c], .int .i64 n] H (fun v H' => v = .tup [.agg [.int .i64 (grF f c n), .int .i64 (grC c n)], .int .i64 0] ∧ H' = H) := by
  have ka := arcB_iff.1 ha
  (refine ACalls_run try_mixed Tryz.func76 true _ rfl (Nat.le_of_ble_eq_true (by kernel_rfl)) (by kernel_rfl) ?_; intro hbel Q hQ hQ' c hc; unfold Tryz.f76 at hc; simp only [Option.some.injEq] at hc; subst hc; clear hQ')
  have g'7 := @ha
  refine runTf g'7 ?_
  refine call_v (by kernel_rfl) (varc_c _ f c) ?_
  refine runTf g'7 ?_
  refine gd_split (fun h1 => ?_) (fun h1 => ?_)
  · have h1d := h1
    try simp only [boolset, beq_iff_eq, ne_eq] at h1d
    have g'8 := (jn @h1 (jn @h1d g'7))
    refine runTf g'8 ?_
    refine cond_split (fun h2 => ?_) (fun h2 => ?_)
    · have h2d := h2
      try simp only [boolset, beq_iff_eq, ne_eq] at h2d
      omega
    · have h2d := h2
      try simp only [boolset, beq_iff_eq, ne_eq] at h2d
      have g'9 := (jn @h2 (jn @h2d g'8))
      refine runTf g'9 ?_
      refine call_v (by kernel_rfl) (harc_c _ (f - n) (c + (2 * n)) (by omega)) ?_
      refine runTf g'9 ?_
      exact hQ _ _ (end_plain (.inl rfl) hbel (x := .tup [.agg [.int .i64 (arcF (f - n) (c + (2 * n))), .int .i64 (arcC (c + (2 * n)))], .int .i64 0]) (resT Tryz.results76) rfl ⟨rfl, rfl⟩)
  · have h1d := h1
    try simp only [boolset, beq_iff_eq, ne_eq] at h1d
    omega
set_option maxHeartbeats 4000000 in
set_option maxRecDepth 100000 in
theorem rgrow_c (H : AHeap) (f : Int) (c : Int) (n : Int) (ha : arcB f c = true) (hn : 0 ≤ n ∧ n ≤ 256) : ACalls Tryz.prog 82 [.agg [.int .i64 f, .int .i64 c], .int .i64 n] H (fun v H' => v = .tup [.agg [.int .i64 (grF f c n), .int .i64 (grC c n)], .int .i64 0] ∧ H' = H) := by
  have ka := arcB_iff.1 ha
  (refine ACalls_run try_mixed Tryz.func82 true _ rfl (Nat.le_of_ble_eq_true (by kernel_rfl)) (by kernel_rfl) ?_; intro hbel Q hQ hQ' c hc; unfold Tryz.f82 at hc; simp only [Option.some.injEq] at hc; subst hc; clear hQ')
  have g'10 := @ha
  refine runTf g'10 ?_
  refine call_v (by kernel_rfl) (r4varc_c _ f c) ?_
  refine runTf g'10 ?_
  refine gd_split (fun h1 => ?_) (fun h1 => ?_)
  · have h1d := h1
    try simp only [boolset, beq_iff_eq, ne_eq] at h1d
    have g'11 := (jn @h1 (jn @h1d g'10))
    refine runTf g'11 ?_
    refine cond_split (fun h2 => ?_) (fun h2 => ?_)
    · have h2d := h2
      try simp only [boolset, beq_iff_eq, ne_eq] at h2d
      omega
    · have h2d := h2
      try simp only [boolset, beq_iff_eq, ne_eq] at h2d
      have g'12 := (jn @h2 (jn @h2d g'11))
      refine runTf g'12 ?_
      refine call_v (by kernel_rfl) (rarc_c _ (f - n) (c + (2 * n)) (by omega)) ?_
      refine runTf g'12 ?_
      exact hQ _ _ (end_plain (.inl rfl) hbel (x := .tup [.agg [.int .i64 (arcF (f - n) (c + (2 * n))), .int .i64 (arcC (c + (2 * n)))], .int .i64 0]) (resT Tryz.results82) rfl ⟨rfl, rfl⟩)
  · have h1d := h1
    try simp only [boolset, beq_iff_eq, ne_eq] at h1d
    omega
set_option maxHeartbeats 4000000 in
set_option maxRecDepth 100000 in
theorem hlist_c (H : AHeap) (f : Int) (c : Int) (ha : arcB f c = true) : ACalls Tryz.prog 77 [.agg [.int .i64 f, .int .i64 c]] H (fun v H' => v = .sl (some (H.length, 0)) ((mrkL f c.toNat).length) none ∧ H' = H ++ [.cells true 1 (ints .i64 (mrkL f c.toNat))]) := by
  have ka := arcB_iff.1 ha
  have harep := arep_z (k := .i64) (n := c.toNat)
  have hrt : ((c.toNat : Nat) : Int) = c := by omega
  (refine ACalls_run try_mixed Tryz.func77 true _ rfl (Nat.le_of_ble_eq_true (by kernel_rfl)) (by kernel_rfl) ?_; intro hbel Q hQ hQ' c hc; unfold Tryz.f77 at hc; simp only [Option.some.injEq] at hc; subst hc; clear hQ')
  have g'13 := (jn @ha (jn @harep @hrt))
  refine runTf g'13 ?_
  refine call_v (by kernel_rfl) (varc_c _ f c) ?_
  have g'14 := (jn @ints_rep (jn @List.length_replicate.{0} g'13))
  refine runTf g'14 ?_
  refine go_loop try_mixed (by kernel_rfl) (fun k F Hx => ∃ i : Nat, i + k = c.toNat ∧ F = [(1, .ptr (some (H.length, 0))), (3, .sl (some (H.length + 1, 0)) ((lisS f c.toNat i).length) none), (12, .int .i64 ((c.toNat : Nat) : Int)), (13, .int .i64 ((i : Nat) : Int))] ∧ Hx = H ++ [.cells true 0 [.int .i64 f, .int .i64 c], .cells true 1 (ints .i64 (lisS f c.toNat i))]) (c.toNat) ?_ ?_
  · refine ⟨_, _, _, ⟨0, by omega, rfl, rfl⟩, Abs.byG hbel [] rfl [0, 1] (by decide) ?_⟩
    exact absRf (jn @lisS_0 (jn @List.length_replicate.{0} @hrt))
  · rintro k0 F Hx ⟨i, hm0, rfl, rfl⟩ J0 hJ0
    have hln := lisS_len (f := f) (n := c.toNat) (i := i) (by omega)
    have g'15 := (jn @ints_len (jn @ints_ones g'14))
    refine runTf g'15 ?_
    refine cond_split (fun h1 => ?_) (fun h1 => ?_)
    · have h1d := h1
      try simp only [boolset, beq_iff_eq, ne_eq] at h1d
      have hln2 := lisS_len (f := f) (n := c.toNat) (i := i + 1) (by omega)
      have hst : (lisS f c.toNat i).set i ((((f + ((i : Nat) : Int)) % 256).toNat : Nat) : Int) = lisS f c.toNat (i + 1) := by rw [show ((((f + ((i : Nat) : Int)) % 256).toNat : Nat) : Int) = (f + ((i : Nat) : Int)) % 256 by omega]; exact lisS_set (by omega)
      have g'16 := (jn @h1 (jn @h1d g'15))
      refine runTf g'16 ?_
      refine call_v (by kernel_rfl) (mark_c _ (f + ((i : Nat) : Int))) ?_
      have g'17 := (jn @ints_set1 (jn @List.length_set.{0} g'16))
      refine runTf g'17 ?_
      refine hJ0 _ _ ⟨k0 - 1, by omega, _, _, _, ⟨i + 1, by omega, rfl, rfl⟩, Abs.byG hbel [] rfl [0, 1] (by decide) ?_⟩
      exact absRf (jn @hst (jn @List.length_set.{0} (jn @hln (jn @hln2 @hrt))))
    · have h1d := h1
      try simp only [boolset, beq_iff_eq, ne_eq] at h1d
      obtain rfl : i = c.toNat := by omega
      have g'18 := (jn @h1 (jn @h1d g'15))
      refine runTf g'18 ?_
      refine hQ _ _ (end_byG (.inl rfl) hbel (x1 := .sl (some (H.length + 1, 0)) ((lisS f c.toNat c.toNat).length) none) (l2 := [.cells true 1 (ints .i64 (lisS f c.toNat c.toNat))]) (.sl (some (H.length, 0)) ((lisS f c.toNat c.toNat).length) none) (resT Tryz.results77) [] rfl [1] (by decide) ⟨by rw [lisS_n], by rw [lisS_n]⟩ ?_)
      exact absW
theorem hlistq_c (H : AHeap) (bf bc t tu : Int) (ha : arcB bf bc = true) (ht : 0 ≤ tu ∧ tu ≤ 8) : ACalls Tryz.prog 77 [.agg [.int .i64 (grF (shF bf bc t) (arcC bc) tu), .int .i64 (grC (arcC bc) tu)]] H (fun v H' => v = .sl (some (H.length, 0)) (mrkA bf bc t tu).length none ∧ H' = H ++ [.cells (true) 1 (ints .i64 (mrkA bf bc t tu))]) :=
  hlist_c H _ _ (by have k := arcB_iff.1 ha; refine arcF_ok ?_; unfold arcC; split <;> omega)
theorem rlistq_c (H : AHeap) (bf bc t tu : Int) (ha : arcB bf bc = true) (ht : 0 ≤ tu ∧ tu ≤ 8) : ACalls Tryz.prog 83 [.agg [.int .i64 (grF (shF bf bc t) (arcC bc) tu), .int .i64 (grC (arcC bc) tu)]] H (fun v H' => v = .sl (some (H.length, 0)) (mrkA bf bc t tu).length (capG (mrkA bf bc t tu).length) ∧ H' = H ++ [.cells (ownG (mrkA bf bc t tu).length) 1 (ints .i64 (mrkA bf bc t tu))]) :=
  rlist_c H _ _ (by have k := arcB_iff.1 ha; refine arcF_ok ?_; unfold arcC; split <;> omega)
set_option maxHeartbeats 4000000 in
set_option maxRecDepth 100000 in
theorem rect_c (H : AHeap) (x0 : Int) (y0 : Int) (x1 : Int) (y1 : Int) (f : Int) (c : Int) (ha : bxB x0 y0 x1 y1 f c = true) : ACalls Tryz.prog 79 [.agg [.int .i64 x0, .int .i64 y0, .int .i64 x1, .int .i64 y1, .int .i64 f, .int .i64 c]] H (fun v H' => v = .agg [.int .i64 x0, .int .i64 y0, .int .i64 x1, .int .i64 y1] ∧ H' = H) := by
  (refine ACalls_run try_mixed Tryz.func79 true _ rfl (Nat.le_of_ble_eq_true (by kernel_rfl)) (by kernel_rfl) ?_; intro hbel Q hQ hQ' c hc; unfold Tryz.f79 at hc; simp only [Option.some.injEq] at hc; subst hc; clear hQ')
  have g'19 := @ha
  refine runTf g'19 ?_
  refine call_v (by kernel_rfl) (bxv_c _ x0 y0 x1 y1 f c) ?_
  refine runTf g'19 ?_
  exact hQ _ _ (end_plain (.inl rfl) hbel (x := .agg [.int .i64 x0, .int .i64 y0, .int .i64 x1, .int .i64 y1]) (resT Tryz.results79) rfl ⟨rfl, rfl⟩)
end Go.Proofs.YtoimakfecmhjkaaGreat

/- Walks by the abstract machine: Safe. Conditions: as each theorem states. -/
namespace Go.Proofs.YtoimakfecmhjkaaGreat
set_option linter.unusedSimpArgs false
set_option linter.unusedVariables false
open Go.RowKit
set_option maxHeartbeats 4000000 in
set_option maxRecDepth 100000 in
theorem safe_c (H : AHeap) (W : Int) (Hh : Int) (pp : AV) (xs : List Int) (s : AV) (l : List T6) (t : Int) (f : Int) (tu : Int) (le : Int) (sl : Int) (ra : Int) (hpp : Sl H 1 pp xs.length (ints .u8 xs)) (hs : Sl H 6 s l.length (r6 l)) (hl : l.length ≤ 1000000000) : ACalls Tryz.prog 21 [.agg [.int .i64 W, .int .i64 Hh, pp], s, .agg [.int .i64 t, .int .i64 f], .agg [.int .i64 tu, .int .i64 le, .int .i64 sl, .int .i64 ra]] H (fun v H' => v = .tup [.bool (saB W Hh xs l t f tu le sl ra), .int .i64 (saE W Hh xs l t f tu le sl ra)] ∧ H' = H) := by
  obtain ⟨bpp, opp, cpp, rfl, hbpp⟩ := hpp
  have hblpp := getElem?_lt hbpp
  have hb0pp := fun l => get_app (l := l) hbpp
  obtain ⟨bs, os, cs, rfl, hbs⟩ := hs
  have hbls := getElem?_lt hbs
  have hb0s := fun l => get_app (l := l) hbs
  (refine ACalls_run try_mixed Tryz.func21 true _ rfl (Nat.le_of_ble_eq_true (by kernel_rfl)) (by kernel_rfl) ?_; intro hbel Q hQ hQ' c hc; unfold Tryz.f21 at hc; simp only [Option.some.injEq] at hc; subst hc; clear hQ')
  have g'1 := (jn @hbpp (jn @hb0pp (jn @hbs @hb0s)))
  refine runTf g'1 ?_
  refine call_v (by kernel_rfl) (valid_a _ W Hh _ xs (.inr ⟨_, _, _, rfl, by first | exact hb0pp _ | exact hbpp⟩)) ?_
  refine runTf g'1 ?_
  refine gd_split (fun h1 => ?_) (fun h1 => ?_)
  · have h1d := h1
    try simp only [boolset, beq_iff_eq, ne_eq] at h1d
    have hV := h1d
    have g'2 := (jn @h1 (jn @h1d g'1))
    refine runTf g'2 ?_
    refine call_v (by kernel_rfl) (vset_c _ _ l ⟨_, _, _, rfl, by first | exact hb0s _ | exact hbs⟩ (by omega)) ?_
    refine runTf g'2 ?_
    refine gd_split (fun h2 => ?_) (fun h2 => ?_)
    · have h2d := h2
      try simp only [boolset, beq_iff_eq, ne_eq] at h2d
      have hS := h2d
      have hall := (setB_iff.1 hS).2
      have g'3 := (jn @h2 (jn @h2d g'2))
      refine runTf g'3 ?_
      refine call_v (by kernel_rfl) (vcmd_c _ t f) ?_
      refine runTf g'3 ?_
      refine gd_split (fun h3 => ?_) (fun h3 => ?_)
      · have h3d := h3
        try simp only [boolset, beq_iff_eq, ne_eq] at h3d
        have hC := h3d
        have g'4 := (jn @h3 (jn @h3d g'3))
        refine runTf g'4 ?_
        refine call_v (by kernel_rfl) (vbnd_c _ tu le sl ra) ?_
        refine runTf g'4 ?_
        refine cond_split (fun h4 => ?_) (fun h4 => ?_)
        · have h4d := h4
          try simp only [boolset, beq_iff_eq, ne_eq] at h4d
          have hz := saE_1 (W := W) (Hh := Hh) (xs := xs) (l := l) (t := t) (f := f) (tu := tu) (le := le) (sl := sl) (ra := ra) (fun hh => by simp [hh.1, hh.2.1, hh.2.2.1, hh.2.2.2] at h4d)
          have hfinE := hz.1
          have hfinB := hz.2
          have g'5 := (jn @h4 (jn @h4d g'4))
          refine runTf g'5 ?_
          exact hQ _ _ (end_plain (.inl rfl) hbel (x := .tup [.bool false, .int .i64 1]) (resT Tryz.results21) rfl ⟨by first | (rw [hfinE, hfinB]; done) | (rw [hfinB, hfinE]; done), rfl⟩)
        · have h4d := h4
          try simp only [boolset, beq_iff_eq, ne_eq] at h4d
          have hBd := h4d
          have hfinE : saE W Hh xs l t f tu le sl ra = 0 := saE_0 hV hS hC hBd
          have htu : 0 ≤ tu ∧ tu ≤ 8 := by have hh := hBd; simp only [bndB, Bool.and_eq_true, btw_iff] at hh; omega
          have hff : 0 ≤ f ∧ f ≤ 32 := by have hh := hC; simp only [cmdB, Bool.and_eq_true, btw_iff] at hh; omega
          have g'6 := (jn @h4 (jn @h4d g'4))
          refine runTf g'6 ?_
          refine cond_split (fun h5 => ?_) (fun h5 => ?_)
          · have h5d := h5
            try simp only [boolset, beq_iff_eq, ne_eq] at h5d
            have hfinB : saB W Hh xs l t f tu le sl ra = true := saB_z hfinE h5d
            have g'7 := (jn @h5 (jn @h5d (jn @int_bne (jn @int_beq g'6))))
            refine runTf g'7 ?_
            exact hQ _ _ (end_plain (.inl rfl) hbel (x := .tup [.bool true, .int .i64 0]) (resT Tryz.results21) rfl ⟨by first | (rw [hfinE, hfinB]; done) | (rw [hfinB, hfinE]; done), rfl⟩)
          · have h5d := h5
            try simp only [boolset, beq_iff_eq, ne_eq] at h5d
            have hf0 : ¬ f = 0 := h5d
            have g'8 := (jn @h5 (jn @h5d (jn @int_bne (jn @int_beq g'6))))
            refine runTf g'8 ?_
            refine go_loop try_mixed (by kernel_rfl) (fun k F Hx => ∃ i : Nat, i + k = l.length ∧ (∀ j : Nat, j < i → boxOK W Hh xs t f tu le sl ra (g6 l j) = true) ∧ F = [(4, .ptr (some (H.length, 0))), (6, .ptr (some (H.length + 1, 0))), (7, .ptr (some (H.length + 2, 0))), (37, .sl (some (bs, 0)) l.length cs), (38, .int .i64 ((l.length : Nat) : Int)), (39, .int .i64 ((i : Nat) : Int))] ∧ Hx = H ++ [.cells true 0 [.int .i64 W, .int .i64 Hh, .sl (some (bpp, 0)) xs.length cpp], .cells true 0 [.int .i64 t, .int .i64 f], .cells true 0 [.int .i64 tu, .int .i64 le, .int .i64 sl, .int .i64 ra]]) (l.length) ?_ ?_
            · refine ⟨_, _, _, ⟨0, by omega, fun j h => by omega, rfl, rfl⟩, Abs.byG hbel [] rfl [0, 1, 2] (by decide) ?_⟩
              exact absW
            · rintro k0 F Hx ⟨i, hm0, hout, rfl, rfl⟩ J0 hJ0
              refine runTf g'8 ?_
              refine cond_split (fun h6 => ?_) (fun h6 => ?_)
              · have h6d := h6
                try simp only [boolset, beq_iff_eq, ne_eq] at h6d
                have hbi : bxB (g61 l i) (g62 l i) (g63 l i) (g64 l i) (g65 l i) (g66 l i) = true := hall (g6 l i) (g6_mem (by omega))
                have hai := (bxB_iff.1 hbi).2.2
                have hkai := arcB_iff.1 hai
                have hsai : arcB (shF (g65 l i) (g66 l i) t) (arcC (g66 l i)) = true := arcF_ok (by omega)
                have hmal := mrkA_len (t := t) hai htu
                have q7 := r6_load (l := l) (j := i) (by omega)
                have g'9 := (jn @h6 (jn @h6d (jn @r6_len (jn @q7 g'8))))
                refine runTf g'9 ?_
                refine call_v (by kernel_rfl) (hshift_c _ (g65 l i) (g66 l i) t (by assumption)) ?_
                refine runTf g'9 ?_
                refine call_v (by kernel_rfl) (hgrow_c _ (shF (g65 l i) (g66 l i) t) (arcC (g66 l i)) tu (by assumption) (by omega)) ?_
                refine runTf g'9 ?_
                refine call_v (by kernel_rfl) (hlistq_c _ (g65 l i) (g66 l i) t tu (by assumption) (by assumption)) ?_
                refine runTf g'9 ?_
                refine go_loop try_mixed (by kernel_rfl) (fun k F Hx => ∃ m : Nat, m + k = (mrkA (g65 l i) (g66 l i) t tu).length ∧ (∀ j : Nat, j < m → unhB W Hh xs (g61 l i) (g62 l i) (g63 l i) (g64 l i) (gi (mrkA (g65 l i) (g66 l i) t tu) j) t f tu le sl ra = true) ∧ F = [(4, .ptr (some (H.length, 0))), (6, .ptr (some (H.length + 1, 0))), (7, .ptr (some (H.length + 2, 0))), (11, .ptr (some (H.length + 3, 0))), (37, .sl (some (bs, 0)) l.length cs), (38, .int .i64 ((l.length : Nat) : Int)), (39, .int .i64 ((i : Nat) : Int)), (62, .sl (some (H.length + 4, 0)) ((mrkA (g65 l i) (g66 l i) t tu).length) none), (63, .int .i64 (((mrkA (g65 l i) (g66 l i) t tu).length : Nat) : Int)), (64, .int .i64 ((m : Nat) : Int))] ∧ Hx = H ++ [.cells true 0 [.int .i64 W, .int .i64 Hh, .sl (some (bpp, 0)) xs.length cpp], .cells true 0 [.int .i64 t, .int .i64 f], .cells true 0 [.int .i64 tu, .int .i64 le, .int .i64 sl, .int .i64 ra], .cells true 0 [.int .i64 (g61 l i), .int .i64 (g62 l i), .int .i64 (g63 l i), .int .i64 (g64 l i), .int .i64 (g65 l i), .int .i64 (g66 l i)], .cells true 1 (ints .i64 (mrkA (g65 l i) (g66 l i) t tu))]) ((mrkA (g65 l i) (g66 l i) t tu).length) ?_ ?_
                · refine ⟨_, _, _, ⟨0, by omega, fun j h => by omega, rfl, rfl⟩, Abs.byG hbel [] rfl [0, 1, 2, 3, 5] (by decide) ?_⟩
                  exact absR
                · rintro k1 F Hx ⟨m, hm1, him, rfl, rfl⟩ J1 hJ1
                  have g'10 := (jn @ints_len (jn @ints_ones g'9))
                  refine runTf g'10 ?_
                  refine cond_split (fun h8 => ?_) (fun h8 => ?_)
                  · have h8d := h8
                    try simp only [boolset, beq_iff_eq, ne_eq] at h8d
                    have hmL : m < (mrkA (g65 l i) (g66 l i) t tu).length := by omega
                    have q9 := ints_get (k := .i64) (xs := mrkA (g65 l i) (g66 l i) t tu) (j := m) (by omega)
                    have g'11 := (jn @h8 (jn @h8d (jn @q9 g'10)))
                    refine runTf g'11 ?_
                    refine call_d (by kernel_rfl) (rect_c _ (g61 l i) (g62 l i) (g63 l i) (g64 l i) (g65 l i) (g66 l i) (by assumption)) ?_
                    refine runTf g'11 ?_
                    refine call_d (by kernel_rfl) (unh_c _ W Hh _ xs (g61 l i) (g62 l i) (g63 l i) (g64 l i) (gi (mrkA (g65 l i) (g66 l i) t tu) m) t f tu le sl ra ⟨_, _, _, rfl, by first | exact hb0pp _ | exact hbpp⟩ hV) ?_
                    refine runTf g'11 ?_
                    refine cond_split (fun h10 => ?_) (fun h10 => ?_)
                    · have h10d := h10
                      try simp only [boolset, beq_iff_eq, ne_eq] at h10d
                      have hfinB : saB W Hh xs l t f tu le sl ra = false := saB_f hf0 (j := i) (by omega) (boxOK_f (m := m) (by exact hmL) h10d)
                      have g'12 := (jn @h10 (jn @h10d g'11))
                      refine runTf g'12 ?_
                      exact hQ _ _ (end_plain (.inl rfl) hbel (x := .tup [.bool false, .int .i64 0]) (resT Tryz.results21) rfl ⟨by first | (rw [hfinE, hfinB]; done) | (rw [hfinB, hfinE]; done), rfl⟩)
                    · have h10d := h10
                      try simp only [boolset, beq_iff_eq, ne_eq] at h10d
                      have hua := h10d
                      have g'13 := (jn @h10 (jn @h10d g'11))
                      refine runTf g'13 ?_
                      refine hJ1 _ _ ⟨k1 - 1, by omega, _, _, _, ⟨m + 1, by omega, fun j hj => by
                                  rcases Nat.lt_or_ge j m with hji | hji
                                  · exact him j hji
                                  · rw [show j = m by omega]; exact hua, rfl, rfl⟩, Abs.byG hbel [] rfl [0, 1, 2, 3, 4] (by decide) ?_⟩
                      exact absRf @h5d
                  · have h8d := h8
                    try simp only [boolset, beq_iff_eq, ne_eq] at h8d
                    obtain rfl : m = (mrkA (g65 l i) (g66 l i) t tu).length := by omega
                    have hbok : boxOK W Hh xs t f tu le sl ra (g6 l i) = true := boxOK_t him
                    have g'14 := (jn @h8 (jn @h8d g'10))
                    refine runTf g'14 ?_
                    refine hJ0 _ _ ⟨k0 - 1, by omega, _, _, _, ⟨i + 1, by omega, fun j hj => by
                                rcases Nat.lt_or_ge j i with hji | hji
                                · exact hout j hji
                                · rw [show j = i by omega]; exact hbok, rfl, rfl⟩, Abs.byG hbel [] rfl [0, 1, 2] (by decide) ?_⟩
                    exact absWf @h5d
              · have h6d := h6
                try simp only [boolset, beq_iff_eq, ne_eq] at h6d
                obtain rfl : i = l.length := by omega
                have hfinB : saB W Hh xs l t f tu le sl ra = true := saB_t hfinE hout
                have g'15 := (jn @h6 (jn @h6d g'8))
                refine runTf g'15 ?_
                exact hQ _ _ (end_plain (.inl rfl) hbel (x := .tup [.bool true, .int .i64 0]) (resT Tryz.results21) rfl ⟨by first | (rw [hfinE, hfinB]; done) | (rw [hfinB, hfinE]; done), rfl⟩)
      · have h3d := h3
        try simp only [boolset, beq_iff_eq, ne_eq] at h3d
        have hz := saE_1 (W := W) (Hh := Hh) (xs := xs) (l := l) (t := t) (f := f) (tu := tu) (le := le) (sl := sl) (ra := ra) (fun hh => by simp [hh.1, hh.2.1, hh.2.2.1, hh.2.2.2] at h3d)
        have hfinE := hz.1
        have hfinB := hz.2
        have g'16 := (jn @h3 (jn @h3d g'3))
        refine runTf g'16 ?_
        exact hQ _ _ (end_plain (.inl rfl) hbel (x := .tup [.bool false, .int .i64 1]) (resT Tryz.results21) rfl ⟨by first | (rw [hfinE, hfinB]; done) | (rw [hfinB, hfinE]; done), rfl⟩)
    · have h2d := h2
      try simp only [boolset, beq_iff_eq, ne_eq] at h2d
      have hz := saE_1 (W := W) (Hh := Hh) (xs := xs) (l := l) (t := t) (f := f) (tu := tu) (le := le) (sl := sl) (ra := ra) (fun hh => by simp [hh.1, hh.2.1, hh.2.2.1, hh.2.2.2] at h2d)
      have hfinE := hz.1
      have hfinB := hz.2
      have g'17 := (jn @h2 (jn @h2d g'2))
      refine runTf g'17 ?_
      exact hQ _ _ (end_plain (.inl rfl) hbel (x := .tup [.bool false, .int .i64 1]) (resT Tryz.results21) rfl ⟨by first | (rw [hfinE, hfinB]; done) | (rw [hfinB, hfinE]; done), rfl⟩)
  · have h1d := h1
    try simp only [boolset, beq_iff_eq, ne_eq] at h1d
    have hz := saE_1 (W := W) (Hh := Hh) (xs := xs) (l := l) (t := t) (f := f) (tu := tu) (le := le) (sl := sl) (ra := ra) (fun hh => by simp [hh.1, hh.2.1, hh.2.2.1, hh.2.2.2] at h1d)
    have hfinE := hz.1
    have hfinB := hz.2
    have g'18 := (jn @h1 (jn @h1d g'1))
    refine runTf g'18 ?_
    exact hQ _ _ (end_plain (.inl rfl) hbel (x := .tup [.bool false, .int .i64 1]) (resT Tryz.results21) rfl ⟨by first | (rw [hfinE, hfinB]; done) | (rw [hfinB, hfinE]; done), rfl⟩)
end Go.Proofs.YtoimakfecmhjkaaGreat

/- Walks by the abstract machine: cells of a rectangle by the reference. Conditions: as each theorem states. -/
namespace Go.Proofs.YtoimakfecmhjkaaGreat
set_option linter.unusedSimpArgs false
set_option linter.unusedVariables false
open Go.RowKit
set_option maxHeartbeats 4000000 in
set_option maxRecDepth 100000 in
theorem rcells_c (H : AHeap) (x0 : Int) (y0 : Int) (x1 : Int) (y1 : Int) : ACalls Tryz.prog 69 [.agg [.int .i64 x0, .int .i64 y0, .int .i64 x1, .int .i64 y1]] H (fun v H' => v = .tup [.sl (some (H.length, 0)) ((cellsR x0 y0 x1 y1).length) (capG (cellsR x0 y0 x1 y1).length), .int .i64 (cellsE x0 y0 x1 y1)] ∧ H' = H ++ [.cells (ownG (cellsR x0 y0 x1 y1).length) 2 (prs (cellsR x0 y0 x1 y1))]) := by
  (refine ACalls_run try_mixed Tryz.func69 true _ rfl (Nat.le_of_ble_eq_true (by kernel_rfl)) (by kernel_rfl) ?_; intro hbel Q hQ hQ' c hc; unfold Tryz.f69 at hc; simp only [Option.some.injEq] at hc; subst hc; clear hQ')
  refine runT ?_
  refine call_v (by kernel_rfl) (r8right_c _ x0 y0 x1 y1) ?_
  refine runT ?_
  refine cond_split (fun h1 => ?_) (fun h1 => ?_)
  · have h1d := h1
    try simp only [boolset, beq_iff_eq, ne_eq] at h1d
    have hfinE : cellsE x0 y0 x1 y1 = 1 := if_neg (by rw [← rgtB_eq]; simp [h1d])
    have hfinR : cellsR x0 y0 x1 y1 = [] := if_neg (by rw [hfinE]; decide)
    have g'1 := (jn @h1 @h1d)
    refine runTf g'1 ?_
    refine hQ _ _ (end_byG (.inl rfl) hbel (x1 := .tup [.sl none 0 (some 0), .int .i64 1]) (l2 := [.cells false 2 []]) (.tup [.sl (some (H.length, 0)) 0 (some 0), .int .i64 1]) (resT Tryz.results69) [.cells false 2 []] rfl [1] (by decide) ⟨by first | (rw [hfinR, hfinE]; done) | (rw [hfinR, hfinE]; rfl) | (rw [hfinR]; done) | (rw [hfinR]; rfl), by first | (rw [hfinR, hfinE]; done) | (rw [hfinR, hfinE]; rfl) | (rw [hfinR]; done) | (rw [hfinR]; rfl)⟩ ?_)
    exact absW
  · have h1d := h1
    try simp only [boolset, beq_iff_eq, ne_eq] at h1d
    have hok : rctB x0 y0 x1 y1 = true := by rw [← rgtB_eq]; exact h1d
    have hrc := rctB_iff.1 hok
    have hc1 := arN_bd hrc.1
    have hc2 := arN_bd hrc.2
    have hce := cells_eq hok
    have hcn := cells_num hok
    have hmm := mul_bd (a := x1 / 64 + 1 - (x0 / 64 - 1) - 2) (b := y1 / 64 + 1 - (y0 / 64 - 1) - 2) (A := 65536) (B := 65536) (by omega) (by omega)
    have g'2 := (jn @h1 @h1d)
    refine runTf g'2 ?_
    refine call_v (by kernel_rfl) (r8around_c _ x0 y0 x1 y1 (by omega) (by omega) (by omega) (by omega)) ?_
    refine runTf g'2 ?_
    refine cond_split (fun h2 => ?_) (fun h2 => ?_)
    · have h2d := h2
      try simp only [boolset, beq_iff_eq, ne_eq] at h2d
      have hfinE : cellsE x0 y0 x1 y1 = 6 := cells_many hok h2d
      have hfinR : cellsR x0 y0 x1 y1 = [] := if_neg (by rw [hfinE]; decide)
      have g'3 := (jn @h2 (jn @h2d g'2))
      refine runTf g'3 ?_
      refine hQ _ _ (end_byG (.inl rfl) hbel (x1 := .tup [.sl none 0 (some 0), .int .i64 6]) (l2 := [.cells false 2 []]) (.tup [.sl (some (H.length, 0)) 0 (some 0), .int .i64 6]) (resT Tryz.results69) [.cells false 2 []] rfl [2] (by decide) ⟨by first | (rw [hfinR, hfinE]; done) | (rw [hfinR, hfinE]; rfl) | (rw [hfinR]; done) | (rw [hfinR]; rfl), by first | (rw [hfinR, hfinE]; done) | (rw [hfinR, hfinE]; rfl) | (rw [hfinR]; done) | (rw [hfinR]; rfl)⟩ ?_)
      exact absW
    · have h2d := h2
      try simp only [boolset, beq_iff_eq, ne_eq] at h2d
      have g'4 := (jn @h2 (jn @h2d g'2))
      refine runTf g'4 ?_
      refine go_loop try_mixed (by kernel_rfl) (fun k F Hx => ∃ n : Nat, n + k = arN y0 y1 ∧ F = [(1, .ptr (some (H.length, 0))), (4, .sl (some (H.length + 2, 0)) ((gridR (ovlP x0 y0 x1 y1) (x0 / 64 - 1) (arN x0 x1) (y0 / 64 - 1) n).length) (capG (gridR (ovlP x0 y0 x1 y1) (x0 / 64 - 1) (arN x0 x1) (y0 / 64 - 1) n).length)), (5, .ptr (some (H.length + 1, 0))), (6, .int .i64 (y0 / 64 - 1 + ((n : Nat) : Int)))] ∧ Hx = H ++ [.cells true 0 [.int .i64 x0, .int .i64 y0, .int .i64 x1, .int .i64 y1], .cells true 0 [.int .i64 (x0 / 64 - 1), .int .i64 (y0 / 64 - 1), .int .i64 (x1 / 64 + 1), .int .i64 (y1 / 64 + 1)], .cells (ownG (gridR (ovlP x0 y0 x1 y1) (x0 / 64 - 1) (arN x0 x1) (y0 / 64 - 1) n).length) 2 (prs (gridR (ovlP x0 y0 x1 y1) (x0 / 64 - 1) (arN x0 x1) (y0 / 64 - 1) n))]) (arN y0 y1) ?_ ?_
      · refine ⟨_, _, _, ⟨0, by omega, rfl, rfl⟩, Abs.byG hbel [.cells false 2 []] rfl [0, 1, 2] (by decide) ?_⟩
        exact absRf (jn @gridR_0 (jn @Int.natCast_zero @Int.add_zero))
      · rintro k0 F Hx ⟨n, hm0, rfl, rfl⟩ J0 hJ0
        have g'5 := (jn @prs_len (jn @prs_one g'4))
        refine runTf g'5 ?_
        refine cond_split (fun h3 => ?_) (fun h3 => ?_)
        · have h3d := h3
          try simp only [boolset, beq_iff_eq, ne_eq] at h3d
          have g'6 := (jn @h3 (jn @h3d g'5))
          refine runTf g'6 ?_
          refine go_loop try_mixed (by kernel_rfl) (fun k F Hx => ∃ m : Nat, m + k = arN x0 x1 ∧ F = [(1, .ptr (some (H.length, 0))), (4, .sl (some (H.length + 2, 0)) ((gridR (ovlP x0 y0 x1 y1) (x0 / 64 - 1) (arN x0 x1) (y0 / 64 - 1) n ++ rowR (ovlP x0 y0 x1 y1) (x0 / 64 - 1) (y0 / 64 - 1 + ((n : Nat) : Int)) m).length) (capG (gridR (ovlP x0 y0 x1 y1) (x0 / 64 - 1) (arN x0 x1) (y0 / 64 - 1) n ++ rowR (ovlP x0 y0 x1 y1) (x0 / 64 - 1) (y0 / 64 - 1 + ((n : Nat) : Int)) m).length)), (5, .ptr (some (H.length + 1, 0))), (6, .int .i64 (y0 / 64 - 1 + ((n : Nat) : Int))), (7, .int .i64 (x0 / 64 - 1 + ((m : Nat) : Int)))] ∧ Hx = H ++ [.cells true 0 [.int .i64 x0, .int .i64 y0, .int .i64 x1, .int .i64 y1], .cells true 0 [.int .i64 (x0 / 64 - 1), .int .i64 (y0 / 64 - 1), .int .i64 (x1 / 64 + 1), .int .i64 (y1 / 64 + 1)], .cells (ownG (gridR (ovlP x0 y0 x1 y1) (x0 / 64 - 1) (arN x0 x1) (y0 / 64 - 1) n ++ rowR (ovlP x0 y0 x1 y1) (x0 / 64 - 1) (y0 / 64 - 1 + ((n : Nat) : Int)) m).length) 2 (prs (gridR (ovlP x0 y0 x1 y1) (x0 / 64 - 1) (arN x0 x1) (y0 / 64 - 1) n ++ rowR (ovlP x0 y0 x1 y1) (x0 / 64 - 1) (y0 / 64 - 1 + ((n : Nat) : Int)) m))]) (arN x0 x1) ?_ ?_
          · refine ⟨_, _, _, ⟨0, by omega, rfl, rfl⟩, Abs.byG hbel [] rfl [0, 1, 2] (by decide) ?_⟩
            exact absRf (jn @rowR_0 (jn @List.append_nil.{0} (jn @Int.natCast_zero @Int.add_zero)))
          · rintro k1 F Hx ⟨m, hm1, rfl, rfl⟩ J1 hJ1
            refine runTf g'6 ?_
            refine cond_split (fun h4 => ?_) (fun h4 => ?_)
            · have h4d := h4
              try simp only [boolset, beq_iff_eq, ne_eq] at h4d
              have hgb := grid_bd (p := ovlP x0 y0 x1 y1) (x0 := x0 / 64 - 1) (y0 := y0 / 64 - 1) (y := y0 / 64 - 1 + ((n : Nat) : Int)) (w := arN x0 x1) (n := n) (m := m) (by omega) (by omega) (by omega)
              have g'7 := (jn @h4 (jn @h4d g'6))
              refine runTf g'7 ?_
              refine call_d (by kernel_rfl) (bsquare_c _ (x0 / 64 - 1 + ((m : Nat) : Int)) (y0 / 64 - 1 + ((n : Nat) : Int)) (by omega) (by omega)) ?_
              refine runTf g'7 ?_
              refine call_d (by kernel_rfl) (r8ovl_c _ ((x0 / 64 - 1 + ((m : Nat) : Int)) * 64) ((y0 / 64 - 1 + ((n : Nat) : Int)) * 64) ((x0 / 64 - 1 + ((m : Nat) : Int)) * 64 + 64) ((y0 / 64 - 1 + ((n : Nat) : Int)) * 64 + 64) x0 y0 x1 y1) ?_
              refine runTf g'7 ?_
              refine cond_split (fun h5 => ?_) (fun h5 => ?_)
              · have h5d := h5
                try simp only [boolset, beq_iff_eq, ne_eq] at h5d
                have hov : ovlP x0 y0 x1 y1 (x0 / 64 - 1 + ((m : Nat) : Int)) (y0 / 64 - 1 + ((n : Nat) : Int)) = true := h5d
                have g'8 := (jn @h5 (jn @h5d (jn @capG_s g'7)))
                refine runTf g'8 ?_
                refine hJ1 _ _ ⟨k1 - 1, by omega, _, _, _, ⟨m + 1, by omega, rfl, rfl⟩, Abs.byG hbel [] rfl [0, 1, 5] (by decide) ?_⟩
                exact absRf (jn @rowR.eq_2 (jn @hov (jn @if_true.{1} (jn @if_false.{1} (jn @Bool.false_eq_true (jn @List.append_nil.{0} (jn @List.append_assoc.{0} (jn @Int.natCast_add (jn @Int.natCast_one @Int.add_assoc)))))))))
              · have h5d := h5
                try simp only [boolset, beq_iff_eq, ne_eq] at h5d
                have hov : ovlP x0 y0 x1 y1 (x0 / 64 - 1 + ((m : Nat) : Int)) (y0 / 64 - 1 + ((n : Nat) : Int)) = false := by simpa [ovlP] using h5d
                have g'9 := (jn @h5 (jn @h5d g'7))
                refine runTf g'9 ?_
                refine hJ1 _ _ ⟨k1 - 1, by omega, _, _, _, ⟨m + 1, by omega, rfl, rfl⟩, Abs.byG hbel [] rfl [0, 1, 2] (by decide) ?_⟩
                exact absRf (jn @rowR.eq_2 (jn @hov (jn @if_true.{1} (jn @if_false.{1} (jn @Bool.false_eq_true (jn @List.append_nil.{0} (jn @List.append_assoc.{0} (jn @Int.natCast_add (jn @Int.natCast_one @Int.add_assoc)))))))))
            · have h4d := h4
              try simp only [boolset, beq_iff_eq, ne_eq] at h4d
              obtain rfl : m = arN x0 x1 := by omega
              have g'10 := (jn @h4 (jn @h4d g'6))
              refine runTf g'10 ?_
              refine hJ0 _ _ ⟨k0 - 1, by omega, _, _, _, ⟨n + 1, by omega, rfl, rfl⟩, Abs.byG hbel [] rfl [0, 1, 2] (by decide) ?_⟩
              exact absRf (jn @gridR_s (jn @Int.natCast_add (jn @Int.natCast_one @Int.add_assoc)))
        · have h3d := h3
          try simp only [boolset, beq_iff_eq, ne_eq] at h3d
          obtain rfl : n = arN y0 y1 := by omega
          have g'11 := (jn @h3 (jn @h3d g'5))
          refine runTf g'11 ?_
          refine cond_split (fun h6 => ?_) (fun h6 => ?_)
          · have h6d := h6
            try simp only [boolset, beq_iff_eq, ne_eq] at h6d
            have hfinE : cellsE x0 y0 x1 y1 = 6 := by have hh := h6d; rw [hce] at hh; unfold cellsE; rw [if_pos hok, if_pos (by omega)]
            have hfinR : cellsR x0 y0 x1 y1 = [] := if_neg (by rw [hfinE]; decide)
            have g'12 := (jn @h6 (jn @h6d g'11))
            refine runTf g'12 ?_
            refine hQ _ _ (end_byG (.inl rfl) hbel (x1 := .tup [.sl none 0 (some 0), .int .i64 6]) (l2 := [.cells false 2 []]) (.tup [.sl (some (H.length, 0)) 0 (some 0), .int .i64 6]) (resT Tryz.results69) [.cells false 2 []] rfl [3] (by decide) ⟨by first | (rw [hfinR, hfinE]; done) | (rw [hfinR, hfinE]; rfl) | (rw [hfinR]; done) | (rw [hfinR]; rfl), by first | (rw [hfinR, hfinE]; done) | (rw [hfinR, hfinE]; rfl) | (rw [hfinR]; done) | (rw [hfinR]; rfl)⟩ ?_)
            exact absW
          · have h6d := h6
            try simp only [boolset, beq_iff_eq, ne_eq] at h6d
            have hfinE : cellsE x0 y0 x1 y1 = 0 := by have hh := h6d; rw [hce] at hh; unfold cellsE; rw [if_pos hok, if_neg (by omega)]
            have hfinR : cellsR x0 y0 x1 y1 = gridR (ovlP x0 y0 x1 y1) (x0 / 64 - 1) (arN x0 x1) (y0 / 64 - 1) (arN y0 y1) := by rw [hce]; exact if_pos hfinE
            have g'13 := (jn @h6 (jn @h6d g'11))
            refine runTf g'13 ?_
            refine hQ _ _ (end_byG (.inl rfl) hbel (x1 := .tup [.sl (some (H.length + 2, 0)) ((gridR (ovlP x0 y0 x1 y1) (x0 / 64 - 1) (arN x0 x1) (y0 / 64 - 1) (arN y0 y1)).length) (capG (gridR (ovlP x0 y0 x1 y1) (x0 / 64 - 1) (arN x0 x1) (y0 / 64 - 1) (arN y0 y1)).length), .int .i64 0]) (l2 := [.cells (ownG (gridR (ovlP x0 y0 x1 y1) (x0 / 64 - 1) (arN x0 x1) (y0 / 64 - 1) (arN y0 y1)).length) 2 (prs (gridR (ovlP x0 y0 x1 y1) (x0 / 64 - 1) (arN x0 x1) (y0 / 64 - 1) (arN y0 y1)))]) (.tup [.sl (some (H.length, 0)) ((gridR (ovlP x0 y0 x1 y1) (x0 / 64 - 1) (arN x0 x1) (y0 / 64 - 1) (arN y0 y1)).length) (capG (gridR (ovlP x0 y0 x1 y1) (x0 / 64 - 1) (arN x0 x1) (y0 / 64 - 1) (arN y0 y1)).length), .int .i64 0]) (resT Tryz.results69) [] rfl [2] (by decide) ⟨by first | (rw [hfinR, hfinE]; done) | (rw [hfinR, hfinE]; rfl) | (rw [hfinR]; done) | (rw [hfinR]; rfl), by first | (rw [hfinR, hfinE]; done) | (rw [hfinR, hfinE]; rfl) | (rw [hfinR]; done) | (rw [hfinR]; rfl)⟩ ?_)
            exact absW
end Go.Proofs.YtoimakfecmhjkaaGreat

/- Walks by the abstract machine: Apart of the reference. Conditions: as each theorem states. -/
namespace Go.Proofs.YtoimakfecmhjkaaGreat
set_option linter.unusedSimpArgs false
set_option linter.unusedVariables false
open Go.RowKit
set_option maxHeartbeats 4000000 in
set_option maxRecDepth 100000 in
theorem rapart_c (H : AHeap) (x : Int) (y : Int) (s : AV) (l : List (Int × Int)) (x0 : Int) (y0 : Int) (x1 : Int) (y1 : Int) (hs : Sl H 2 s l.length (prs l)) (hl : l.length ≤ 1000000) : ACalls Tryz.prog 70 [.agg [.int .i64 x, .int .i64 y, s], .agg [.int .i64 x0, .int .i64 y0, .int .i64 x1, .int .i64 y1]] H (fun v H' => v = .bool (rapB x y l x0 y0 x1 y1) ∧ H' = H) := by
  obtain ⟨bs, os, cs, rfl, hbs⟩ := hs
  have hbls := getElem?_lt hbs
  have hb0s := fun l => get_app (l := l) hbs
  (refine ACalls_run try_mixed Tryz.func70 true _ rfl (Nat.le_of_ble_eq_true (by kernel_rfl)) (by kernel_rfl) ?_; intro hbel Q hQ hQ' c hc; unfold Tryz.f70 at hc; simp only [Option.some.injEq] at hc; subst hc; clear hQ')
  have g'1 := (jn @hbs @hb0s)
  refine runTf g'1 ?_
  refine call_v (by kernel_rfl) (rvalid_c _ x y _ l (.inr ⟨_, _, _, rfl, by first | exact hb0s _ | exact hbs⟩) (by omega)) ?_
  refine runTf g'1 ?_
  refine gd_split (fun h1 => ?_) (fun h1 => ?_)
  · have h1d := h1
    try simp only [Bool.not_eq_true', Bool.not_eq_false', decide_eq_true_eq, decide_eq_false_iff_not, beq_iff_eq, bne_iff_ne, ne_eq, Bool.not_eq_true, Bool.not_eq_false, beq_eq_false_iff_ne, bne_eq_false_iff_eq, Classical.not_not, Bool.and_eq_true, Bool.and_eq_false_imp] at h1d
    have hxy := valid_bd3 h1d
    have hv0 := h1d
    obtain ⟨hl16, hlB⟩ := valid_bd h1d
    have hB4 : ∀ e ∈ l, Bd 4194304 e := fun e he => by have := hlB e he; unfold Bd at *; omega
    have g'2 := (jn @h1 (jn @h1d g'1))
    refine runTf g'2 ?_
    refine call_v (by kernel_rfl) (ordered_c _ x0 y0 x1 y1) ?_
    refine runTf g'2 ?_
    refine cond_split (fun h2 => ?_) (fun h2 => ?_)
    · have h2d := h2
      try simp only [Bool.not_eq_true', Bool.not_eq_false', decide_eq_true_eq, decide_eq_false_iff_not, beq_iff_eq, bne_iff_ne, ne_eq, Bool.not_eq_true, Bool.not_eq_false, beq_eq_false_iff_ne, bne_eq_false_iff_eq, Classical.not_not, Bool.and_eq_true, Bool.and_eq_false_imp] at h2d
      have g'3 := (jn @h2 (jn @h2d g'2))
      refine runTf g'3 ?_
      exact hQ _ _ (end_plain (.inl rfl) hbel (x := .bool false) (resT Tryz.results70) rfl ⟨by simp [rapB, h1d, h2d], rfl⟩)
    · have h2d := h2
      try simp only [Bool.not_eq_true', Bool.not_eq_false', decide_eq_true_eq, decide_eq_false_iff_not, beq_iff_eq, bne_iff_ne, ne_eq, Bool.not_eq_true, Bool.not_eq_false, beq_eq_false_iff_ne, bne_eq_false_iff_eq, Classical.not_not, Bool.and_eq_true, Bool.and_eq_false_imp] at h2d
      obtain ⟨r1, r2, r3, r4, r5, r6⟩ := rap_facts hv0 h2d
      have hord := h2d
      simp only [ordR, Bool.and_eq_true, decide_eq_true_eq] at hord
      have hfar := far4_bd hord.2.2
      have hfar2 : (-2097152 ≤ 0 - x1 ∧ 0 - x1 ≤ 2097152) ∧ (-2097152 ≤ 0 - y1 ∧ 0 - y1 ≤ 2097152) ∧ (-2097152 ≤ 0 - x0 ∧ 0 - x0 ≤ 2097152) ∧ (-2097152 ≤ 0 - y0 ∧ 0 - y0 ≤ 2097152) := by omega
      have g'4 := (jn @h2 (jn @h2d g'2))
      refine runTf g'4 ?_
      refine call_v (by kernel_rfl) (rrect_c _ (0 - x1) (0 - y1) (0 - x0) (0 - y0) (by assumption)) ?_
      refine runTf g'4 ?_
      refine call_v (by kernel_rfl) (plus_c _ x y ((0 - x1) + (0 - x0)) ((0 - y1) + (0 - y0)) _ _ l (canonL (rR x0 y0 x1 y1)) ⟨_, _, _, rfl, by first | exact hb0s _ | exact hbs⟩ ⟨_, _, _, by first | rfl | (rw [List.length_append]; done) | (rw [List.length_append]; rfl), by first | rfl | (rw [get_newk]; rfl) | (rw [get_new0]; rfl) | (rw [get_newk, prs_append]; rfl) | (rw [get_new0, prs_append]; rfl)⟩ (by omega) (by assumption) (by assumption) (by omega) (by omega)) ?_
      refine runTf g'4 ?_
      refine call_v (by kernel_rfl) (rcorners_c _ (x + ((0 - x1) + (0 - x0))) (y + ((0 - y1) + (0 - y0))) _ (canonL (aA l x0 y0 x1 y1)) ⟨_, _, _, by first | rfl | (rw [List.length_append]; done) | (rw [List.length_append]; rfl), by first | rfl | (rw [get_newk]; rfl) | (rw [get_new0]; rfl) | (rw [get_newk, prs_append]; rfl) | (rw [get_new0, prs_append]; rfl)⟩ (by first | omega | (simp only [List.length_cons, List.length_nil]; omega) | exact Nat.le_trans (mkL_len _ _) (by first | omega | simp) | exact Nat.le_trans (vL_len _ _) (by first | omega | simp) | exact Nat.le_trans corV_len (by omega) | exact Nat.le_trans (canonL_len _) (by first | omega | simp)) (by assumption) (by omega)) ?_
      refine runTf g'4 ?_
      refine call_v (by kernel_rfl) (rin_c _ _ (aC x y l x0 y0 x1 y1) 0 0 ⟨_, _, _, by first | rfl | (rw [List.length_append]; done) | (rw [List.length_append]; rfl), by first | rfl | (rw [get_newk]; rfl) | (rw [get_new0]; rfl) | (rw [get_newk, prs_append]; rfl) | (rw [get_new0, prs_append]; rfl)⟩ (by first | omega | (simp only [List.length_cons, List.length_nil]; omega) | exact Nat.le_trans (mkL_len _ _) (by first | omega | simp) | exact Nat.le_trans (vL_len _ _) (by first | omega | simp) | exact Nat.le_trans corV_len (by omega) | exact Nat.le_trans (canonL_len _) (by first | omega | simp)) (by assumption) (by omega)) ?_
      refine runTf g'4 ?_
      exact hQ _ _ (end_plain (.inl rfl) hbel (x := .bool (!(inR (aC x y l x0 y0 x1 y1) (0, 0) (aC x y l x0 y0 x1 y1).length))) (resT Tryz.results70) rfl ⟨by simp [rapB, h1d, h2d], rfl⟩)
  · have h1d := h1
    try simp only [Bool.not_eq_true', Bool.not_eq_false', decide_eq_true_eq, decide_eq_false_iff_not, beq_iff_eq, bne_iff_ne, ne_eq, Bool.not_eq_true, Bool.not_eq_false, beq_eq_false_iff_ne, bne_eq_false_iff_eq, Classical.not_not, Bool.and_eq_true, Bool.and_eq_false_imp] at h1d
    have g'5 := (jn @h1 (jn @h1d g'1))
    refine runTf g'5 ?_
    exact hQ _ _ (end_plain (.inl rfl) hbel (x := .bool false) (resT Tryz.results70) rfl ⟨by simp [rapB, h1d], rfl⟩)
theorem rapart_a (H : AHeap) (x : Int) (y : Int) (s : AV) (l : List (Int × Int)) (x0 : Int) (y0 : Int) (x1 : Int) (y1 : Int) (hs : Sl H 2 s l.length (prs l)) (hl : l.length ≤ 1000000) : ACalls Tryz.prog 70 [.agg [.int .i64 x, .int .i64 y, s], .agg [.int .i64 x0, .int .i64 y0, .int .i64 x1, .int .i64 y1]] H (fun v H' => v = .bool (apartB x y l x0 y0 x1 y1) ∧ H' = H) := by
  have h := rapart_c H x y s l x0 y0 x1 y1 hs hl
  rwa [rap_eq] at h
end Go.Proofs.YtoimakfecmhjkaaGreat

/- Plain facts on the area: by the generators, by their canonical form, by the corners. Conditions: as each theorem states. -/
namespace Go.Proofs.YtoimakfecmhjkaaGreat
set_option linter.unusedSimpArgs false
set_option linter.unusedVariables false
open Go.RowKit
end Go.Proofs.YtoimakfecmhjkaaGreat

/- Walks by the abstract machine: Area, Bounds of the reference. Conditions: as each theorem states. -/
namespace Go.Proofs.YtoimakfecmhjkaaGreat
set_option linter.unusedSimpArgs false
set_option linter.unusedVariables false
open Go.RowKit
theorem corV_len {x y : Int} {l : List Pt} : (corV x y l).length ≤ 32 := by
  unfold corV
  split
  · rename_i hv
    have := (valid_bd hv).1
    have := canonL_len l
    rw [corR_len]; omega
  · simp
set_option maxHeartbeats 4000000 in
set_option maxRecDepth 100000 in
theorem rBounds_c (H : AHeap) (x : Int) (y : Int) (s : AV) (l : List (Int × Int)) (hs : Sl H 2 s l.length (prs l)) (hl : l.length ≤ 1000000) : ACalls Tryz.prog 16 [.agg [.int .i64 x, .int .i64 y, s]] H (fun v H' => v = .tup [.agg [.int .i64 (ifv (validB x y l) (x - spr (1, 0) l)), .int .i64 (ifv (validB x y l) (y - spr (0, 1) l)), .int .i64 (ifv (validB x y l) (x + spr (1, 0) l)), .int .i64 (ifv (validB x y l) (y + spr (0, 1) l))], .int .i64 (if (validB x y l) = true then 0 else 1)] ∧ H' = H) := by
  obtain ⟨bs, os, cs, rfl, hbs⟩ := hs
  have hbls := getElem?_lt hbs
  have hb0s := fun l => get_app (l := l) hbs
  (refine ACalls_run try_mixed Tryz.func16 true _ rfl (Nat.le_of_ble_eq_true (by kernel_rfl)) (by kernel_rfl) ?_; intro hbel Q hQ hQ' c hc; unfold Tryz.f16 at hc; simp only [Option.some.injEq] at hc; subst hc; clear hQ')
  have g'1 := (jn @hbs @hb0s)
  refine runTf g'1 ?_
  refine call_v (by kernel_rfl) (rvalid_c _ x y _ l (.inr ⟨_, _, _, rfl, by first | exact hb0s _ | exact hbs⟩) (by omega)) ?_
  refine runTf g'1 ?_
  refine cond_split (fun h1 => ?_) (fun h1 => ?_)
  · have h1d := h1
    try simp only [Bool.not_eq_true', Bool.not_eq_false', decide_eq_true_eq, decide_eq_false_iff_not, beq_iff_eq, bne_iff_ne, ne_eq, Bool.not_eq_true, Bool.not_eq_false, beq_eq_false_iff_ne, bne_eq_false_iff_eq, Classical.not_not, Bool.and_eq_true, Bool.and_eq_false_imp] at h1d
    have g'2 := (jn @h1 (jn @h1d g'1))
    refine runTf g'2 ?_
    exact hQ _ _ (end_plain (.inl rfl) hbel (x := .tup [.agg [.int .i64 0, .int .i64 0, .int .i64 0, .int .i64 0], .int .i64 1]) (resT Tryz.results16) rfl ⟨by first | (simp [ifv, h1d]; done) | (have e1 := spr_negl (1, 0) l; have e2 := spr_negl (0, 1) l; simp at e1 e2; simp [ifv, supI, hw1, hw2, hw3, e1, e2, h1d]; omega), rfl⟩)
  · have h1d := h1
    try simp only [Bool.not_eq_true', Bool.not_eq_false', decide_eq_true_eq, decide_eq_false_iff_not, beq_iff_eq, bne_iff_ne, ne_eq, Bool.not_eq_true, Bool.not_eq_false, beq_eq_false_iff_ne, bne_eq_false_iff_eq, Classical.not_not, Bool.and_eq_true, Bool.and_eq_false_imp] at h1d
    obtain ⟨hl16, hlB⟩ := valid_bd h1d
    have hxy := valid_bd3 h1d
    have hB2 : ∀ e ∈ l, Bd 268435456 e := fun e he => by have := hlB e he; unfold Bd at *; omega
    have hB4 : ∀ e ∈ l, Bd 4194304 e := fun e he => by have := hlB e he; unfold Bd at *; omega
    have hw1 : within (-1) 65536 = true := rfl
    have hw2 : within 0 65536 = true := rfl
    have hw3 : within 1 65536 = true := rfl
    have hs1 := spr_bd (n := (1, 0)) (by unfold Bd; simp) l hB2
    have hs2 := spr_bd (n := (0, 1)) (by unfold Bd; simp) l hB2
    have hs3 := spr_bd (n := (-1, 0)) (by unfold Bd; simp) l hB2
    have hs4 := spr_bd (n := (0, -1)) (by unfold Bd; simp) l hB2
    have hS : ∀ a b, -1 ≤ a ∧ a ≤ 1 → -1 ≤ b ∧ b ≤ 1 → -1152921504606846976 * 3 ≤ supI x y l a b ∧ supI x y l a b ≤ 1152921504606846976 * 3 := fun a b ha hb => by
      have hsa := spr_bd (n := (a, b)) (by unfold Bd; simp only; omega) l hB2
      have p1 := mul_bd (a := a) (b := x) (A := 1) (B := 8388608) (by omega) (by omega)
      have p2 := mul_bd (a := b) (b := y) (A := 1) (B := 8388608) (by omega) (by omega)
      unfold supI
      split <;> omega
    have hSa := hS (-1) 0 (by omega) (by omega)
    have hSb := hS 0 (-1) (by omega) (by omega)
    have g'3 := (jn @h1 (jn @h1d g'1))
    refine runTf g'3 ?_
    refine call_d (by kernel_rfl) (rsupport_c _ x y _ l (-1) 0 ⟨_, _, _, rfl, by first | exact hb0s _ | exact hbs⟩ (by first | omega | (simp only [List.length_cons, List.length_nil]; omega) | exact Nat.le_trans (mkL_len _ _) (by first | omega | simp) | exact Nat.le_trans (vL_len _ _) (by first | omega | simp) | exact Nat.le_trans corV_len (by omega) | exact Nat.le_trans (canonL_len _) (by first | omega | simp))) ?_
    refine runTf g'3 ?_
    refine call_d (by kernel_rfl) (rsupport_c _ x y _ l 0 (-1) ⟨_, _, _, rfl, by first | exact hb0s _ | exact hbs⟩ (by first | omega | (simp only [List.length_cons, List.length_nil]; omega) | exact Nat.le_trans (mkL_len _ _) (by first | omega | simp) | exact Nat.le_trans (vL_len _ _) (by first | omega | simp) | exact Nat.le_trans corV_len (by omega) | exact Nat.le_trans (canonL_len _) (by first | omega | simp))) ?_
    refine runTf g'3 ?_
    refine call_d (by kernel_rfl) (rsupport_c _ x y _ l 1 0 ⟨_, _, _, rfl, by first | exact hb0s _ | exact hbs⟩ (by first | omega | (simp only [List.length_cons, List.length_nil]; omega) | exact Nat.le_trans (mkL_len _ _) (by first | omega | simp) | exact Nat.le_trans (vL_len _ _) (by first | omega | simp) | exact Nat.le_trans corV_len (by omega) | exact Nat.le_trans (canonL_len _) (by first | omega | simp))) ?_
    refine runTf g'3 ?_
    refine call_d (by kernel_rfl) (rsupport_c _ x y _ l 0 1 ⟨_, _, _, rfl, by first | exact hb0s _ | exact hbs⟩ (by first | omega | (simp only [List.length_cons, List.length_nil]; omega) | exact Nat.le_trans (mkL_len _ _) (by first | omega | simp) | exact Nat.le_trans (vL_len _ _) (by first | omega | simp) | exact Nat.le_trans corV_len (by omega) | exact Nat.le_trans (canonL_len _) (by first | omega | simp))) ?_
    refine runTf g'3 ?_
    exact hQ _ _ (end_plain (.inl rfl) hbel (x := .tup [.agg [.int .i64 (0 - (supI x y l (-1) 0)), .int .i64 (0 - (supI x y l 0 (-1))), .int .i64 (supI x y l 1 0), .int .i64 (supI x y l 0 1)], .int .i64 0]) (resT Tryz.results16) rfl ⟨by first | (simp [ifv, h1d]; done) | (have e1 := spr_negl (1, 0) l; have e2 := spr_negl (0, 1) l; simp at e1 e2; simp [ifv, supI, hw1, hw2, hw3, e1, e2, h1d]; omega), rfl⟩)
end Go.Proofs.YtoimakfecmhjkaaGreat

/- Walks by the abstract machine: Touched by the reference. Conditions: as each theorem states. -/
namespace Go.Proofs.YtoimakfecmhjkaaGreat
set_option linter.unusedSimpArgs false
set_option linter.unusedVariables false
open Go.RowKit
theorem bfloor2_c (H : AHeap) (a : Int) (hw : -4611686018427387903 ≤ a ∧ a ≤ 4611686018427387903) : ACalls Tryz.prog 30 [.int .i64 (a + 1), .int .i64 2] H (fun v H' => v = .int .i64 (0 - (0 - a) / 2) ∧ H' = H) := by
  have h := bfloor_c H (a + 1) 2 (by omega) (by omega)
  rw [up2] at h
  exact h
theorem rcellsq_c (H : AHeap) (x y : Int) (l : List Pt) : ACalls Tryz.prog 69 [.agg [.int .i64 ((ifv (validB x y l) (x - spr (1, 0) l)) / 2), .int .i64 ((ifv (validB x y l) (y - spr (0, 1) l)) / 2), .int .i64 (0 - ((0 - (ifv (validB x y l) (x + spr (1, 0) l))) / 2)), .int .i64 (0 - ((0 - (ifv (validB x y l) (y + spr (0, 1) l))) / 2))]] H (fun v H' => v = .tup [.sl (some (H.length, 0)) (touQ x y l).length (capG (touQ x y l).length), .int .i64 (touF x y l)] ∧ H' = H ++ [.cells (ownG (touQ x y l).length) 2 (prs (touQ x y l))]) := rcells_c _ _ _ _ _
set_option maxHeartbeats 4000000 in
set_option maxRecDepth 100000 in
theorem rtouched_c (H : AHeap) (x : Int) (y : Int) (s : AV) (l : List (Int × Int)) (hs : Sl H 2 s l.length (prs l)) (hl : l.length ≤ 1000000) : ACalls Tryz.prog 18 [.agg [.int .i64 x, .int .i64 y, s]] H (fun v H' => v = .tup [.sl (some (H.length, 0)) ((touL x y l).length) (capG (touL x y l).length), .int .i64 (touE x y l)] ∧ H' = H ++ [.cells (ownG (touL x y l).length) 2 (prs (touL x y l))]) := by
  obtain ⟨bs, os, cs, rfl, hbs⟩ := hs
  have hbls := getElem?_lt hbs
  have hb0s := fun l => get_app (l := l) hbs
  (refine ACalls_run try_mixed Tryz.func18 false _ rfl (Nat.le_of_ble_eq_true (by kernel_rfl)) (by kernel_rfl) ?_; intro hbel Q hQ hQ' c hc; unfold Tryz.f18 at hc; simp only [Option.some.injEq] at hc; subst hc; clear hQ')
  have g'1 := (jn @hbs @hb0s)
  refine runTf g'1 ?_
  refine call_v (by kernel_rfl) (rBounds_c _ x y _ l ⟨_, _, _, rfl, by first | exact hb0s _ | exact hbs⟩ (by first | omega | (simp only [List.length_cons, List.length_nil]; omega) | exact Nat.le_trans (mkL_len _ _) (by first | omega | simp) | exact Nat.le_trans (vL_len _ _) (by first | omega | simp) | exact Nat.le_trans corV_len (by omega) | exact Nat.le_trans (canonL_len _) (by first | omega | simp))) ?_
  refine runTf g'1 ?_
  refine cond_split (fun h1 => ?_) (fun h1 => ?_)
  · have h1d := h1
    try simp only [boolset, beq_iff_eq, ne_eq] at h1d
    have hv0 : ¬ validB x y l = true := by intro hv; simp [hv] at h1d
    have hfinE : touE x y l = 1 := if_neg hv0
    have hfinC : touC x y l = [] := if_neg hv0
    have hfinL : touL x y l = [] := if_neg (by rw [hfinE]; decide)
    have g'2 := (jn @h1 (jn @h1d (jn @int_bne (jn @int_beq g'1))))
    refine runTf g'2 ?_
    refine hQ _ _ (end_byG (.inl rfl) hbel (x1 := .tup [.sl none 0 (some 0), .int .i64 (if (validB x y l) = true then 0 else 1)]) (l2 := [.cells false 2 []]) (.tup [.sl (some (H.length, 0)) 0 (some 0), .int .i64 (if (validB x y l) = true then 0 else 1)]) (resT Tryz.results18) [.cells false 2 []] rfl [2] (by decide) ⟨by first | (rw [hfinL, hfinE, if_neg hv0]; rfl) | (rw [hfinL, hfinE]; rfl) | (rw [hfinT, hfinE]; done) | (rw [hfinT, hfinE]; rfl), by first | (rw [hfinT]; done) | (rw [hfinT]; rfl) | (rw [hfinL]; rfl)⟩ ?_)
    exact absW
  · have h1d := h1
    try simp only [boolset, beq_iff_eq, ne_eq] at h1d
    have hv0 : validB x y l = true := by simpa using h1d
    have hbb := bnd_bd hv0
    have hfinC : touC x y l = touQ x y l := if_pos hv0
    have hEE : touE x y l = touF x y l := if_pos hv0
    have g'3 := (jn @h1 (jn @h1d (jn @int_bne (jn @int_beq g'1))))
    refine runTf g'3 ?_
    refine call_d (by kernel_rfl) (bfloor_c _ (ifv (validB x y l) (x - spr (1, 0) l)) 2 (by omega) (by omega)) ?_
    refine runTf g'3 ?_
    refine call_d (by kernel_rfl) (bfloor_c _ (ifv (validB x y l) (y - spr (0, 1) l)) 2 (by omega) (by omega)) ?_
    refine runTf g'3 ?_
    refine call_d (by kernel_rfl) (bfloor2_c _ (ifv (validB x y l) (x + spr (1, 0) l)) (by omega)) ?_
    refine runTf g'3 ?_
    refine call_d (by kernel_rfl) (bfloor2_c _ (ifv (validB x y l) (y + spr (0, 1) l)) (by omega)) ?_
    refine runTf g'3 ?_
    refine call_x (by kernel_rfl) (by simp) (rcellsq_c _ x y l) ?_
    refine runTf g'3 ?_
    refine cond_split (fun h2 => ?_) (fun h2 => ?_)
    · have h2d := h2
      try simp only [boolset, beq_iff_eq, ne_eq] at h2d
      have hne : ¬ touE x y l = 0 := by rw [hEE]; simpa using h2d
      have hfinE := hEE
      have hfinC2 : touC x y l = [] := by rw [hfinC]; exact if_neg (show ¬ touF x y l = 0 by rw [← hEE]; exact hne)
      have hfinL : touL x y l = [] := if_neg hne
      have g'4 := (jn @h2 (jn @h2d g'3))
      refine runTf g'4 ?_
      refine hQ _ _ (end_byG (.inl rfl) hbel (x1 := .tup [.sl none 0 (some 0), .int .i64 (touF x y l)]) (l2 := [.cells false 2 []]) (.tup [.sl (some (H.length, 0)) 0 (some 0), .int .i64 (touF x y l)]) (resT Tryz.results18) [.cells false 2 []] rfl [3] (by decide) ⟨by first | (rw [hfinL, hfinE, if_neg hv0]; rfl) | (rw [hfinL, hfinE]; rfl) | (rw [hfinT, hfinE]; done) | (rw [hfinT, hfinE]; rfl), by first | (rw [hfinT]; done) | (rw [hfinT]; rfl) | (rw [hfinL]; rfl)⟩ ?_)
      exact absW
    · have h2d := h2
      try simp only [boolset, beq_iff_eq, ne_eq] at h2d
      have hfinE : touE x y l = 0 := by rw [hEE]; simpa using h2d
      have hfinL : touL x y l = delL (apP x y l) (touC x y l) := if_pos hfinE
      have g'5 := (jn @h2 (jn @h2d g'3))
      refine runTf g'5 ?_
      refine go_loop try_mixed (by kernel_rfl) (fun k F Hx => ∃ i : Nat, i + k = (touQ x y l).length ∧ F = [(1, .ptr (some (H.length, 0))), (6, .sl (some (H.length + 1, 0)) ((touQ x y l).length) (capG (touQ x y l).length)), (7, .sl (some (H.length + 2, 0)) ((delL (apP x y l) ((touQ x y l).take i)).length) (capG (delL (apP x y l) ((touQ x y l).take i)).length)), (8, .int .i64 ((i : Nat) : Int))] ∧ Hx = H ++ [.cells true 0 [.int .i64 x, .int .i64 y, .sl (some (bs, 0)) l.length cs], .cells (ownG (touQ x y l).length) 2 (prs (touQ x y l)), .cells (ownG (delL (apP x y l) ((touQ x y l).take i)).length) 2 (prs (delL (apP x y l) ((touQ x y l).take i)))]) ((touQ x y l).length) ?_ ?_
      · refine ⟨_, _, _, ⟨0, by omega, rfl, rfl⟩, Abs.byG hbel [.cells false 2 []] rfl [0, 2, 3] (by decide) ?_⟩
        exact absRf (jn @List.take_zero.{0} @delL_nil)
      · rintro k0 F Hx ⟨i, hm0, rfl, rfl⟩ J0 hJ0
        have g'6 := (jn @prs_len (jn @prs_one g'5))
        refine runTf g'6 ?_
        refine cond_split (fun h3 => ?_) (fun h3 => ?_)
        · have h3d := h3
          try simp only [boolset, beq_iff_eq, ne_eq] at h3d
          have hlt : i < (touQ x y l).length := by omega
          have hpr := pr_eq hlt
          have hst := delL_step (p := apP x y l) hlt
          have hcb := touQ_bd _ (List.getElem_mem hlt)
          rw [← hpr] at hcb
          have hll := touQ_len x y l
          have hdl := delL_tk (p := apP x y l) (l := touQ x y l) (j := i) (by omega)
          have q4 := prs_load (l := touQ x y l) (j := i) (by omega)
          have g'7 := (jn @h3 (jn @h3d (jn @q4 g'6)))
          refine runTf g'7 ?_
          refine call_d (by kernel_rfl) (bsquare_c _ (g1 (touQ x y l) i) (g2 (touQ x y l) i) (by omega) (by omega)) ?_
          refine runTf g'7 ?_
          refine call_d (by kernel_rfl) (rapart_a _ x y _ l ((g1 (touQ x y l) i) * 64) ((g2 (touQ x y l) i) * 64) ((g1 (touQ x y l) i) * 64 + 64) ((g2 (touQ x y l) i) * 64 + 64) ⟨_, _, _, rfl, by first | exact hb0s _ | exact hbs⟩ (by omega)) ?_
          refine runTf g'7 ?_
          refine cond_split (fun h5 => ?_) (fun h5 => ?_)
          · have h5d := h5
            try simp only [boolset, beq_iff_eq, ne_eq] at h5d
            have hap := h5d
            rw [ap_eq, hpr] at hap
            rw [if_neg (by rw [hap]; decide), ← hpr] at hst
            have q6 := prs_load (l := touQ x y l) (j := i) (by omega)
            have g'8 := (jn @h5 (jn @h5d (jn @q6 (jn @capG_s g'7))))
            refine runTf g'8 ?_
            refine hJ0 _ _ ⟨k0 - 1, by omega, _, _, _, ⟨i + 1, by omega, rfl, rfl⟩, Abs.byG hbel [] rfl [0, 1, 4] (by decide) ?_⟩
            exact absRf (jn @hst (jn @h1d @h2d))
          · have h5d := h5
            try simp only [boolset, beq_iff_eq, ne_eq] at h5d
            have hap := h5d
            rw [ap_eq, hpr] at hap
            rw [if_pos hap, List.append_nil] at hst
            have g'9 := (jn @h5 (jn @h5d g'7))
            refine runTf g'9 ?_
            refine hJ0 _ _ ⟨k0 - 1, by omega, _, _, _, ⟨i + 1, by omega, rfl, rfl⟩, Abs.byG hbel [] rfl [0, 1, 2] (by decide) ?_⟩
            exact absRf (jn @hst (jn @h1d @h2d))
        · have h3d := h3
          try simp only [boolset, beq_iff_eq, ne_eq] at h3d
          obtain rfl : i = (touQ x y l).length := by omega
          have hfinT : delL (apP x y l) ((touQ x y l).take (touQ x y l).length) = touL x y l := by rw [hfinL, hfinC, List.take_length]
          have g'10 := (jn @h3 (jn @h3d g'6))
          refine runTf g'10 ?_
          refine hQ _ _ (end_byG (.inl rfl) hbel (x1 := .tup [.sl (some (H.length + 2, 0)) ((delL (apP x y l) ((touQ x y l).take (touQ x y l).length)).length) (capG (delL (apP x y l) ((touQ x y l).take (touQ x y l).length)).length), .int .i64 0]) (l2 := [.cells (ownG (delL (apP x y l) ((touQ x y l).take (touQ x y l).length)).length) 2 (prs (delL (apP x y l) ((touQ x y l).take (touQ x y l).length)))]) (.tup [.sl (some (H.length, 0)) ((delL (apP x y l) ((touQ x y l).take (touQ x y l).length)).length) (capG (delL (apP x y l) ((touQ x y l).take (touQ x y l).length)).length), .int .i64 0]) (resT Tryz.results18) [] rfl [2] (by decide) ⟨by first | (rw [hfinL, hfinE, if_neg hv0]; rfl) | (rw [hfinL, hfinE]; rfl) | (rw [hfinT, hfinE]; done) | (rw [hfinT, hfinE]; rfl), by first | (rw [hfinT]; done) | (rw [hfinT]; rfl) | (rw [hfinL]; rfl)⟩ ?_)
          exact absW
end Go.Proofs.YtoimakfecmhjkaaGreat

/- Walks by the abstract machine: Sweep of the reference. Conditions: as each theorem states. -/
namespace Go.Proofs.YtoimakfecmhjkaaGreat
set_option linter.unusedSimpArgs false
set_option linter.unusedVariables false
open Go.RowKit
theorem rofsq_0 (H : AHeap) (a : Int) (ha : 0 ≤ a ∧ a ≤ 1000) : ACalls Tryz.prog 58 [.agg [.int .i64 (0 - a), .int .i64 (0 - a), .int .i64 a, .int .i64 a]] H (fun v H' => v = .tup [.agg [.int .i64 0, .int .i64 0, .sl (some (H.length, 0)) (canonL (sqrL a)).length (capG (canonL (sqrL a)).length)], .int .i64 0] ∧ H' = H ++ [.cells (ownG (canonL (sqrL a)).length) 2 (prs (canonL (sqrL a)))]) := by
  have k := rofrect_0 H (0 - a) (0 - a) a a (if_pos ⟨by unfold far4; simp only [Bool.and_eq_true, within_iff]; omega, by omega, by omega, by omega, by omega⟩)
  rw [show (0 : Int) - a + a = 0 by omega] at k
  exact k
set_option maxHeartbeats 4000000 in
set_option maxRecDepth 100000 in
theorem rect4_c (H : AHeap) (x0 : Int) (y0 : Int) (x1 : Int) (y1 : Int) : ACalls Tryz.prog 56 [.agg [.int .i64 x0, .int .i64 y0, .int .i64 x1, .int .i64 y1]] H (fun v H' => v = .bool (recB x0 y0 x1 y1) ∧ H' = H) := by
  (refine ACalls_run try_mixed Tryz.func56 true _ rfl (Nat.le_of_ble_eq_true (by kernel_rfl)) (by kernel_rfl) ?_; intro hbel Q hQ hQ' c hc; unfold Tryz.f56 at hc; simp only [Option.some.injEq] at hc; subst hc; clear hQ')
  refine runT ?_
  refine call_v (by kernel_rfl) (bpoint_c _ x0 y0) ?_
  refine runT ?_
  refine gd_split (fun h1 => ?_) (fun h1 => ?_)
  · have h1d := h1
    try simp only [boolset, beq_iff_eq, ne_eq] at h1d
    have hwa := h1d
    simp only [within_iff] at hwa
    have g'1 := (jn @h1 @h1d)
    refine runTf g'1 ?_
    refine call_v (by kernel_rfl) (bpoint_c _ x1 y1) ?_
    refine runTf g'1 ?_
    refine gd_split (fun h2 => ?_) (fun h2 => ?_)
    · have h2d := h2
      try simp only [boolset, beq_iff_eq, ne_eq] at h2d
      have hwb := h2d
      simp only [within_iff] at hwb
      have g'2 := (jn @h2 (jn @h2d g'1))
      refine runTf g'2 ?_
      refine gd_split (fun h3 => ?_) (fun h3 => ?_)
      · have h3d := h3
        try simp only [boolset, beq_iff_eq, ne_eq] at h3d
        have g'3 := (jn @h3 (jn @h3d g'2))
        refine runTf g'3 ?_
        refine gd_split (fun h4 => ?_) (fun h4 => ?_)
        · have h4d := h4
          try simp only [boolset, beq_iff_eq, ne_eq] at h4d
          have g'4 := (jn @h4 (jn @h4d g'3))
          refine runTf g'4 ?_
          refine gd_split (fun h5 => ?_) (fun h5 => ?_)
          · have h5d := h5
            try simp only [boolset, beq_iff_eq, ne_eq] at h5d
            have g'5 := (jn @h5 (jn @h5d g'4))
            refine runTf g'5 ?_
            exact hQ _ _ (end_plain (.inl rfl) hbel (x := .bool (decide ((y1 - y0) ≤ 32768))) (resT Tryz.results56) rfl ⟨by first | (simp [recB, h1d, h2d, h3d, h4d, h5d]; done) | (simp [recB, h1d, h2d, h3d, h4d, h5d]; intros; simp_all; done) | (simp [recB, h1d, h2d, h3d, h4d, h5d]; intros; simp_all; omega), rfl⟩)
          · have h5d := h5
            try simp only [boolset, beq_iff_eq, ne_eq] at h5d
            have g'6 := (jn @h5 (jn @h5d g'4))
            refine runTf g'6 ?_
            exact hQ _ _ (end_plain (.inl rfl) hbel (x := .bool false) (resT Tryz.results56) rfl ⟨by first | (simp [recB, h1d, h2d, h3d, h4d, h5d]; done) | (simp [recB, h1d, h2d, h3d, h4d, h5d]; intros; simp_all; done) | (simp [recB, h1d, h2d, h3d, h4d, h5d]; intros; simp_all; omega), rfl⟩)
        · have h4d := h4
          try simp only [boolset, beq_iff_eq, ne_eq] at h4d
          have g'7 := (jn @h4 (jn @h4d g'3))
          refine runTf g'7 ?_
          exact hQ _ _ (end_plain (.inl rfl) hbel (x := .bool false) (resT Tryz.results56) rfl ⟨by first | (simp [recB, h1d, h2d, h3d, h4d]; done) | (simp [recB, h1d, h2d, h3d, h4d]; intros; simp_all; done) | (simp [recB, h1d, h2d, h3d, h4d]; intros; simp_all; omega), rfl⟩)
      · have h3d := h3
        try simp only [boolset, beq_iff_eq, ne_eq] at h3d
        have g'8 := (jn @h3 (jn @h3d g'2))
        refine runTf g'8 ?_
        exact hQ _ _ (end_plain (.inl rfl) hbel (x := .bool false) (resT Tryz.results56) rfl ⟨by first | (simp [recB, h1d, h2d, h3d]; done) | (simp [recB, h1d, h2d, h3d]; intros; simp_all; done) | (simp [recB, h1d, h2d, h3d]; intros; simp_all; omega), rfl⟩)
    · have h2d := h2
      try simp only [boolset, beq_iff_eq, ne_eq] at h2d
      have g'9 := (jn @h2 (jn @h2d g'1))
      refine runTf g'9 ?_
      exact hQ _ _ (end_plain (.inl rfl) hbel (x := .bool false) (resT Tryz.results56) rfl ⟨by first | (simp [recB, h1d, h2d]; done) | (simp [recB, h1d, h2d]; intros; simp_all; done) | (simp [recB, h1d, h2d]; intros; simp_all; omega), rfl⟩)
  · have h1d := h1
    try simp only [boolset, beq_iff_eq, ne_eq] at h1d
    have g'10 := (jn @h1 @h1d)
    refine runTf g'10 ?_
    exact hQ _ _ (end_plain (.inl rfl) hbel (x := .bool false) (resT Tryz.results56) rfl ⟨by first | (simp [recB, h1d]; done) | (simp [recB, h1d]; intros; simp_all; done) | (simp [recB, h1d]; intros; simp_all; omega), rfl⟩)
set_option maxHeartbeats 4000000 in
set_option maxRecDepth 100000 in
theorem rsweep_c (H : AHeap) (x0 : Int) (y0 : Int) (x1 : Int) (y1 : Int) (h : Int) (t : Int) (f : Int) (tu : Int) (le : Int) (sl : Int) (ra : Int) : ACalls Tryz.prog 14 [.agg [.int .i64 x0, .int .i64 y0, .int .i64 x1, .int .i64 y1], .int .i64 h, .agg [.int .i64 t, .int .i64 f], .agg [.int .i64 tu, .int .i64 le, .int .i64 sl, .int .i64 ra]] H (fun v H' => v = .tup [.agg [.int .i64 (mkX (sweE x0 y0 x1 y1 h t f tu le sl ra) (sweX x0 x1 h f le)), .int .i64 (mkX (sweE x0 y0 x1 y1 h t f tu le sl ra) (sweY y0 y1 h f le)), .sl (some (H.length, 0)) ((mkL (sweE x0 y0 x1 y1 h t f tu le sl ra) (sweL x0 y0 x1 y1 h f le sl)).length) (capG (mkL (sweE x0 y0 x1 y1 h t f tu le sl ra) (sweL x0 y0 x1 y1 h f le sl)).length)], .int .i64 (sweE x0 y0 x1 y1 h t f tu le sl ra)] ∧ H' = H ++ [.cells (ownG (mkL (sweE x0 y0 x1 y1 h t f tu le sl ra) (sweL x0 y0 x1 y1 h f le sl)).length) 2 (prs (mkL (sweE x0 y0 x1 y1 h t f tu le sl ra) (sweL x0 y0 x1 y1 h f le sl)))]) := by
  have hwx : (f + le) * (dirV h).1 / (dirV h).2.2 = wayX h (f + le) := rfl
  have hwy : (f + le) * (dirV h).2.1 / (dirV h).2.2 = wayY h (f + le) := rfl
  (refine ACalls_run try_mixed Tryz.func14 false _ rfl (Nat.le_of_ble_eq_true (by kernel_rfl)) (by kernel_rfl) ?_; intro hbel Q hQ hQ' c hc; unfold Tryz.f14 at hc; simp only [Option.some.injEq] at hc; subst hc; clear hQ')
  have g'11 := (jn @hwx @hwy)
  refine runTf g'11 ?_
  refine call_v (by kernel_rfl) (rect4_c _ x0 y0 x1 y1) ?_
  refine runTf g'11 ?_
  refine gd_split (fun h1 => ?_) (fun h1 => ?_)
  · have h1d := h1
    try simp only [boolset, beq_iff_eq, ne_eq] at h1d
    have g'12 := (jn @h1 (jn @h1d g'11))
    refine runTf g'12 ?_
    refine call_v (by kernel_rfl) (bcmd_c _ t f) ?_
    refine runTf g'12 ?_
    refine gd_split (fun h2 => ?_) (fun h2 => ?_)
    · have h2d := h2
      try simp only [boolset, beq_iff_eq, ne_eq] at h2d
      have g'13 := (jn @h2 (jn @h2d g'12))
      refine runTf g'13 ?_
      refine call_v (by kernel_rfl) (bbnd_c _ tu le sl ra) ?_
      refine runTf g'13 ?_
      refine cond_split (fun h3 => ?_) (fun h3 => ?_)
      · have h3d := h3
        try simp only [boolset, beq_iff_eq, ne_eq] at h3d
        have g'14 := (jn @h3 (jn @h3d g'13))
        refine runTf g'14 ?_
        refine hQ _ _ (end_byG (.inl rfl) hbel (x1 := .tup [.agg [.int .i64 0, .int .i64 0, .sl none 0 (some 0)], .int .i64 1]) (l2 := [.cells false 2 []]) (.tup [.agg [.int .i64 0, .int .i64 0, .sl (some (H.length, 0)) 0 (some 0)], .int .i64 1]) (resT Tryz.results14) [.cells false 2 []] rfl [4] (by decide) ⟨by first | (simp [mkX, mkL, sweE, sweB_eq, capG_0, ownG_0, prs_nil, h1d, h2d, h3d]; done) | (simp [mkX, mkL, sweE, hok, btw_h, capG_0, ownG_0, prs_nil, h1d, h2d, h3d]; done) | (rw [hfinE]; simp only [mkX_0, mkL_0, sweX, sweY, sweL, wayL, hlf, hfinF, if_true, if_false, sw_eq00, Int.add_zero]; done) | (rw [hfinE]; simp only [mkX_0, mkL_0, sweX, sweY, sweL, wayL, hlf, hfinF, if_true, if_false, sw_eq, Int.add_zero]; done), by first | (simp [mkX, mkL, sweE, sweB_eq, capG_0, ownG_0, prs_nil, h1d, h2d, h3d]; done) | (simp [mkX, mkL, sweE, hok, btw_h, capG_0, ownG_0, prs_nil, h1d, h2d, h3d]; done) | (rw [hfinE]; simp only [mkX_0, mkL_0, sweX, sweY, sweL, wayL, hlf, hfinF, if_true, if_false, sw_eq00, Int.add_zero]; done) | (rw [hfinE]; simp only [mkX_0, mkL_0, sweX, sweY, sweL, wayL, hlf, hfinF, if_true, if_false, sw_eq, Int.add_zero]; done)⟩ ?_)
        exact absW
      · have h3d := h3
        try simp only [boolset, beq_iff_eq, ne_eq] at h3d
        have hok : sweB x0 y0 x1 y1 t f tu le sl ra = true := by rw [sweB_eq]; simp [*]
        have hbd := swe_bd hok
        have hre : rectE x0 y0 x1 y1 = 0 := if_pos ⟨by unfold far4; simp only [Bool.and_eq_true, within_iff]; omega, by omega, by omega, by omega, by omega⟩
        have hrs := rec_spr (x0 := x0) (y0 := y0) (x1 := x1) (y1 := y1) (by omega) (by omega)
        have hq1 := sqr_spr (a := 20) (by omega)
        have hq2 := sqr_spr (a := sl + 21) (by omega)
        have hl1 := canonL_len (recL x0 y0 x1 y1)
        have hl2 : (recL x0 y0 x1 y1).length = 2 := rfl
        have g'15 := (jn @h3 (jn @h3d g'13))
        refine runTf g'15 ?_
        refine gd_split (fun h4 => ?_) (fun h4 => ?_)
        · have h4d := h4
          try simp only [boolset, beq_iff_eq, ne_eq] at h4d
          have g'16 := (jn @h4 (jn @h4d g'15))
          refine runTf g'16 ?_
          refine cond_split (fun h5 => ?_) (fun h5 => ?_)
          · have h5d := h5
            try simp only [boolset, beq_iff_eq, ne_eq] at h5d
            have g'17 := (jn @h5 (jn @h5d g'16))
            refine runTf g'17 ?_
            refine hQ _ _ (end_byG (.inl rfl) hbel (x1 := .tup [.agg [.int .i64 0, .int .i64 0, .sl none 0 (some 0)], .int .i64 2]) (l2 := [.cells false 2 []]) (.tup [.agg [.int .i64 0, .int .i64 0, .sl (some (H.length, 0)) 0 (some 0)], .int .i64 2]) (resT Tryz.results14) [.cells false 2 []] rfl [4] (by decide) ⟨by first | (simp [mkX, mkL, sweE, sweB_eq, capG_0, ownG_0, prs_nil, h1d, h2d, h3d, h4d, h5d]; done) | (simp [mkX, mkL, sweE, hok, btw_h, capG_0, ownG_0, prs_nil, h1d, h2d, h3d, h4d, h5d]; done) | (rw [hfinE]; simp only [mkX_0, mkL_0, sweX, sweY, sweL, wayL, hlf, hfinF, if_true, if_false, sw_eq00, Int.add_zero]; done) | (rw [hfinE]; simp only [mkX_0, mkL_0, sweX, sweY, sweL, wayL, hlf, hfinF, if_true, if_false, sw_eq, Int.add_zero]; done), by first | (simp [mkX, mkL, sweE, sweB_eq, capG_0, ownG_0, prs_nil, h1d, h2d, h3d, h4d, h5d]; done) | (simp [mkX, mkL, sweE, hok, btw_h, capG_0, ownG_0, prs_nil, h1d, h2d, h3d, h4d, h5d]; done) | (rw [hfinE]; simp only [mkX_0, mkL_0, sweX, sweY, sweL, wayL, hlf, hfinF, if_true, if_false, sw_eq00, Int.add_zero]; done) | (rw [hfinE]; simp only [mkX_0, mkL_0, sweX, sweY, sweL, wayL, hlf, hfinF, if_true, if_false, sw_eq, Int.add_zero]; done)⟩ ?_)
            exact absW
          · have h5d := h5
            try simp only [boolset, beq_iff_eq, ne_eq] at h5d
            have hfinE : sweE x0 y0 x1 y1 h t f tu le sl ra = 0 := by unfold sweE; rw [hok, show btw h 0 255 = true from btw_iff.2 (by omega)]; rfl
            have g'18 := (jn @h5 (jn @h5d g'16))
            refine runTf g'18 ?_
            refine cond_split (fun h6 => ?_) (fun h6 => ?_)
            · have h6d := h6
              try simp only [boolset, beq_iff_eq, ne_eq] at h6d
              have hfinF : f = 0 := h6d
              have hs00 : spr (1, 0) [(0, 0)] = 0 ∧ spr (0, 1) [(0, 0)] = 0 := ⟨rfl, rfl⟩
              have hwe : segE 0 0 0 0 = 0 := rfl
              have hz1 : sumE (x0 + x1) (y0 + y1) (canonL (recL x0 y0 x1 y1)) 0 0 (canonL [(0, 0)]) = 0 := sum_ok (by omega) (by omega) (by omega) (by omega) (by simp [recL]) (by omega) (by omega)
              have hz2 : sumE (x0 + x1 + 0) (y0 + y1 + 0) (canonL (canonL (recL x0 y0 x1 y1) ++ canonL [(0, 0)])) 0 0 (canonL (sqrL 20)) = 0 := sum_ok (by omega) (by omega) (by omega) (by omega) (by have a1 := canonL_len (recL x0 y0 x1 y1); have a2 := canonL_len [(0, 0)]; have a3 : (recL x0 y0 x1 y1).length = 2 := rfl; have a4 : (sqrL 20).length = 2 := rfl; rw [List.length_append]; simp only [List.length_cons, List.length_nil] at a2; omega) (by rw [spr_app, spr_canon, spr_canon]; omega) (by rw [spr_app, spr_canon, spr_canon]; omega)
              have hl3 := canonL_len [(0, 0)]
              simp only [List.length_cons, List.length_nil] at hl3
              have hl4 := canonL_len (canonL (recL x0 y0 x1 y1) ++ canonL [(0, 0)])
              rw [List.length_append] at hl4
              have hl5 := canonL_len (sqrL 20)
              have hl6 : (sqrL 20).length = 2 := rfl
              have g'19 := (jn @h6 (jn @h6d (jn @int_bne (jn @int_beq g'18))))
              refine runTf g'19 ?_
              refine call_v (by kernel_rfl) (rofrect_0 _ x0 y0 x1 y1 (by assumption)) ?_
              refine runTf g'19 ?_
              refine call_v (by kernel_rfl) (rofway_0 _ 0 0 (by assumption)) ?_
              refine runTf g'19 ?_
              refine call_v (by kernel_rfl) (rofsq_0 _ 20 (by omega)) ?_
              refine runTf g'19 ?_
              refine call_v (by kernel_rfl) (rSum_0 _ (x0 + x1) (y0 + y1) _ (canonL (recL x0 y0 x1 y1)) 0 0 _ (canonL [(0, 0)]) ⟨_, _, _, by first | rfl | (rw [List.length_append]; done) | (rw [List.length_append]; rfl), by first | rfl | (rw [get_newk]; rfl) | (rw [get_new0]; rfl) | (rw [get_newk, prs_append]; rfl) | (rw [get_new0, prs_append]; rfl)⟩ ⟨_, _, _, by first | rfl | (rw [List.length_append]; done) | (rw [List.length_append]; rfl), by first | rfl | (rw [get_newk]; rfl) | (rw [get_new0]; rfl) | (rw [get_newk, prs_append]; rfl) | (rw [get_new0, prs_append]; rfl)⟩ (by omega) (by omega) (by assumption)) ?_
              refine runTf g'19 ?_
              refine call_v (by kernel_rfl) (rSum_0 _ ((x0 + x1) + 0) ((y0 + y1) + 0) _ (canonL ((canonL (recL x0 y0 x1 y1)) ++ (canonL [(0, 0)]))) 0 0 _ (canonL (sqrL 20)) ⟨_, _, _, by first | rfl | (rw [List.length_append]; done) | (rw [List.length_append]; rfl), by first | rfl | (rw [get_newk]; rfl) | (rw [get_new0]; rfl) | (rw [get_newk, prs_append]; rfl) | (rw [get_new0, prs_append]; rfl)⟩ ⟨_, _, _, by first | rfl | (rw [List.length_append]; done) | (rw [List.length_append]; rfl), by first | rfl | (rw [get_newk]; rfl) | (rw [get_new0]; rfl) | (rw [get_newk, prs_append]; rfl) | (rw [get_new0, prs_append]; rfl)⟩ (by omega) (by omega) (by assumption)) ?_
              refine runTf g'19 ?_
              refine hQ _ _ (end_byG (.inl rfl) hbel (x1 := .tup [.agg [.int .i64 (((x0 + x1) + 0) + 0), .int .i64 (((y0 + y1) + 0) + 0), .sl (some (H.length + 12, 0)) ((canonL ((canonL ((canonL (recL x0 y0 x1 y1)) ++ (canonL [(0, 0)]))) ++ (canonL (sqrL 20)))).length) (capG (canonL ((canonL ((canonL (recL x0 y0 x1 y1)) ++ (canonL [(0, 0)]))) ++ (canonL (sqrL 20)))).length)], .int .i64 0]) (l2 := [.cells (ownG (canonL ((canonL ((canonL (recL x0 y0 x1 y1)) ++ (canonL [(0, 0)]))) ++ (canonL (sqrL 20)))).length) 2 (prs (canonL ((canonL ((canonL (recL x0 y0 x1 y1)) ++ (canonL [(0, 0)]))) ++ (canonL (sqrL 20)))))]) (.tup [.agg [.int .i64 (((x0 + x1) + 0) + 0), .int .i64 (((y0 + y1) + 0) + 0), .sl (some (H.length, 0)) ((canonL ((canonL ((canonL (recL x0 y0 x1 y1)) ++ (canonL [(0, 0)]))) ++ (canonL (sqrL 20)))).length) (capG (canonL ((canonL ((canonL (recL x0 y0 x1 y1)) ++ (canonL [(0, 0)]))) ++ (canonL (sqrL 20)))).length)], .int .i64 0]) (resT Tryz.results14) [] rfl [12] (by decide) ⟨by first | (simp [mkX, mkL, sweE, sweB_eq, capG_0, ownG_0, prs_nil, h1d, h2d, h3d, h4d, h5d, h6d, hfinE, hfinF]; done) | (simp [mkX, mkL, sweE, hok, btw_h, capG_0, ownG_0, prs_nil, h1d, h2d, h3d, h4d, h5d, h6d, hfinE, hfinF]; done) | (rw [hfinE]; simp only [mkX_0, mkL_0, sweX, sweY, sweL, wayL, hlf, hfinF, if_true, if_false, sw_eq00, Int.add_zero]; done) | (rw [hfinE]; simp only [mkX_0, mkL_0, sweX, sweY, sweL, wayL, hlf, hfinF, if_true, if_false, sw_eq, Int.add_zero]; done), by first | (simp [mkX, mkL, sweE, sweB_eq, capG_0, ownG_0, prs_nil, h1d, h2d, h3d, h4d, h5d, h6d, hfinE, hfinF]; done) | (simp [mkX, mkL, sweE, hok, btw_h, capG_0, ownG_0, prs_nil, h1d, h2d, h3d, h4d, h5d, h6d, hfinE, hfinF]; done) | (rw [hfinE]; simp only [mkX_0, mkL_0, sweX, sweY, sweL, wayL, hlf, hfinF, if_true, if_false, sw_eq00, Int.add_zero]; done) | (rw [hfinE]; simp only [mkX_0, mkL_0, sweX, sweY, sweL, wayL, hlf, hfinF, if_true, if_false, sw_eq, Int.add_zero]; done)⟩ ?_)
              exact absW
            · have h6d := h6
              try simp only [boolset, beq_iff_eq, ne_eq] at h6d
              have hfinF : ¬ f = 0 := h6d
              have hdv := vecOK_iff.1 (dirV_ok h)
              have hpx := mul_bd (a := f + le) (b := (dirV h).1) (A := 48) (B := 8065) (by omega) (by omega)
              have hpy := mul_bd (a := f + le) (b := (dirV h).2.1) (A := 48) (B := 8065) (by omega) (by omega)
              have hwb := way_bd h (m := f + le) (by omega)
              have hws := way_spr (h := h) (m := f + le) (by omega)
              have hwe : segE 0 0 (wayX h (f + le)) (wayY h (f + le)) = 0 := if_pos ⟨by unfold far4; simp only [Bool.and_eq_true, within_iff]; omega, by rw [within_iff]; omega, by rw [within_iff]; omega⟩
              have hz1 : sumE (x0 + x1) (y0 + y1) (canonL (recL x0 y0 x1 y1)) (wayX h (f + le)) (wayY h (f + le)) (canonL [(wayX h (f + le), wayY h (f + le))]) = 0 := sum_ok (by omega) (by omega) (by omega) (by omega) (by simp [recL]) (by omega) (by omega)
              have hz2 : sumE (x0 + x1 + wayX h (f + le)) (y0 + y1 + wayY h (f + le)) (canonL (canonL (recL x0 y0 x1 y1) ++ canonL [(wayX h (f + le), wayY h (f + le))])) 0 0 (canonL (sqrL (sl + 21))) = 0 := sum_ok (by omega) (by omega) (by omega) (by omega) (by have a1 := canonL_len (recL x0 y0 x1 y1); have a2 := canonL_len [(wayX h (f + le), wayY h (f + le))]; have a3 : (recL x0 y0 x1 y1).length = 2 := rfl; have a4 : (sqrL (sl + 21)).length = 2 := rfl; rw [List.length_append]; simp only [List.length_cons, List.length_nil] at a2; omega) (by rw [spr_app, spr_canon, spr_canon]; omega) (by rw [spr_app, spr_canon, spr_canon]; omega)
              have hl3 := canonL_len [(wayX h (f + le), wayY h (f + le))]
              simp only [List.length_cons, List.length_nil] at hl3
              have hl4 := canonL_len (canonL (recL x0 y0 x1 y1) ++ canonL [(wayX h (f + le), wayY h (f + le))])
              rw [List.length_append] at hl4
              have hl5 := canonL_len (sqrL (sl + 21))
              have hl6 : (sqrL (sl + 21)).length = 2 := rfl
              have g'20 := (jn @h6 (jn @h6d (jn @int_bne (jn @int_beq g'18))))
              refine runTf g'20 ?_
              refine call_v (by kernel_rfl) (rdir_c _ h) ?_
              refine runTf g'20 ?_
              refine call_d (by kernel_rfl) (bfloor_c _ ((f + le) * ((dirV h).1)) ((dirV h).2.2) (by omega) (by omega)) ?_
              refine runTf g'20 ?_
              refine call_d (by kernel_rfl) (bfloor_c _ ((f + le) * ((dirV h).2.1)) ((dirV h).2.2) (by omega) (by omega)) ?_
              refine runTf g'20 ?_
              refine call_v (by kernel_rfl) (rofrect_0 _ x0 y0 x1 y1 (by assumption)) ?_
              refine runTf g'20 ?_
              refine call_v (by kernel_rfl) (rofway_0 _ (wayX h (f + le)) (wayY h (f + le)) (by assumption)) ?_
              refine runTf g'20 ?_
              refine call_v (by kernel_rfl) (rofsq_0 _ (sl + 21) (by omega)) ?_
              refine runTf g'20 ?_
              refine call_v (by kernel_rfl) (rSum_0 _ (x0 + x1) (y0 + y1) _ (canonL (recL x0 y0 x1 y1)) (wayX h (f + le)) (wayY h (f + le)) _ (canonL [((wayX h (f + le)), (wayY h (f + le)))]) ⟨_, _, _, by first | rfl | (rw [List.length_append]; done) | (rw [List.length_append]; rfl), by first | rfl | (rw [get_newk]; rfl) | (rw [get_new0]; rfl) | (rw [get_newk, prs_append]; rfl) | (rw [get_new0, prs_append]; rfl)⟩ ⟨_, _, _, by first | rfl | (rw [List.length_append]; done) | (rw [List.length_append]; rfl), by first | rfl | (rw [get_newk]; rfl) | (rw [get_new0]; rfl) | (rw [get_newk, prs_append]; rfl) | (rw [get_new0, prs_append]; rfl)⟩ (by omega) (by omega) (by assumption)) ?_
              refine runTf g'20 ?_
              refine call_v (by kernel_rfl) (rSum_0 _ ((x0 + x1) + (wayX h (f + le))) ((y0 + y1) + (wayY h (f + le))) _ (canonL ((canonL (recL x0 y0 x1 y1)) ++ (canonL [((wayX h (f + le)), (wayY h (f + le)))]))) 0 0 _ (canonL (sqrL (sl + 21))) ⟨_, _, _, by first | rfl | (rw [List.length_append]; done) | (rw [List.length_append]; rfl), by first | rfl | (rw [get_newk]; rfl) | (rw [get_new0]; rfl) | (rw [get_newk, prs_append]; rfl) | (rw [get_new0, prs_append]; rfl)⟩ ⟨_, _, _, by first | rfl | (rw [List.length_append]; done) | (rw [List.length_append]; rfl), by first | rfl | (rw [get_newk]; rfl) | (rw [get_new0]; rfl) | (rw [get_newk, prs_append]; rfl) | (rw [get_new0, prs_append]; rfl)⟩ (by omega) (by omega) (by assumption)) ?_
              refine runTf g'20 ?_
              refine hQ _ _ (end_byG (.inl rfl) hbel (x1 := .tup [.agg [.int .i64 (((x0 + x1) + (wayX h (f + le))) + 0), .int .i64 (((y0 + y1) + (wayY h (f + le))) + 0), .sl (some (H.length + 13, 0)) ((canonL ((canonL ((canonL (recL x0 y0 x1 y1)) ++ (canonL [((wayX h (f + le)), (wayY h (f + le)))]))) ++ (canonL (sqrL (sl + 21))))).length) (capG (canonL ((canonL ((canonL (recL x0 y0 x1 y1)) ++ (canonL [((wayX h (f + le)), (wayY h (f + le)))]))) ++ (canonL (sqrL (sl + 21))))).length)], .int .i64 0]) (l2 := [.cells (ownG (canonL ((canonL ((canonL (recL x0 y0 x1 y1)) ++ (canonL [((wayX h (f + le)), (wayY h (f + le)))]))) ++ (canonL (sqrL (sl + 21))))).length) 2 (prs (canonL ((canonL ((canonL (recL x0 y0 x1 y1)) ++ (canonL [((wayX h (f + le)), (wayY h (f + le)))]))) ++ (canonL (sqrL (sl + 21))))))]) (.tup [.agg [.int .i64 (((x0 + x1) + (wayX h (f + le))) + 0), .int .i64 (((y0 + y1) + (wayY h (f + le))) + 0), .sl (some (H.length, 0)) ((canonL ((canonL ((canonL (recL x0 y0 x1 y1)) ++ (canonL [((wayX h (f + le)), (wayY h (f + le)))]))) ++ (canonL (sqrL (sl + 21))))).length) (capG (canonL ((canonL ((canonL (recL x0 y0 x1 y1)) ++ (canonL [((wayX h (f + le)), (wayY h (f + le)))]))) ++ (canonL (sqrL (sl + 21))))).length)], .int .i64 0]) (resT Tryz.results14) [] rfl [13] (by decide) ⟨by first | (simp [mkX, mkL, sweE, sweB_eq, capG_0, ownG_0, prs_nil, h1d, h2d, h3d, h4d, h5d, h6d, hfinE, hfinF]; done) | (simp [mkX, mkL, sweE, hok, btw_h, capG_0, ownG_0, prs_nil, h1d, h2d, h3d, h4d, h5d, h6d, hfinE, hfinF]; done) | (rw [hfinE]; simp only [mkX_0, mkL_0, sweX, sweY, sweL, wayL, hlf, hfinF, if_true, if_false, sw_eq00, Int.add_zero]; done) | (rw [hfinE]; simp only [mkX_0, mkL_0, sweX, sweY, sweL, wayL, hlf, hfinF, if_true, if_false, sw_eq, Int.add_zero]; done), by first | (simp [mkX, mkL, sweE, sweB_eq, capG_0, ownG_0, prs_nil, h1d, h2d, h3d, h4d, h5d, h6d, hfinE, hfinF]; done) | (simp [mkX, mkL, sweE, hok, btw_h, capG_0, ownG_0, prs_nil, h1d, h2d, h3d, h4d, h5d, h6d, hfinE, hfinF]; done) | (rw [hfinE]; simp only [mkX_0, mkL_0, sweX, sweY, sweL, wayL, hlf, hfinF, if_true, if_false, sw_eq00, Int.add_zero]; done) | (rw [hfinE]; simp only [mkX_0, mkL_0, sweX, sweY, sweL, wayL, hlf, hfinF, if_true, if_false, sw_eq, Int.add_zero]; done)⟩ ?_)
              exact absW
        · have h4d := h4
          try simp only [boolset, beq_iff_eq, ne_eq] at h4d
          have g'21 := (jn @h4 (jn @h4d g'15))
          refine runTf g'21 ?_
          refine hQ _ _ (end_byG (.inl rfl) hbel (x1 := .tup [.agg [.int .i64 0, .int .i64 0, .sl none 0 (some 0)], .int .i64 2]) (l2 := [.cells false 2 []]) (.tup [.agg [.int .i64 0, .int .i64 0, .sl (some (H.length, 0)) 0 (some 0)], .int .i64 2]) (resT Tryz.results14) [.cells false 2 []] rfl [4] (by decide) ⟨by first | (simp [mkX, mkL, sweE, sweB_eq, capG_0, ownG_0, prs_nil, h1d, h2d, h3d, h4d]; done) | (simp [mkX, mkL, sweE, hok, btw_h, capG_0, ownG_0, prs_nil, h1d, h2d, h3d, h4d]; done) | (rw [hfinE]; simp only [mkX_0, mkL_0, sweX, sweY, sweL, wayL, hlf, hfinF, if_true, if_false, sw_eq00, Int.add_zero]; done) | (rw [hfinE]; simp only [mkX_0, mkL_0, sweX, sweY, sweL, wayL, hlf, hfinF, if_true, if_false, sw_eq, Int.add_zero]; done), by first | (simp [mkX, mkL, sweE, sweB_eq, capG_0, ownG_0, prs_nil, h1d, h2d, h3d, h4d]; done) | (simp [mkX, mkL, sweE, hok, btw_h, capG_0, ownG_0, prs_nil, h1d, h2d, h3d, h4d]; done) | (rw [hfinE]; simp only [mkX_0, mkL_0, sweX, sweY, sweL, wayL, hlf, hfinF, if_true, if_false, sw_eq00, Int.add_zero]; done) | (rw [hfinE]; simp only [mkX_0, mkL_0, sweX, sweY, sweL, wayL, hlf, hfinF, if_true, if_false, sw_eq, Int.add_zero]; done)⟩ ?_)
          exact absW
    · have h2d := h2
      try simp only [boolset, beq_iff_eq, ne_eq] at h2d
      have g'22 := (jn @h2 (jn @h2d g'12))
      refine runTf g'22 ?_
      refine hQ _ _ (end_byG (.inl rfl) hbel (x1 := .tup [.agg [.int .i64 0, .int .i64 0, .sl none 0 (some 0)], .int .i64 1]) (l2 := [.cells false 2 []]) (.tup [.agg [.int .i64 0, .int .i64 0, .sl (some (H.length, 0)) 0 (some 0)], .int .i64 1]) (resT Tryz.results14) [.cells false 2 []] rfl [4] (by decide) ⟨by first | (simp [mkX, mkL, sweE, sweB_eq, capG_0, ownG_0, prs_nil, h1d, h2d]; done) | (simp [mkX, mkL, sweE, hok, btw_h, capG_0, ownG_0, prs_nil, h1d, h2d]; done) | (rw [hfinE]; simp only [mkX_0, mkL_0, sweX, sweY, sweL, wayL, hlf, hfinF, if_true, if_false, sw_eq00, Int.add_zero]; done) | (rw [hfinE]; simp only [mkX_0, mkL_0, sweX, sweY, sweL, wayL, hlf, hfinF, if_true, if_false, sw_eq, Int.add_zero]; done), by first | (simp [mkX, mkL, sweE, sweB_eq, capG_0, ownG_0, prs_nil, h1d, h2d]; done) | (simp [mkX, mkL, sweE, hok, btw_h, capG_0, ownG_0, prs_nil, h1d, h2d]; done) | (rw [hfinE]; simp only [mkX_0, mkL_0, sweX, sweY, sweL, wayL, hlf, hfinF, if_true, if_false, sw_eq00, Int.add_zero]; done) | (rw [hfinE]; simp only [mkX_0, mkL_0, sweX, sweY, sweL, wayL, hlf, hfinF, if_true, if_false, sw_eq, Int.add_zero]; done)⟩ ?_)
      exact absW
  · have h1d := h1
    try simp only [boolset, beq_iff_eq, ne_eq] at h1d
    have g'23 := (jn @h1 (jn @h1d g'11))
    refine runTf g'23 ?_
    refine hQ _ _ (end_byG (.inl rfl) hbel (x1 := .tup [.agg [.int .i64 0, .int .i64 0, .sl none 0 (some 0)], .int .i64 1]) (l2 := [.cells false 2 []]) (.tup [.agg [.int .i64 0, .int .i64 0, .sl (some (H.length, 0)) 0 (some 0)], .int .i64 1]) (resT Tryz.results14) [.cells false 2 []] rfl [4] (by decide) ⟨by first | (simp [mkX, mkL, sweE, sweB_eq, capG_0, ownG_0, prs_nil, h1d]; done) | (simp [mkX, mkL, sweE, hok, btw_h, capG_0, ownG_0, prs_nil, h1d]; done) | (rw [hfinE]; simp only [mkX_0, mkL_0, sweX, sweY, sweL, wayL, hlf, hfinF, if_true, if_false, sw_eq00, Int.add_zero]; done) | (rw [hfinE]; simp only [mkX_0, mkL_0, sweX, sweY, sweL, wayL, hlf, hfinF, if_true, if_false, sw_eq, Int.add_zero]; done), by first | (simp [mkX, mkL, sweE, sweB_eq, capG_0, ownG_0, prs_nil, h1d]; done) | (simp [mkX, mkL, sweE, hok, btw_h, capG_0, ownG_0, prs_nil, h1d]; done) | (rw [hfinE]; simp only [mkX_0, mkL_0, sweX, sweY, sweL, wayL, hlf, hfinF, if_true, if_false, sw_eq00, Int.add_zero]; done) | (rw [hfinE]; simp only [mkX_0, mkL_0, sweX, sweY, sweL, wayL, hlf, hfinF, if_true, if_false, sw_eq, Int.add_zero]; done)⟩ ?_)
    exact absW
end Go.Proofs.YtoimakfecmhjkaaGreat

/- Walks by the abstract machine: open by the reference. Conditions: as each theorem states. -/
namespace Go.Proofs.YtoimakfecmhjkaaGreat
set_option linter.unusedSimpArgs false
set_option linter.unusedVariables false
open Go.RowKit
theorem rsweepq_c (H : AHeap) (x0 y0 x1 y1 h t f tu le sl ra : Int) : ACalls Tryz.prog 14 [.agg [.int .i64 x0, .int .i64 y0, .int .i64 x1, .int .i64 y1], .int .i64 h, .agg [.int .i64 t, .int .i64 f], .agg [.int .i64 tu, .int .i64 le, .int .i64 sl, .int .i64 ra]] H (fun v H' => v = .tup [.agg [.int .i64 (swX x0 y0 x1 y1 h t f tu le sl ra), .int .i64 (swY x0 y0 x1 y1 h t f tu le sl ra), .sl (some (H.length, 0)) (swL x0 y0 x1 y1 h t f tu le sl ra).length (capG (swL x0 y0 x1 y1 h t f tu le sl ra).length)], .int .i64 (sweE x0 y0 x1 y1 h t f tu le sl ra)] ∧ H' = H ++ [.cells (ownG (swL x0 y0 x1 y1 h t f tu le sl ra).length) 2 (prs (swL x0 y0 x1 y1 h t f tu le sl ra))]) := rsweep_c H x0 y0 x1 y1 h t f tu le sl ra
theorem rtouchq_c (H : AHeap) (x0 y0 x1 y1 h t f tu le sl ra : Int) (s : AV) (hs : Sl H 2 s (swL x0 y0 x1 y1 h t f tu le sl ra).length (prs (swL x0 y0 x1 y1 h t f tu le sl ra))) : ACalls Tryz.prog 18 [.agg [.int .i64 (swX x0 y0 x1 y1 h t f tu le sl ra), .int .i64 (swY x0 y0 x1 y1 h t f tu le sl ra), s]] H (fun v H' => v = .tup [.sl (some (H.length, 0)) (stL x0 y0 x1 y1 h t f tu le sl ra).length (capG (stL x0 y0 x1 y1 h t f tu le sl ra).length), .int .i64 (stE x0 y0 x1 y1 h t f tu le sl ra)] ∧ H' = H ++ [.cells (ownG (stL x0 y0 x1 y1 h t f tu le sl ra).length) 2 (prs (stL x0 y0 x1 y1 h t f tu le sl ra))]) := rtouched_c H _ _ _ _ hs swL_le
set_option maxHeartbeats 4000000 in
set_option maxRecDepth 100000 in
theorem runh_c (H : AHeap) (W : Int) (Hh : Int) (pp : AV) (xs : List Int) (x0 : Int) (y0 : Int) (x1 : Int) (y1 : Int) (bf : Int) (bc : Int) (h : Int) (t : Int) (f : Int) (tu : Int) (le : Int) (sl : Int) (ra : Int) (hpp : Sl H 1 pp xs.length (ints .u8 xs)) (hV : vldB W Hh xs = true) : ACalls Tryz.prog 84 [.agg [.int .i64 W, .int .i64 Hh, pp], .agg [.int .i64 x0, .int .i64 y0, .int .i64 x1, .int .i64 y1, .int .i64 bf, .int .i64 bc], .int .i64 h, .agg [.int .i64 t, .int .i64 f], .agg [.int .i64 tu, .int .i64 le, .int .i64 sl, .int .i64 ra]] H (fun v H' => v = .bool (unhB W Hh xs x0 y0 x1 y1 h t f tu le sl ra) ∧ H' = H) := by
  obtain ⟨bpp, opp, cpp, rfl, hbpp⟩ := hpp
  have hblpp := getElem?_lt hbpp
  have hb0pp := fun l => get_app (l := l) hbpp
  (refine ACalls_run try_mixed Tryz.func84 true _ rfl (Nat.le_of_ble_eq_true (by kernel_rfl)) (by kernel_rfl) ?_; intro hbel Q hQ hQ' c hc; unfold Tryz.f84 at hc; simp only [Option.some.injEq] at hc; subst hc; clear hQ')
  have g'1 := (jn @hbpp @hb0pp)
  refine runTf g'1 ?_
  refine call_v (by kernel_rfl) (rsweepq_c _ x0 y0 x1 y1 h t f tu le sl ra) ?_
  refine runTf g'1 ?_
  refine cond_split (fun h1 => ?_) (fun h1 => ?_)
  · have h1d := h1
    try simp only [boolset, beq_iff_eq, ne_eq] at h1d
    have h1n := h1
    try simp only [int_bne, int_beq, Bool.not_eq_true', Bool.not_eq_false', Bool.not_not] at h1n
    have hfinU : unhB W Hh xs x0 y0 x1 y1 h t f tu le sl ra = false := by unfold unhB; rw [decide_eq_false (by simpa using h1d)]; rfl
    have g'2 := (jn @h1 (jn @h1n (jn @int_bne (jn @int_beq g'1))))
    refine runTf g'2 ?_
    exact hQ _ _ (end_plain (.inl rfl) hbel (x := .bool false) (resT Tryz.results84) rfl ⟨by first | (rw [hfinU]; done) | (rw [hfinV]), rfl⟩)
  · have h1d := h1
    try simp only [boolset, beq_iff_eq, ne_eq] at h1d
    have h1n := h1
    try simp only [int_bne, int_beq, Bool.not_eq_true', Bool.not_eq_false', Bool.not_not] at h1n
    have hsw : sweE x0 y0 x1 y1 h t f tu le sl ra = 0 := by simpa using h1d
    have g'3 := (jn @h1 (jn @h1n (jn @int_bne (jn @int_beq g'1))))
    refine runTf g'3 ?_
    refine call_v (by kernel_rfl) (rtouchq_c _ x0 y0 x1 y1 h t f tu le sl ra _ ⟨_, _, _, by first | rfl | (rw [List.length_append]; done) | (rw [List.length_append]; rfl), by first | rfl | (rw [get_newk]; rfl) | (rw [get_new0]; rfl) | (rw [get_newk, prs_append]; rfl) | (rw [get_new0, prs_append]; rfl)⟩) ?_
    refine runTf g'3 ?_
    refine go_loop try_mixed (by kernel_rfl) (fun k F Hx => ∃ i : Nat, i + k = (stL x0 y0 x1 y1 h t f tu le sl ra).length ∧ (∀ j : Nat, j < i → atI W Hh xs (g1 (stL x0 y0 x1 y1 h t f tu le sl ra) j) (g2 (stL x0 y0 x1 y1 h t f tu le sl ra) j) = 1) ∧ F = [(5, .ptr (some (H.length, 0))), (12, .int .i64 (stE x0 y0 x1 y1 h t f tu le sl ra)), (13, .sl (some (H.length + 1, 0)) ((stL x0 y0 x1 y1 h t f tu le sl ra).length) (capG (stL x0 y0 x1 y1 h t f tu le sl ra).length)), (14, .int .i64 ((i : Nat) : Int))] ∧ Hx = H ++ [.cells true 0 [.int .i64 W, .int .i64 Hh, .sl (some (bpp, 0)) xs.length cpp], .cells (ownG (stL x0 y0 x1 y1 h t f tu le sl ra).length) 2 (prs (stL x0 y0 x1 y1 h t f tu le sl ra))]) ((stL x0 y0 x1 y1 h t f tu le sl ra).length) ?_ ?_
    · refine ⟨_, _, _, ⟨0, by omega, fun j h => by omega, rfl, rfl⟩, Abs.byG hbel [] rfl [0, 6] (by decide) ?_⟩
      exact absR
    · rintro k0 F Hx ⟨i, hm0, hal, rfl, rfl⟩ J0 hJ0
      have hstl := stL_len (x0 := x0) (y0 := y0) (x1 := x1) (y1 := y1) (h := h) (t := t) (f := f) (tu := tu) (le := le) (sl := sl) (ra := ra)
      have g'4 := (jn @prs_len (jn @prs_one g'3))
      refine runTf g'4 ?_
      refine cond_split (fun h2 => ?_) (fun h2 => ?_)
      · have h2d := h2
        try simp only [boolset, beq_iff_eq, ne_eq] at h2d
        have hlt : i < (stL x0 y0 x1 y1 h t f tu le sl ra).length := by omega
        have q3 := prs_load (l := stL x0 y0 x1 y1 h t f tu le sl ra) (j := i) (by omega)
        have g'5 := (jn @h2 (jn @h2d (jn @q3 g'4)))
        refine runTf g'5 ?_
        refine call_d (by kernel_rfl) (at_c (x := (g1 (stL x0 y0 x1 y1 h t f tu le sl ra) i)) (y := (g2 (stL x0 y0 x1 y1 h t f tu le sl ra) i)) (vld_iff.1 hV) (by first | exact hb0pp _ | exact hbpp) rfl) ?_
        refine runTf g'5 ?_
        refine cond_split (fun h4 => ?_) (fun h4 => ?_)
        · have h4d := h4
          try simp only [boolset, beq_iff_eq, ne_eq] at h4d
          have h4n := h4
          try simp only [int_bne, int_beq, Bool.not_eq_true', Bool.not_eq_false', Bool.not_not] at h4n
          have hfinU : unhB W Hh xs x0 y0 x1 y1 h t f tu le sl ra = false := by
            have hne : ¬ stE x0 y0 x1 y1 h t f tu le sl ra = 0 ∨ stE x0 y0 x1 y1 h t f tu le sl ra = 0 := by omega
            rcases hne with hne | hst0
            · unfold unhB; rw [decide_eq_false hne]; simp
            · unfold unhB; rw [List.any_eq_true.2 ⟨(stL x0 y0 x1 y1 h t f tu le sl ra)[i], List.getElem_mem hlt, by rw [← pr_eq hlt]; simpa using h4d⟩]; simp
          have g'6 := (jn @h4 (jn @h4n g'5))
          refine runTf g'6 ?_
          exact hQ _ _ (end_plain (.inl rfl) hbel (x := .bool false) (resT Tryz.results84) rfl ⟨by first | (rw [hfinU]; done) | (rw [hfinV]), rfl⟩)
        · have h4d := h4
          try simp only [boolset, beq_iff_eq, ne_eq] at h4d
          have h4n := h4
          try simp only [int_bne, int_beq, Bool.not_eq_true', Bool.not_eq_false', Bool.not_not] at h4n
          have hai : atI W Hh xs (g1 (stL x0 y0 x1 y1 h t f tu le sl ra) i) (g2 (stL x0 y0 x1 y1 h t f tu le sl ra) i) = 1 := by simpa using h4d
          have g'7 := (jn @h4 (jn @h4n g'5))
          refine runTf g'7 ?_
          refine hJ0 _ _ ⟨k0 - 1, by omega, _, _, _, ⟨i + 1, by omega, fun j hj => by
                      rcases Nat.lt_or_ge j i with hji | hji
                      · exact hal j hji
                      · rw [show j = i by omega]; exact hai, rfl, rfl⟩, Abs.byG hbel [] rfl [0, 1] (by decide) ?_⟩
          exact absR
      · have h2d := h2
        try simp only [boolset, beq_iff_eq, ne_eq] at h2d
        have hany : ((stL x0 y0 x1 y1 h t f tu le sl ra).any (fun c => atI W Hh xs c.1 c.2 != 1)) = false := List.any_eq_false.2 fun c hc => by
          obtain ⟨j, hj, rfl⟩ := List.mem_iff_getElem.1 hc
          rw [← pr_eq hj]; simp only; rw [hal j (by omega)]; decide
        have hfinV : unhB W Hh xs x0 y0 x1 y1 h t f tu le sl ra = (stE x0 y0 x1 y1 h t f tu le sl ra == 0) := by unfold unhB; rw [decide_eq_true hsw, hany]; simp; rfl
        have g'8 := (jn @h2 (jn @h2d g'4))
        refine runTf g'8 ?_
        exact hQ _ _ (end_plain (.inl rfl) hbel (x := .bool ((stE x0 y0 x1 y1 h t f tu le sl ra) == 0)) (resTf (jn @int_beq @int_bne) Tryz.results84) rfl ⟨by first | (rw [hfinU]; done) | (rw [hfinV]), rfl⟩)
end Go.Proofs.YtoimakfecmhjkaaGreat

/- Walks by the abstract machine: Safe by the reference. Conditions: as each theorem states. -/
namespace Go.Proofs.YtoimakfecmhjkaaGreat
set_option linter.unusedSimpArgs false
set_option linter.unusedVariables false
open Go.RowKit
set_option maxHeartbeats 4000000 in
set_option maxRecDepth 100000 in
theorem rsafe_c (H : AHeap) (W : Int) (Hh : Int) (pp : AV) (xs : List Int) (s : AV) (l : List T6) (t : Int) (f : Int) (tu : Int) (le : Int) (sl : Int) (ra : Int) (hpp : Sl H 1 pp xs.length (ints .u8 xs)) (hs : Sl H 6 s l.length (r6 l)) (hl : l.length ≤ 1000000000) : ACalls Tryz.prog 23 [.agg [.int .i64 W, .int .i64 Hh, pp], s, .agg [.int .i64 t, .int .i64 f], .agg [.int .i64 tu, .int .i64 le, .int .i64 sl, .int .i64 ra]] H (fun v H' => v = .tup [.bool (saB W Hh xs l t f tu le sl ra), .int .i64 (saE W Hh xs l t f tu le sl ra)] ∧ H' = H) := by
  obtain ⟨bpp, opp, cpp, rfl, hbpp⟩ := hpp
  have hblpp := getElem?_lt hbpp
  have hb0pp := fun l => get_app (l := l) hbpp
  obtain ⟨bs, os, cs, rfl, hbs⟩ := hs
  have hbls := getElem?_lt hbs
  have hb0s := fun l => get_app (l := l) hbs
  (refine ACalls_runL try_mixed Tryz.func23 true _ rfl (Nat.le_of_ble_eq_true (by kernel_rfl)) (by kernel_rfl) ?_; intro hbel Q hQ hQ' c hc; unfold Tryz.f23 at hc; simp only [Option.some.injEq] at hc; subst hc; clear hQ')
  have g'1 := (jn @hbpp (jn @hb0pp (jn @hbs @hb0s)))
  refine runTf g'1 ?_
  refine call_v (by kernel_rfl) (rplan_a _ W Hh _ xs (.inr ⟨_, _, _, rfl, by first | exact hb0pp _ | exact hbpp⟩)) ?_
  refine runTf g'1 ?_
  refine gd_split (fun h1 => ?_) (fun h1 => ?_)
  · have h1d := h1
    try simp only [boolset, beq_iff_eq, ne_eq] at h1d
    have hV := h1d
    have g'2 := (jn @h1 (jn @h1d g'1))
    refine runTf g'2 ?_
    refine call_v (by kernel_rfl) (bset_c _ _ l ⟨_, _, _, rfl, by first | exact hb0s _ | exact hbs⟩ (by omega)) ?_
    refine runTf g'2 ?_
    refine gd_split (fun h2 => ?_) (fun h2 => ?_)
    · have h2d := h2
      try simp only [boolset, beq_iff_eq, ne_eq] at h2d
      have hS := h2d
      have hall := (setB_iff.1 hS).2
      have g'3 := (jn @h2 (jn @h2d g'2))
      refine runTf g'3 ?_
      refine call_v (by kernel_rfl) (bcmd_c _ t f) ?_
      refine runTf g'3 ?_
      refine gd_split (fun h3 => ?_) (fun h3 => ?_)
      · have h3d := h3
        try simp only [boolset, beq_iff_eq, ne_eq] at h3d
        have hC := h3d
        have g'4 := (jn @h3 (jn @h3d g'3))
        refine runTf g'4 ?_
        refine call_v (by kernel_rfl) (bbnd_c _ tu le sl ra) ?_
        refine runTf g'4 ?_
        refine cond_split (fun h4 => ?_) (fun h4 => ?_)
        · have h4d := h4
          try simp only [boolset, beq_iff_eq, ne_eq] at h4d
          have hz := saE_1 (W := W) (Hh := Hh) (xs := xs) (l := l) (t := t) (f := f) (tu := tu) (le := le) (sl := sl) (ra := ra) (fun hh => by simp [hh.1, hh.2.1, hh.2.2.1, hh.2.2.2] at h4d)
          have hfinE := hz.1
          have hfinB := hz.2
          have g'5 := (jn @h4 (jn @h4d g'4))
          refine runTf g'5 ?_
          exact hQ _ _ (end_plain (.inl rfl) hbel (x := .tup [.bool false, .int .i64 1]) (resT Tryz.results23) rfl ⟨by first | (rw [hfinE, hfinB]; done) | (rw [hfinB, hfinE]; done), rfl⟩)
        · have h4d := h4
          try simp only [boolset, beq_iff_eq, ne_eq] at h4d
          have hBd := h4d
          have hfinE : saE W Hh xs l t f tu le sl ra = 0 := saE_0 hV hS hC hBd
          have htu : 0 ≤ tu ∧ tu ≤ 8 := by have hh := hBd; simp only [bndB, Bool.and_eq_true, btw_iff] at hh; omega
          have hff : 0 ≤ f ∧ f ≤ 32 := by have hh := hC; simp only [cmdB, Bool.and_eq_true, btw_iff] at hh; omega
          have g'6 := (jn @h4 (jn @h4d g'4))
          refine runTf g'6 ?_
          refine go_loopA (fun k F Hx => ∃ i : Nat, i + k = l.length ∧ (∀ j : Nat, j < i → boxOK W Hh xs t f tu le sl ra (g6 l j) = true) ∧ F = [(1, .sl (some (bs, 0)) l.length cs), (4, .ptr (some (H.length, 0))), (6, .ptr (some (H.length + 1, 0))), (7, .ptr (some (H.length + 2, 0))), (10, .int .i64 ((i : Nat) : Int))] ∧ Hx = H ++ [.cells true 0 [.int .i64 W, .int .i64 Hh, .sl (some (bpp, 0)) xs.length cpp], .cells true 0 [.int .i64 t, .int .i64 f], .cells true 0 [.int .i64 tu, .int .i64 le, .int .i64 sl, .int .i64 ra]]) (l.length) ?_ ?_
          · refine ⟨_, _, _, ⟨0, by omega, fun j h => by omega, rfl, rfl⟩, Abs.byG hbel [] rfl [0, 1, 2] (by decide) ?_⟩
            exact absW
          · rintro k0 F Hx ⟨i, hm0, hout, rfl, rfl⟩ Q1 hJ0 hr1 he1
            have hQ1 := fun F H' h => hr1 F H' (hQ F H' h)
            refine AW_seqQ fun Q2 hn2 hr2 he2 => ?_
            have hQ2 := fun F H' h => hr2 F H' (hQ1 F H' h)
            refine AW_fin true try_mixed (by kernel_rfl) ?_
            refine runTf g'6 ?_
            refine gd_split (fun h5 => ?_) (fun h5 => ?_)
            · have h5d := h5
              try simp only [boolset, beq_iff_eq, ne_eq] at h5d
              have g'7 := (jn @h5 (jn @h5d g'6))
              refine runTf g'7 ?_
              refine cond_split (fun h6 => ?_) (fun h6 => ?_)
              · have h6d := h6
                try simp only [boolset, beq_iff_eq, ne_eq] at h6d
                have hf0 : ¬ f = 0 := by omega
                have hbi : bxB (g61 l i) (g62 l i) (g63 l i) (g64 l i) (g65 l i) (g66 l i) = true := hall (g6 l i) (g6_mem (by omega))
                have hai := (bxB_iff.1 hbi).2.2
                have hkai := arcB_iff.1 hai
                have hsai : arcB (shF (g65 l i) (g66 l i) t) (arcC (g66 l i)) = true := arcF_ok (by omega)
                have hmal := mrkA_len (t := t) hai htu
                have g'8 := (jn @h6 (jn @h6d g'7))
                refine runTf g'8 ?_
                refine hn2 _ _ ?_
                refine AW_seqQ fun Q3 hn3 hr3 he3 => ?_
                have hQ3 := fun F H' h => hr3 F H' (hQ1 F H' h)
                refine AW_blockQ fun Q4 hn4 hr4 he4 hb4 => ?_
                have hQ4 := fun F H' h => hr4 F H' (hQ3 F H' h)
                refine AW_special true try_mixed [[0, 1, 2, 3, 4, 5, 6, 7, 8, 9, 10, 11, 12, 13, 14, 15, 16, 17, 18, 19], [0, 1, 2, 3, 4, 5, 6, 7, 8, 9, 10, 11, 12, 17, 13, 14, 15, 16, 18, 19]] (by kernel_rfl) (fun F2 H2 => F2 = [(1, .sl (some (bs, 0)) l.length cs), (4, .ptr (some (H.length, 0))), (6, .ptr (some (H.length + 1, 0))), (7, .ptr (some (H.length + 2, 0))), (10, .int .i64 ((i : Nat) : Int)), (11, .ptr (some (H.length + 3, 0)))] ∧ H2 = H ++ [.cells true 0 [.int .i64 W, .int .i64 Hh, .sl (some (bpp, 0)) xs.length cpp], .cells true 0 [.int .i64 t, .int .i64 f], .cells true 0 [.int .i64 tu, .int .i64 le, .int .i64 sl, .int .i64 ra], .cells true 0 [.int .i64 (shF (g65 l i) (g66 l i) t), .int .i64 (arcC (g66 l i))]]) ?_ ?_
                · refine reps_cons ?_ (reps_cons ?_ (reps_nil)) <;> intro J hJ
                  · skip
                    have q7 := r6_at4 (l := l) (j := i) (by omega)
                    have q8 := r6_at5 (l := l) (j := i) (by omega)
                    have g'9 := (jn @r6_len (jn @q7 (jn @q8 g'8)))
                    refine runDf g'9 ?_
                    refine call_d (by kernel_rfl) (rshift_c _ (g65 l i) (g66 l i) t (by assumption)) ?_
                    refine runDf g'9 ?_
                    refine inv_of (hJ _ _ ⟨_, _, _, ⟨rfl, rfl⟩, Abs.byG hbel [] rfl [0, 1, 2, 3] (by decide) ?_⟩)
                    exact absW
                  · skip
                    have q9 := r6_at4 (l := l) (j := i) (by omega)
                    have q10 := r6_at5 (l := l) (j := i) (by omega)
                    have g'10 := (jn @r6_len (jn @q9 (jn @q10 g'8)))
                    refine runDf g'10 ?_
                    refine call_d (by kernel_rfl) (rshift_c _ (g65 l i) (g66 l i) t (by assumption)) ?_
                    refine runDf g'10 ?_
                    refine inv_of (hJ _ _ ⟨_, _, _, ⟨rfl, rfl⟩, Abs.byG hbel [] rfl [0, 1, 2, 3] (by decide) ?_⟩)
                    exact absW
                rintro F2 H2 ⟨rfl, rfl⟩
                refine AW_fin true try_mixed (by kernel_rfl) ?_
                refine runTf g'8 ?_
                refine call_v (by kernel_rfl) (rgrow_c _ (shF (g65 l i) (g66 l i) t) (arcC (g66 l i)) tu (by assumption) (by omega)) ?_
                refine runTf g'8 ?_
                refine call_v (by kernel_rfl) (rlistq_c _ (g65 l i) (g66 l i) t tu (by assumption) (by assumption)) ?_
                refine runTf g'8 ?_
                refine go_loop try_mixed (by kernel_rfl) (fun k F Hx => ∃ m : Nat, m + k = (mrkA (g65 l i) (g66 l i) t tu).length ∧ (∀ j : Nat, j < m → unhB W Hh xs (g61 l i) (g62 l i) (g63 l i) (g64 l i) (gi (mrkA (g65 l i) (g66 l i) t tu) j) t f tu le sl ra = true) ∧ F = [(1, .sl (some (bs, 0)) l.length cs), (4, .ptr (some (H.length, 0))), (6, .ptr (some (H.length + 1, 0))), (7, .ptr (some (H.length + 2, 0))), (10, .int .i64 ((i : Nat) : Int)), (13, .sl (some (H.length + 3, 0)) ((mrkA (g65 l i) (g66 l i) t tu).length) (capG (mrkA (g65 l i) (g66 l i) t tu).length)), (14, .int .i64 ((m : Nat) : Int))] ∧ Hx = H ++ [.cells true 0 [.int .i64 W, .int .i64 Hh, .sl (some (bpp, 0)) xs.length cpp], .cells true 0 [.int .i64 t, .int .i64 f], .cells true 0 [.int .i64 tu, .int .i64 le, .int .i64 sl, .int .i64 ra], .cells (ownG (mrkA (g65 l i) (g66 l i) t tu).length) 1 (ints .i64 (mrkA (g65 l i) (g66 l i) t tu))]) ((mrkA (g65 l i) (g66 l i) t tu).length) ?_ ?_
                · refine ⟨_, _, _, ⟨0, by omega, fun j h => by omega, rfl, rfl⟩, Abs.byG hbel [] rfl [0, 1, 2, 4] (by decide) ?_⟩
                  exact absR
                · rintro k1 F Hx ⟨m, hm1, him, rfl, rfl⟩ J1 hJ1
                  have g'11 := (jn @ints_len (jn @ints_ones g'8))
                  refine runTf g'11 ?_
                  refine cond_split (fun h11 => ?_) (fun h11 => ?_)
                  · have h11d := h11
                    try simp only [boolset, beq_iff_eq, ne_eq] at h11d
                    have hmL : m < (mrkA (g65 l i) (g66 l i) t tu).length := by omega
                    have q12 := r6_load (l := l) (j := i) (by omega)
                    have q13 := ints_get (k := .i64) (xs := mrkA (g65 l i) (g66 l i) t tu) (j := m) (by omega)
                    have g'12 := (jn @h11 (jn @h11d (jn @r6_len (jn @q12 (jn @q13 g'11)))))
                    refine runTf g'12 ?_
                    refine call_d (by kernel_rfl) (runh_c _ W Hh _ xs (g61 l i) (g62 l i) (g63 l i) (g64 l i) (g65 l i) (g66 l i) (gi (mrkA (g65 l i) (g66 l i) t tu) m) t f tu le sl ra ⟨_, _, _, rfl, by first | exact hb0pp _ | exact hbpp⟩ hV) ?_
                    refine runTf g'12 ?_
                    refine cond_split (fun h14 => ?_) (fun h14 => ?_)
                    · have h14d := h14
                      try simp only [boolset, beq_iff_eq, ne_eq] at h14d
                      have hfinB : saB W Hh xs l t f tu le sl ra = false := saB_f hf0 (j := i) (by omega) (boxOK_f (m := m) (by exact hmL) h14d)
                      have g'13 := (jn @h14 (jn @h14d g'12))
                      refine runTf g'13 ?_
                      exact hQ4 _ _ (end_plain (.inl rfl) hbel (x := .tup [.bool false, .int .i64 0]) (resT Tryz.results23) rfl ⟨by first | (rw [hfinE, hfinB]; done) | (rw [hfinB, hfinE]; done), rfl⟩)
                    · have h14d := h14
                      try simp only [boolset, beq_iff_eq, ne_eq] at h14d
                      have hua := h14d
                      have g'14 := (jn @h14 (jn @h14d g'12))
                      refine runTf g'14 ?_
                      refine hJ1 _ _ ⟨k1 - 1, by omega, _, _, _, ⟨m + 1, by omega, fun j hj => by
                                  rcases Nat.lt_or_ge j m with hji | hji
                                  · exact him j hji
                                  · rw [show j = m by omega]; exact hua, rfl, rfl⟩, Abs.byG hbel [] rfl [0, 1, 2, 3] (by decide) ?_⟩
                      exact absR
                  · have h11d := h11
                    try simp only [boolset, beq_iff_eq, ne_eq] at h11d
                    obtain rfl : m = (mrkA (g65 l i) (g66 l i) t tu).length := by omega
                    have hbok : boxOK W Hh xs t f tu le sl ra (g6 l i) = true := boxOK_t him
                    have g'15 := (jn @h11 (jn @h11d g'11))
                    refine runTf g'15 ?_
                    refine hn4 _ _ ?_
                    refine hn3 _ _ ?_
                    refine AW_fin true try_mixed (by kernel_rfl) ?_
                    refine runTf g'15 ?_
                    refine hJ0 _ _ ⟨k0 - 1, by omega, _, _, _, ⟨i + 1, by omega, fun j hj => by
                                rcases Nat.lt_or_ge j i with hji | hji
                                · exact hout j hji
                                · rw [show j = i by omega]; exact hbok, rfl, rfl⟩, Abs.byG hbel [] rfl [0, 1, 2] (by decide) ?_⟩
                    exact absW
              · have h6d := h6
                try simp only [boolset, beq_iff_eq, ne_eq] at h6d
                have hfinB : saB W Hh xs l t f tu le sl ra = true := saB_z hfinE (by omega)
                have g'16 := (jn @h6 (jn @h6d g'7))
                refine runTf g'16 ?_
                refine he2 _ _ _ ?_
                refine he1 _ _ _ ?_
                refine runTf g'16 ?_
                exact hQ _ _ (end_plain (.inl rfl) hbel (x := .tup [.bool true, .int .i64 0]) (resT Tryz.results23) rfl ⟨by first | (rw [hfinE, hfinB]; done) | (rw [hfinB, hfinE]; done), rfl⟩)
            · have h5d := h5
              try simp only [boolset, beq_iff_eq, ne_eq] at h5d
              obtain rfl : i = l.length := by omega
              have hfinB : saB W Hh xs l t f tu le sl ra = true := saB_t hfinE hout
              have g'17 := (jn @h5 (jn @h5d g'6))
              refine runTf g'17 ?_
              refine he2 _ _ _ ?_
              refine he1 _ _ _ ?_
              refine runTf g'17 ?_
              exact hQ _ _ (end_plain (.inl rfl) hbel (x := .tup [.bool true, .int .i64 0]) (resT Tryz.results23) rfl ⟨by first | (rw [hfinE, hfinB]; done) | (rw [hfinB, hfinE]; done), rfl⟩)
      · have h3d := h3
        try simp only [boolset, beq_iff_eq, ne_eq] at h3d
        have hz := saE_1 (W := W) (Hh := Hh) (xs := xs) (l := l) (t := t) (f := f) (tu := tu) (le := le) (sl := sl) (ra := ra) (fun hh => by simp [hh.1, hh.2.1, hh.2.2.1, hh.2.2.2] at h3d)
        have hfinE := hz.1
        have hfinB := hz.2
        have g'18 := (jn @h3 (jn @h3d g'3))
        refine runTf g'18 ?_
        exact hQ _ _ (end_plain (.inl rfl) hbel (x := .tup [.bool false, .int .i64 1]) (resT Tryz.results23) rfl ⟨by first | (rw [hfinE, hfinB]; done) | (rw [hfinB, hfinE]; done), rfl⟩)
    · have h2d := h2
      try simp only [boolset, beq_iff_eq, ne_eq] at h2d
      have hz := saE_1 (W := W) (Hh := Hh) (xs := xs) (l := l) (t := t) (f := f) (tu := tu) (le := le) (sl := sl) (ra := ra) (fun hh => by simp [hh.1, hh.2.1, hh.2.2.1, hh.2.2.2] at h2d)
      have hfinE := hz.1
      have hfinB := hz.2
      have g'19 := (jn @h2 (jn @h2d g'2))
      refine runTf g'19 ?_
      exact hQ _ _ (end_plain (.inl rfl) hbel (x := .tup [.bool false, .int .i64 1]) (resT Tryz.results23) rfl ⟨by first | (rw [hfinE, hfinB]; done) | (rw [hfinB, hfinE]; done), rfl⟩)
  · have h1d := h1
    try simp only [boolset, beq_iff_eq, ne_eq] at h1d
    have hz := saE_1 (W := W) (Hh := Hh) (xs := xs) (l := l) (t := t) (f := f) (tu := tu) (le := le) (sl := sl) (ra := ra) (fun hh => by simp [hh.1, hh.2.1, hh.2.2.1, hh.2.2.2] at h1d)
    have hfinE := hz.1
    have hfinB := hz.2
    have g'20 := (jn @h1 (jn @h1d g'1))
    refine runTf g'20 ?_
    exact hQ _ _ (end_plain (.inl rfl) hbel (x := .tup [.bool false, .int .i64 1]) (resT Tryz.results23) rfl ⟨by first | (rw [hfinE, hfinB]; done) | (rw [hfinB, hfinE]; done), rfl⟩)
end Go.Proofs.YtoimakfecmhjkaaGreat

/- Walks by the abstract machine: small plans and sets. Conditions: as each theorem states. -/
namespace Go.Proofs.YtoimakfecmhjkaaGreat
set_option linter.unusedSimpArgs false
set_option linter.unusedVariables false
open Go.RowKit
def badB (b : T6) : Bool := boxB b && (decide (300 < b.2.2.1 - b.1) || decide (300 < b.2.2.2.1 - b.2.1))
def clpI (c : Int) : Int := if 300 < (if c < 0 then 0 else c) then 300 else (if c < 0 then 0 else c)
def sumF (l : List T6) : Nat → Int
  | 0 => 0
  | n + 1 => sumF l n + clpI (g66 l n)
theorem sumF_bd (l : List T6) : ∀ n : Nat, 0 ≤ sumF l n ∧ sumF l n ≤ 300 * (n : Int)
  | 0 => by simp [sumF]
  | n + 1 => by
    have := sumF_bd l n
    have e : 0 ≤ clpI (g66 l n) ∧ clpI (g66 l n) ≤ 300 := by unfold clpI; split <;> split <;> omega
    simp only [sumF]; omega
def fewM (l : List T6) : Nat := min l.length 20
def fewB (xs : List Int) (l : List T6) : Bool := ((List.range (fewM l)).all fun j => !badB (g6 l j)) && (decide (((xs.length : Nat) : Int) ≤ 4096) && (decide (((l.length : Nat) : Int) ≤ 20) && (decide (sumF l (fewM l) ≤ 24) || !setB l)))
theorem few_f {xs : List Int} {l : List T6} {i : Nat} (hi : i < fewM l) (h : badB (g6 l i) = true) : fewB xs l = false := by
  unfold fewB
  have e : ((List.range (fewM l)).all fun j => !badB (g6 l j)) = false := by
    rw [← Bool.not_eq_true]; intro hh
    rw [List.all_eq_true] at hh
    have := hh i (List.mem_range.2 hi)
    rw [h] at this; cases this
  rw [e]; rfl
theorem few_len {xs : List Int} {l : List T6} (h : fewB xs l = true) : l.length ≤ 20 := by
  unfold fewB at h; simp only [Bool.and_eq_true, decide_eq_true_eq] at h; omega
theorem few_a {l : List T6} (h : ∀ j : Nat, j < fewM l → badB (g6 l j) = false) : ((List.range (fewM l)).all fun j => !badB (g6 l j)) = true := by
  rw [List.all_eq_true]; intro j hj; rw [h j (List.mem_range.1 hj)]; rfl
set_option maxHeartbeats 4000000 in
set_option maxRecDepth 100000 in
theorem few_c (H : AHeap) (W : Int) (Hh : Int) (pp : AV) (xs : List Int) (s : AV) (l : List T6) (hpp : Sl H 1 pp xs.length (ints .u8 xs)) (hs : Sl H 6 s l.length (r6 l)) : ACalls Tryz.prog 20 [.agg [.int .i64 W, .int .i64 Hh, pp], s] H (fun v H' => v = .bool (fewB xs l) ∧ H' = H) := by
  obtain ⟨bpp, opp, cpp, rfl, hbpp⟩ := hpp
  have hblpp := getElem?_lt hbpp
  have hb0pp := fun l => get_app (l := l) hbpp
  obtain ⟨bs, os, cs, rfl, hbs⟩ := hs
  have hbls := getElem?_lt hbs
  have hb0s := fun l => get_app (l := l) hbs
  have hcl : ∀ c : Int, (if 300 < (if c < 0 then 0 else c) then 300 else (if c < 0 then 0 else c)) = clpI c := fun c => rfl
  (refine ACalls_run try_mixed Tryz.func20 true _ rfl (Nat.le_of_ble_eq_true (by kernel_rfl)) (by kernel_rfl) ?_; intro hbel Q hQ hQ' c hc; unfold Tryz.f20 at hc; simp only [Option.some.injEq] at hc; subst hc; clear hQ')
  have g'1 := (jn @hbpp (jn @hb0pp (jn @hbs (jn @hb0s @hcl))))
  refine runTf g'1 ?_
  refine go_loop try_mixed (by kernel_rfl) (fun k F Hx => ∃ i : Nat, i + k = fewM l ∧ (∀ j : Nat, j < i → badB (g6 l j) = false) ∧ F = [(1, .sl (some (bs, 0)) l.length cs), (2, .ptr (some (H.length, 0))), (5, .int .i64 (sumF l i)), (6, .int .i64 ((i : Nat) : Int))] ∧ Hx = H ++ [.cells true 0 [.int .i64 W, .int .i64 Hh, .sl (some (bpp, 0)) xs.length cpp]]) (fewM l) ?_ ?_
  · refine ⟨_, _, _, ⟨0, by omega, fun j h => by omega, rfl, rfl⟩, Abs.byG hbel [] rfl [0] (by decide) ?_⟩
    exact absWf @sumF.eq_1
  · rintro k0 F Hx ⟨i, hm0, hgd, rfl, rfl⟩ J0 hJ0
    refine runTf g'1 ?_
    refine gd_split (fun h1 => ?_) (fun h1 => ?_)
    · have h1d := h1
      try simp only [boolset, beq_iff_eq, ne_eq] at h1d
      have g'2 := (jn @h1 (jn @h1d g'1))
      refine runTf g'2 ?_
      refine cond_split (fun h2 => ?_) (fun h2 => ?_)
      · have h2d := h2
        try simp only [boolset, beq_iff_eq, ne_eq] at h2d
        have hiF : i < fewM l := by unfold fewM; omega
        have hsm := sumF_bd l i
        have hcp : 0 ≤ clpI (g66 l i) ∧ clpI (g66 l i) ≤ 300 := by unfold clpI; split <;> split <;> omega
        have q3 := r6_load (l := l) (j := i) (by omega)
        have g'3 := (jn @h2 (jn @h2d (jn @r6_len (jn @q3 g'2))))
        refine runTf g'3 ?_
        refine call_d (by kernel_rfl) (bbx_c _ (g61 l i) (g62 l i) (g63 l i) (g64 l i) (g65 l i) (g66 l i)) ?_
        refine runTf g'3 ?_
        refine gd_split (fun h4 => ?_) (fun h4 => ?_)
        · have h4d := h4
          try simp only [boolset, beq_iff_eq, ne_eq] at h4d
          have hbx : boxB (g6 l i) = true := h4d
          have hbb := bxB_iff.1 h4d
          have q5 := r6_at2 (l := l) (j := i) (by omega)
          have q6 := r6_at0 (l := l) (j := i) (by omega)
          have g'4 := (jn @h4 (jn @h4d (jn @q5 (jn @q6 g'3))))
          refine runTf g'4 ?_
          refine gd_split (fun h7 => ?_) (fun h7 => ?_)
          · have h7d := h7
            try simp only [boolset, beq_iff_eq, ne_eq] at h7d
            have hd1 : ¬ 300 < (g6 l i).2.2.1 - (g6 l i).1 := h7d
            have q8 := r6_at3 (l := l) (j := i) (by omega)
            have q9 := r6_at1 (l := l) (j := i) (by omega)
            have g'5 := (jn @h7 (jn @h7d (jn @q8 (jn @q9 g'4))))
            refine runTf g'5 ?_
            refine cond_split (fun h10 => ?_) (fun h10 => ?_)
            · have h10d := h10
              try simp only [boolset, beq_iff_eq, ne_eq] at h10d
              have hfinF : fewB xs l = false := few_f hiF (by unfold badB; rw [hbx, decide_eq_true (show 300 < (g6 l i).2.2.2.1 - (g6 l i).2.1 from h10d)]; simp)
              have g'6 := (jn @h10 (jn @h10d g'5))
              refine runTf g'6 ?_
              exact hQ _ _ (end_plain (.inl rfl) hbel (x := .bool false) (resT Tryz.results20) rfl ⟨by first | (rw [hfinF]; done) | (unfold fewB; rw [hfinA, ← hiM]; simp [h1d, h2d, h4d, h7d, h10d, hfinF]), rfl⟩)
            · have h10d := h10
              try simp only [boolset, beq_iff_eq, ne_eq] at h10d
              have hd2 : ¬ 300 < (g6 l i).2.2.2.1 - (g6 l i).2.1 := h10d
              have hbd : badB (g6 l i) = false := by unfold badB; rw [decide_eq_false hd1, decide_eq_false hd2]; simp
              have q11 := r6_at5 (l := l) (j := i) (by omega)
              have g'7 := (jn @h10 (jn @h10d (jn @q11 g'5)))
              refine runTf g'7 ?_
              refine hJ0 _ _ ⟨k0 - 1, by omega, _, _, _, ⟨i + 1, by omega, fun j hj => by
                          rcases Nat.lt_or_ge j i with hji | hji
                          · exact hgd j hji
                          · rw [show j = i by omega]; exact hbd, rfl, rfl⟩, Abs.byG hbel [] rfl [0] (by decide) ?_⟩
              exact absWf @sumF.eq_2
          · have h7d := h7
            try simp only [boolset, beq_iff_eq, ne_eq] at h7d
            have hfinF : fewB xs l = false := few_f hiF (by unfold badB; rw [hbx, decide_eq_true (show 300 < (g6 l i).2.2.1 - (g6 l i).1 from h7d)]; rfl)
            have g'8 := (jn @h7 (jn @h7d g'4))
            refine runTf g'8 ?_
            exact hQ _ _ (end_plain (.inl rfl) hbel (x := .bool false) (resT Tryz.results20) rfl ⟨by first | (rw [hfinF]; done) | (unfold fewB; rw [hfinA, ← hiM]; simp [h1d, h2d, h4d, h7d, hfinF]), rfl⟩)
        · have h4d := h4
          try simp only [boolset, beq_iff_eq, ne_eq] at h4d
          have hbd : badB (g6 l i) = false := by unfold badB; rw [show boxB (g6 l i) = false from h4d]; rfl
          have q12 := r6_at5 (l := l) (j := i) (by omega)
          have g'9 := (jn @h4 (jn @h4d (jn @q12 g'3)))
          refine runTf g'9 ?_
          refine hJ0 _ _ ⟨k0 - 1, by omega, _, _, _, ⟨i + 1, by omega, fun j hj => by
                      rcases Nat.lt_or_ge j i with hji | hji
                      · exact hgd j hji
                      · rw [show j = i by omega]; exact hbd, rfl, rfl⟩, Abs.byG hbel [] rfl [0] (by decide) ?_⟩
          exact absWf @sumF.eq_2
      · have h2d := h2
        try simp only [boolset, beq_iff_eq, ne_eq] at h2d
        have hM : fewM l = min l.length 20 := rfl
        have hiM : i = fewM l := by omega
        have hfinA := few_a (l := l) (fun j hj => hgd j (by omega))
        have hsl16 := sumF_bd l i
        have g'10 := (jn @h2 (jn @h2d g'2))
        refine runTf g'10 ?_
        refine gd_split (fun h13 => ?_) (fun h13 => ?_)
        · have h13d := h13
          try simp only [boolset, beq_iff_eq, ne_eq] at h13d
          have g'11 := (jn @h13 (jn @h13d g'10))
          refine runTf g'11 ?_
          refine gd_split (fun h14 => ?_) (fun h14 => ?_)
          · have h14d := h14
            try simp only [boolset, beq_iff_eq, ne_eq] at h14d
            omega
          · have h14d := h14
            try simp only [boolset, beq_iff_eq, ne_eq] at h14d
            have g'12 := (jn @h14 (jn @h14d g'11))
            refine runTf g'12 ?_
            exact hQ _ _ (end_plain (.inl rfl) hbel (x := .bool false) (resT Tryz.results20) rfl ⟨by first | (rw [hfinF]; done) | (unfold fewB; rw [hfinA, ← hiM]; simp [h1d, h2d, h13d, h14d, hfinA]), rfl⟩)
        · have h13d := h13
          try simp only [boolset, beq_iff_eq, ne_eq] at h13d
          have g'13 := (jn @h13 (jn @h13d g'10))
          refine runTf g'13 ?_
          exact hQ _ _ (end_plain (.inl rfl) hbel (x := .bool false) (resT Tryz.results20) rfl ⟨by first | (rw [hfinF]; done) | (unfold fewB; rw [hfinA, ← hiM]; simp [h1d, h2d, h13d, hfinA]), rfl⟩)
    · have h1d := h1
      try simp only [boolset, beq_iff_eq, ne_eq] at h1d
      have hM : fewM l = min l.length 20 := rfl
      have hiM : i = fewM l := by omega
      have hfinA := few_a (l := l) (fun j hj => hgd j (by omega))
      have hsl16 := sumF_bd l i
      have g'14 := (jn @h1 (jn @h1d g'1))
      refine runTf g'14 ?_
      refine gd_split (fun h15 => ?_) (fun h15 => ?_)
      · have h15d := h15
        try simp only [boolset, beq_iff_eq, ne_eq] at h15d
        have g'15 := (jn @h15 (jn @h15d g'14))
        refine runTf g'15 ?_
        refine gd_split (fun h16 => ?_) (fun h16 => ?_)
        · have h16d := h16
          try simp only [boolset, beq_iff_eq, ne_eq] at h16d
          have g'16 := (jn @h16 (jn @h16d g'15))
          refine runTf g'16 ?_
          refine gd_split (fun h17 => ?_) (fun h17 => ?_)
          · have h17d := h17
            try simp only [boolset, beq_iff_eq, ne_eq] at h17d
            have g'17 := (jn @h17 (jn @h17d g'16))
            refine runTf g'17 ?_
            refine call_v (by kernel_rfl) (bset_c _ _ l ⟨_, _, _, rfl, by first | exact hb0s _ | exact hbs⟩ (by omega)) ?_
            refine runTf g'17 ?_
            exact hQ _ _ (end_plain (.inl rfl) hbel (x := .bool (!(setB l))) (resT Tryz.results20) rfl ⟨by first | (rw [hfinF]; done) | (unfold fewB; rw [hfinA, ← hiM]; simp [h1d, h15d, h16d, h17d, hfinA]), rfl⟩)
          · have h17d := h17
            try simp only [boolset, beq_iff_eq, ne_eq] at h17d
            have g'18 := (jn @h17 (jn @h17d g'16))
            refine runTf g'18 ?_
            exact hQ _ _ (end_plain (.inl rfl) hbel (x := .bool true) (resT Tryz.results20) rfl ⟨by first | (rw [hfinF]; done) | (unfold fewB; rw [hfinA, ← hiM]; simp [h1d, h15d, h16d, h17d, hfinA]), rfl⟩)
        · have h16d := h16
          try simp only [boolset, beq_iff_eq, ne_eq] at h16d
          have g'19 := (jn @h16 (jn @h16d g'15))
          refine runTf g'19 ?_
          exact hQ _ _ (end_plain (.inl rfl) hbel (x := .bool false) (resT Tryz.results20) rfl ⟨by first | (rw [hfinF]; done) | (unfold fewB; rw [hfinA, ← hiM]; simp [h1d, h15d, h16d, hfinA]), rfl⟩)
      · have h15d := h15
        try simp only [boolset, beq_iff_eq, ne_eq] at h15d
        have g'20 := (jn @h15 (jn @h15d g'14))
        refine runTf g'20 ?_
        exact hQ _ _ (end_plain (.inl rfl) hbel (x := .bool false) (resT Tryz.results20) rfl ⟨by first | (rw [hfinF]; done) | (unfold fewB; rw [hfinA, ← hiM]; simp [h1d, h15d, hfinA]), rfl⟩)
def bdT (n : Int) : Int := (((n % 12).toNat % 3 : Nat) : Int)
def bdL (n : Int) : Int := (((n % 12).toNat % 4 : Nat) : Int)
def bdS (n : Int) : Int := (((n % 12).toNat % 2 : Nat) : Int) * 3
def bdR (n : Int) : Int := 1 + (((n % 12).toNat : Nat) : Int)
set_option maxHeartbeats 4000000 in
set_option maxRecDepth 100000 in
theorem lbounds_c (H : AHeap) (n : Int) : ACalls Tryz.prog 22 [.int .i64 n] H (fun v H' => v = .agg [.int .i64 (bdT n), .int .i64 (bdL n), .int .i64 (bdS n), .int .i64 (bdR n)] ∧ H' = H) := by
  have hr3 : ∀ a : Nat, Int.tmod (a : Int) 3 = ((a % 3 : Nat) : Int) := fun a => rfl
  have hr4 : ∀ a : Nat, Int.tmod (a : Int) 4 = ((a % 4 : Nat) : Int) := fun a => rfl
  have hr2 : ∀ a : Nat, Int.tmod (a : Int) 2 = ((a % 2 : Nat) : Int) := fun a => rfl
  (refine ACalls_run try_mixed Tryz.func22 true _ rfl (Nat.le_of_ble_eq_true (by kernel_rfl)) (by kernel_rfl) ?_; intro hbel Q hQ hQ' c hc; unfold Tryz.f22 at hc; simp only [Option.some.injEq] at hc; subst hc; clear hQ')
  have g'21 := (jn @hr3 (jn @hr4 @hr2))
  refine runTf g'21 ?_
  refine call_v (by kernel_rfl) (bmod_c _ n 12 (by omega) (by omega)) ?_
  refine runTf g'21 ?_
  exact hQ _ _ (end_plain (.inl rfl) hbel (x := .agg [.int .i64 ((((n % 12).toNat) % 3 : Nat) : Int), .int .i64 ((((n % 12).toNat) % 4 : Nat) : Int), .int .i64 (((((n % 12).toNat) % 2 : Nat) : Int) * 3), .int .i64 (1 + (((n % 12).toNat : Nat) : Int))]) (resT Tryz.results22) rfl ⟨rfl, rfl⟩)
end Go.Proofs.YtoimakfecmhjkaaGreat

/- Slices of points read off the memory. Conditions: none. -/
namespace Go.Proofs.YtoimakfecmhjkaaGreat
set_option linter.unusedSimpArgs false
set_option linter.unusedVariables false
open Go.RowKit
def prsOf : List AV → Option (List Pt)
  | [] => some []
  | .int .i64 x :: .int .i64 y :: r => (prsOf r).map ((x, y) :: ·)
  | _ => none
theorem prsOf_eq : ∀ (xs : List AV) (l : List Pt), prsOf xs = some l → xs = prs l
  | [], l, h => by simp [prsOf] at h; subst h; rfl
  | .int .i64 x :: .int .i64 y :: r, l, h => by
    simp only [prsOf, Option.map_eq_some_iff] at h
    obtain ⟨m, hm, rfl⟩ := h
    rw [prsOf_eq r m hm]; rfl
  | [x], l, h => by unfold prsOf at h; split at h <;> simp_all
  | x :: y :: r, l, h => by
    unfold prsOf at h
    split at h
    · simp_all
    · rename_i e
      injection e with e1 e2
      injection e2 with e2 e3
      subst e1 e2 e3
      simp only [Option.map_eq_some_iff] at h
      obtain ⟨m, hm, rfl⟩ := h
      rw [prsOf_eq _ m hm]; rfl
    · cases h
/-- The generators of a zonogon's slice. -/
def gensOf (H : AHeap) (s : AV) : Option (List Pt) :=
  match s with
  | .sl (some (b, 0)) n _ => match H[b]? with
    | some (.cells _ 2 xs) => (prsOf xs).bind fun l => bif Nat.beq l.length n then some l else none
    | _ => none
  | _ => none
theorem gensOf_isP {H : AHeap} {s : AV} {l : List Pt} (h : gensOf H s = some l) : SlP H s l := by
  unfold gensOf at h
  split at h
  · rename_i b n c
    split at h
    · rename_i own xs hb
      cases hp : prsOf xs with
      | none => rw [hp] at h; cases h
      | some m =>
        rw [hp, Option.bind_some] at h
        cases hn : Nat.beq m.length n
        · rw [hn] at h; cases h
        · rw [hn, cond_true] at h
          injection h with h
          subst h
          have := Nat.eq_of_beq_eq_true hn
          subst this
          exact ⟨b, own, c, rfl, by rw [hb, prsOf_eq _ _ hp]⟩
    · cases h
  · cases h
theorem TbOk.filter {P : Program} (p : Nat × Bool × Func → Bool) : ∀ {tb : List (Nat × Bool × Func)}, TbOk P tb → TbOk P (tb.filter p)
  | _, .nil => .nil
  | _, .cons (f := f) (q := q) (fn := fn) h1 h2 h3 hr => by
    rw [List.filter_cons]
    split
    · exact .cons h1 h2 h3 (TbOk.filter p hr)
    · exact TbOk.filter p hr
end Go.Proofs.YtoimakfecmhjkaaGreat

/- The functions that the run of chapter 40's awake takes by their contracts. Conditions: none. -/
namespace Go.Proofs.YtoimakfecmhjkaaGreat
set_option linter.unusedSimpArgs false
set_option linter.unusedVariables false
open Go.RowKit
def ext40 : Caller := fun f args H =>
  match args with
  | [.int .i64 h] => bif Nat.beq f 53 then some (.agg [.int .i64 (dirV h).1, .int .i64 (dirV h).2.1, .int .i64 (dirV h).2.2], none) else none
  | [.agg [.int .i64 x0, .int .i64 y0, .int .i64 x1, .int .i64 y1], .int .i64 h, .agg [.int .i64 t, .int .i64 g], .agg [.int .i64 tu, .int .i64 le, .int .i64 sl, .int .i64 ra]] =>
    bif Nat.beq f 13 then some (.tup [.agg [.int .i64 (mkX (sweE x0 y0 x1 y1 h t g tu le sl ra) (sweX x0 x1 h g le)), .int .i64 (mkX (sweE x0 y0 x1 y1 h t g tu le sl ra) (sweY y0 y1 h g le)), .sl (some (H.length, 0)) (mkL (sweE x0 y0 x1 y1 h t g tu le sl ra) (sweL x0 y0 x1 y1 h g le sl)).length (capG (mkL (sweE x0 y0 x1 y1 h t g tu le sl ra) (sweL x0 y0 x1 y1 h g le sl)).length)], .int .i64 (sweE x0 y0 x1 y1 h t g tu le sl ra)],
      some (H ++ [.cells (ownG (mkL (sweE x0 y0 x1 y1 h t g tu le sl ra) (sweL x0 y0 x1 y1 h g le sl)).length) 2 (prs (mkL (sweE x0 y0 x1 y1 h t g tu le sl ra) (sweL x0 y0 x1 y1 h g le sl)))])) else none
  | [.agg [.int .i64 fx, .int .i64 fy], .agg [.int .i64 tx, .int .i64 ty]] => bif Nat.beq f 36 then some (.tup [.int .i64 (towI fx fy tx ty), .int .i64 (towE fx fy tx ty)], none) else none
  | [.agg [.int .i64 x, .int .i64 y, s], .agg [.int .i64 x0, .int .i64 y0, .int .i64 x1, .int .i64 y1]] =>
    bif Nat.beq f 68 then (gensOf H s).map fun l => (.bool (apartB x y l x0 y0 x1 y1), none) else none
  | [.sl none 0 (some 0), .int .i64 n] =>
    bif Nat.beq f 163 && (decide (0 < n) && decide (n ≤ 1000)) then some (.sl (some (H.length, 0)) 0 none, some (H ++ [.cells true 2 []])) else none
  | _ => ext f args H
theorem ext40_ok : CallOk Tryz.prog ext40 := fun f args H x o h => by
  unfold ext40 at h
  split at h
  · rename_i z
    cases hf : Nat.beq f 53
    · rw [hf] at h; cases h
    · rw [hf, cond_true] at h
      have e := Nat.eq_of_beq_eq_true hf
      subst e
      simp only [Option.some.injEq, Prod.mk.injEq] at h
      obtain ⟨rfl, rfl⟩ := h
      exact ⟨by kernel_rfl, Nat.le_refl _, dir_c H z⟩
  · rename_i x0 y0 x1 y1 z t g tu le sl ra
    cases hf : Nat.beq f 13
    · rw [hf] at h; cases h
    · rw [hf, cond_true] at h
      have e := Nat.eq_of_beq_eq_true hf
      subst e
      simp only [Option.some.injEq, Prod.mk.injEq] at h
      obtain ⟨rfl, rfl⟩ := h
      exact ⟨by kernel_rfl, by simp, sweep_c H x0 y0 x1 y1 z t g tu le sl ra⟩
  · rename_i fx fy tx ty
    cases hf : Nat.beq f 36
    · rw [hf] at h; cases h
    · rw [hf, cond_true] at h
      have e := Nat.eq_of_beq_eq_true hf
      subst e
      simp only [Option.some.injEq, Prod.mk.injEq] at h
      obtain ⟨rfl, rfl⟩ := h
      exact ⟨by kernel_rfl, Nat.le_refl _, toward_c H fx fy tx ty⟩
  · rename_i x y s x0 y0 x1 y1
    cases hf : Nat.beq f 68
    · rw [hf] at h; cases h
    · rw [hf, cond_true] at h
      have e := Nat.eq_of_beq_eq_true hf
      subst e
      simp only [Option.map_eq_some_iff, Prod.mk.injEq] at h
      obtain ⟨l1, h1, rfl, rfl⟩ := h
      exact ⟨by kernel_rfl, Nat.le_refl _, apart_c H _ _ _ _ _ _ _ _ (gensOf_isP h1)⟩
  · rename_i n
    cases hf : Nat.beq f 163 && (decide (0 < n) && decide (n ≤ 1000))
    · rw [hf] at h; cases h
    · rw [hf, cond_true] at h
      simp only [Bool.and_eq_true, decide_eq_true_eq] at hf
      obtain ⟨h1, h2, h3⟩ := hf
      have e := Nat.eq_of_beq_eq_true h1
      subst e
      simp only [Option.some.injEq, Prod.mk.injEq] at h
      obtain ⟨rfl, rfl⟩ := h
      obtain ⟨m, rfl⟩ : ∃ m : Nat, n = m := ⟨n.toNat, by omega⟩
      exact ⟨by kernel_rfl, by simp, grow_a (by omega) (by omega)⟩
  · exact ext_ok f args H x o h
/-- The functions that the run enters: all but those. -/
noncomputable def tb40 : List (Nat × Bool × Func) := tb.filter fun p => !Nat.beq p.1 163 && !Nat.beq p.1 53 && !Nat.beq p.1 36
theorem tb40_ok : TbOk Tryz.prog tb40 := tb_ok.filter _
end Go.Proofs.YtoimakfecmhjkaaGreat

/- awake of law 40, by the kernel's own run. Conditions: none. -/
namespace Go.Proofs.YtoimakfecmhjkaaGreat
set_option linter.unusedSimpArgs false
set_option linter.unusedVariables false
open Go.RowKit
theorem awake_a (H : AHeap) : ACalls Tryz.prog 12 [] H (fun v H' => v = .bool true ∧ H' = H) :=
  ACalls.closed (ran try_mixed ext40_ok tb40 tb40_ok 20000 60 (x := .bool true) (o := none) (by kernel_rfl)) rfl rfl H
end Go.Proofs.YtoimakfecmhjkaaGreat

/- Walks by the abstract machine: MotionSafe. Conditions: as each theorem states. -/
namespace Go.Proofs.YtoimakfecmhjkaaGreat
set_option linter.unusedSimpArgs false
set_option linter.unusedVariables false
open Go.RowKit
set_option maxHeartbeats 4000000 in
set_option maxRecDepth 100000 in
theorem lsafe_c (H : AHeap) (W : Int) (Hh : Int) (pp : AV) (xs : List Int) (s : AV) (l : List T6) (t : Int) (f : Int) (hpp : Sl H 1 pp xs.length (ints .u8 xs)) (hs : Sl H 6 s l.length (r6 l)) : ACalls Tryz.prog 5 [.agg [.int .i64 W, .int .i64 Hh, pp], s, .agg [.int .i64 t, .int .i64 f]] H (fun v H' => v = .bool true ∧ H' = H) := by
  obtain ⟨bpp, opp, cpp, rfl, hbpp⟩ := hpp
  have hblpp := getElem?_lt hbpp
  have hb0pp := fun l => get_app (l := l) hbpp
  obtain ⟨bs, os, cs, rfl, hbs⟩ := hs
  have hbls := getElem?_lt hbs
  have hb0s := fun l => get_app (l := l) hbs
  (refine ACalls_run try_mixed Tryz.func5 false _ rfl (Nat.le_of_ble_eq_true (by kernel_rfl)) (by kernel_rfl) ?_; intro hbel Q hQ hQ' c hc; unfold Tryz.f5 at hc; simp only [Option.some.injEq] at hc; subst hc; clear hQ')
  have g'1 := (jn @hbpp (jn @hb0pp (jn @hbs @hb0s)))
  refine runTf g'1 ?_
  refine call_v (by kernel_rfl) (awake_a _) ?_
  refine runTf g'1 ?_
  refine call_v (by kernel_rfl) (few_c _ W Hh _ xs _ l ⟨_, _, _, rfl, by first | exact hb0pp _ | exact hbpp⟩ ⟨_, _, _, rfl, by first | exact hb0s _ | exact hbs⟩) ?_
  refine runTf g'1 ?_
  refine cond_split (fun h1 => ?_) (fun h1 => ?_)
  · have h1d := h1
    try simp only [boolset, beq_iff_eq, ne_eq] at h1d
    have g'2 := (jn @h1 (jn @h1d g'1))
    refine runTf g'2 ?_
    refine call_v (by kernel_rfl) (awake_a _) ?_
    refine runTf g'2 ?_
    exact hQ _ _ (end_plain (.inl rfl) hbel (x := .bool true) (resT Tryz.results5) rfl ⟨by first | rfl | simp, rfl⟩)
  · have h1d := h1
    try simp only [boolset, beq_iff_eq, ne_eq] at h1d
    have hl20 := few_len h1d
    have g'3 := (jn @h1 (jn @h1d g'1))
    refine runTf g'3 ?_
    refine call_d (by kernel_rfl) (lbounds_c _ W) ?_
    refine runTf g'3 ?_
    refine call_d (by kernel_rfl) (safe_c _ W Hh _ xs _ l t f (bdT W) (bdL W) (bdS W) (bdR W) ⟨_, _, _, rfl, by first | exact hb0pp _ | exact hbpp⟩ ⟨_, _, _, rfl, by first | exact hb0s _ | exact hbs⟩ (by omega)) ?_
    refine runTf g'3 ?_
    refine call_d (by kernel_rfl) (lbounds_c _ W) ?_
    refine runTf g'3 ?_
    refine call_d (by kernel_rfl) (rsafe_c _ W Hh _ xs _ l t f (bdT W) (bdL W) (bdS W) (bdR W) ⟨_, _, _, rfl, by first | exact hb0pp _ | exact hbpp⟩ ⟨_, _, _, rfl, by first | exact hb0s _ | exact hbs⟩ (by omega)) ?_
    refine runTf g'3 ?_
    exact hQ _ _ (end_plain (.inl rfl) hbel (x := .bool true) (resT Tryz.results5) rfl ⟨by first | rfl | simp, rfl⟩)
end Go.Proofs.YtoimakfecmhjkaaGreat
namespace Go.Proofs.YtoimakfecmhjkaaGreat
set_option linter.unusedSimpArgs false
set_option linter.unusedVariables false
open Go.RowKit
set_option maxRecDepth 100000 in
theorem motionSafe_top (H : AHeap) (xs : List AV) (hn : xs.length = 3) (hy : ∀ (j : Nat) (t : TypeId) (x : AV), [49, 50, 25][j]? = some t → xs[j]? = some x → ATy Tryz.prog H 9 t x) : ACalls Tryz.prog 5 xs H (fun v H' => v = .bool true ∧ H' = H) := by
  match xs, hn, hy with
  | [a0, a1, a2], _, hy =>
    obtain ⟨ys0, e0, r0_0⟩ := (hy 0 _ a0 rfl rfl).agg (ls := [3, 3, 47]) (by kernel_rfl) (by kernel_rfl)
    obtain ⟨y0_0, q0_0, rfl, t0_0, r0_1⟩ := r0_0.cons
    obtain ⟨z1, rfl, w1⟩ := t0_0.int (k := .i64) (by kernel_rfl)
    obtain ⟨y0_1, q0_1, rfl, t0_1, r0_2⟩ := r0_1.cons
    obtain ⟨z2, rfl, w2⟩ := t0_1.int (k := .i64) (by kernel_rfl)
    obtain ⟨y0_2, q0_2, rfl, t0_2, r0_3⟩ := r0_2.cons
    obtain ⟨l3, s3, m3, w3⟩ := t0_2.intsU (n := 7) (t := 47) (e := 5) (by kernel_rfl) (by kernel_rfl) (by kernel_rfl)
    obtain rfl := r0_3.nil
    subst e0
    have t1 := (hy 1 _ a1 rfl rfl).one (by kernel_rfl) (by kernel_rfl)
    obtain ⟨l4, s4, m4, w4⟩ := t1.rec6 (n := 7) (t := 50) (e := 79) (t1 := 3) (t2 := 3) (t3 := 3) (t4 := 3) (t5 := 3) (t6 := 3) (by kernel_rfl) (by kernel_rfl) (by kernel_rfl) (by kernel_rfl) (by kernel_rfl) (by kernel_rfl) (by kernel_rfl) (by kernel_rfl)
    obtain ⟨ys2, e2, r2_0⟩ := (hy 2 _ a2 rfl rfl).agg (ls := [3, 3]) (by kernel_rfl) (by kernel_rfl)
    obtain ⟨y2_0, q2_0, rfl, t2_0, r2_1⟩ := r2_0.cons
    obtain ⟨z5, rfl, w5⟩ := t2_0.int (k := .i64) (by kernel_rfl)
    obtain ⟨y2_1, q2_1, rfl, t2_1, r2_2⟩ := r2_1.cons
    obtain ⟨z6, rfl, w6⟩ := t2_1.int (k := .i64) (by kernel_rfl)
    obtain rfl := r2_2.nil
    subst e2
    exact lsafe_c H z1 z2 _ l3 _ l4 z5 z6 s3 s4
section
open Go.ChangeShapes Go.WideShapes Go.ChangeAt Go.RowKit Go.Joins
open Go.ChangeMaps (open_string shut_string)
set_option maxRecDepth 100000 in
theorem motionSafe_lifted (os : Os) (started : os.Started) (H : Type) (enc : TypeId × Value → H) :
    ReturnsInHanded {} Tryz.checked os 5 .any (Rows.motionSafeSpec.pre6 enc Tryz.prog Tryz.f5 Rows.motionSafeRow.domain false) (Rows.motionSafeSpec.post enc Tryz.prog Tryz.f5 false true false false) := by
  refine returnsInHanded_of_change (C := Tryz.checked) own started (by kernel_rfl) Tryz.func5
    (ChangeSpec.witness6 (enc := enc) (C := Tryz.checked) false ⟨#[], #[.agg #[.int .i64 0, .int .i64 0, .slice none 0 0], .slice none 0 0, .agg #[.int .i64 0, .int .i64 0]], []⟩ 8 (by kernel_rfl) (by kernel_rfl) (by kernel_rfl) (by kernel_rfl)) ?_
  intro W base args ds gs before hval0 hW hcnd _
  have hval : ∀ (j : Nat) t v, Tryz.f5.params[j]? = some t → args[j]? = some v → Value.okWide Tryz.prog W .any base t v := hval0
  have hW' := hW
  obtain ⟨p, q, hA0, hV, rfl, hfz, hnd⟩ := hW
  have hA : DataW.TrodAll enc Tryz.prog W 0 (fun _ => true) true Tryz.f5.params.toList args.toList ds p := hA0
  rw [Tryz.params5] at hA hval
  have hwalk := calls_top (n := 9) (f := 5) hA (fun j t v a b => hval j t v (by simpa using a) (by simpa using b)) (by kernel_rfl) (fun H xs hn hy => motionSafe_top H xs hn hy)
  rw [Array.toArray_toList] at hwalk
  obtain ⟨v0, vs0, d0, ds0, p0, q0, hargs, rfl, rfl, h0, r0⟩ := trodAll_cons hA
  obtain ⟨v1, vs1, d1, ds1, p1, q1, rfl, rfl, rfl, h1, r1⟩ := trodAll_cons r0
  obtain ⟨v2, vs2, d2, ds2, p2, q2, rfl, rfl, rfl, h2, r2⟩ := trodAll_cons r1
  obtain ⟨rfl, rfl, rfl⟩ := trodAll_nil r2
  obtain rfl : args = #[v0, v1, v2] := by cases args; simp_all
  obtain ⟨rfl, rfl⟩ := trodVars_none hV
  have k0 := h0
  have lt0 : ∀ x ∈ p0, x.block < W.heap.size := by obtain ⟨m, hm⟩ := k0; exact DataW.trod_lt m _ _ _ hm
  have k1 := h1
  have lt1 : ∀ x ∈ p1, x.block < W.heap.size := by obtain ⟨m, hm⟩ := k1; exact DataW.trod_lt m _ _ _ hm
  have k2 := h2
  have lt2 : ∀ x ∈ p2, x.block < W.heap.size := by obtain ⟨m, hm⟩ := k2; exact DataW.trod_lt m _ _ _ hm
  clear hA0 hval0
  refine hwalk.mono fun e W' ⟨he, bel⟩ => ?_
  subst he
  exact ⟨_, rfl, _, _, _, [], _, [], hW', trodAll_mk1 (shut_bool Tryz.underlying4 _), (trodAll_cons_mk (Below.trod laidOut (by kernel_rfl) (of_decide_eq_true (by kernel_rfl)) k0 bel lt0) (trodAll_cons_mk (Below.trod laidOut (by kernel_rfl) (of_decide_eq_true (by kernel_rfl)) k1 bel lt1) (trodAll_cons_mk (Below.trod laidOut (by kernel_rfl) (of_decide_eq_true (by kernel_rfl)) k2 bel lt2) trodAll_mk0))), rfl, bel.frame _, fun h => by cases h⟩
theorem motionSafe_over : Rows.motionSafeRow.holds Tryz.pinned (OpenSpec.ofChange Rows.motionSafeSpec) :=
  OpenClaim.holds_of_wide 5 Tryz.f5 rfl rfl rfl rfl rfl rfl rfl ⟨rfl, rfl, rfl, rfl, rfl⟩ rfl rfl rfl rfl rfl (by kernel_rfl) Tryz.func5 (by kernel_rfl)
    (of_decide_eq_true (by kernel_rfl)) (by unfold Func.isWrapper; rw [if_neg (by decide +kernel)]; exact ⟨rfl, rfl⟩)
    (fun os started H enc _ => motionSafe_lifted os started H enc)
/-- The given statement. -/
theorem motionSafe_proved : Rows.MotionSafeSaid := motionSafe_over
end
end Go.Proofs.YtoimakfecmhjkaaGreat
