/- Parts of the proof: walks and plain facts. Conditions: as each theorem states. -/
import Derived.Test.YtoimakfecmhjkaaGreatG5
import Derived.Test.YtoimakfecmhjkaaGreatG4
import Derived.Test.YtoimakfecmhjkaaGreatG3
namespace Go.Proofs.YtoimakfecmhjkaaGreat
set_option linter.unusedSimpArgs false
set_option linter.unusedVariables false
open Go.RowKit
set_option maxHeartbeats 4000000
set_option maxRecDepth 100000
theorem sweep_c (H : AHeap) (x0 : Int) (y0 : Int) (x1 : Int) (y1 : Int) (h : Int) (t : Int) (f : Int) (tu : Int) (le : Int) (sl : Int) (ra : Int) : ACalls Tryz.prog 13 [.agg [.int .i64 x0, .int .i64 y0, .int .i64 x1, .int .i64 y1], .int .i64 h, .agg [.int .i64 t, .int .i64 f], .agg [.int .i64 tu, .int .i64 le, .int .i64 sl, .int .i64 ra]] H (fun v H' => v = .tup [.agg [.int .i64 (mkX (sweE x0 y0 x1 y1 h t f tu le sl ra) (sweX x0 x1 h f le)), .int .i64 (mkX (sweE x0 y0 x1 y1 h t f tu le sl ra) (sweY y0 y1 h f le)), .sl (some (H.length, 0)) ((mkL (sweE x0 y0 x1 y1 h t f tu le sl ra) (sweL x0 y0 x1 y1 h f le sl)).length) (capG (mkL (sweE x0 y0 x1 y1 h t f tu le sl ra) (sweL x0 y0 x1 y1 h f le sl)).length)], .int .i64 (sweE x0 y0 x1 y1 h t f tu le sl ra)] ∧ H' = H ++ [.cells (ownG (mkL (sweE x0 y0 x1 y1 h t f tu le sl ra) (sweL x0 y0 x1 y1 h f le sl)).length) 2 (prs (mkL (sweE x0 y0 x1 y1 h t f tu le sl ra) (sweL x0 y0 x1 y1 h f le sl)))]) := by
  have hwx : (f + le) * (dirV h).1 / (dirV h).2.2 = wayX h (f + le) := rfl
  have hwy : (f + le) * (dirV h).2.1 / (dirV h).2.2 = wayY h (f + le) := rfl
  (refine ACalls_pieces Tryz.func13 _ rfl (Nat.le_of_ble_eq_true (by kernel_rfl)) rfl ?_; intro hbel Q hQ hQ' c hc; unfold Tryz.f13 at hc; simp only [Option.some.injEq] at hc; subst hc; clear hQ')
  refine AW_step false try_mixed (by kernel_rfl) (fun F Hx => look F 1 = .int .i64 h ∧ look F 4 = .ptr (some (H.length, 0)) ∧ look F 6 = .ptr (some (H.length + 1, 0)) ∧ look F 7 = .ptr (some (H.length + 2, 0)) ∧ look F 8 = .ptr (some (H.length + 3, 0)) ∧ look F 9 = .int .i64 0 ∧ Hx = H ++ [.cells true 0 [.int .i64 x0, .int .i64 y0, .int .i64 x1, .int .i64 y1], .cells true 0 [.int .i64 t, .int .i64 f], .cells true 0 [.int .i64 tu, .int .i64 le, .int .i64 sl, .int .i64 ra], .cells true 0 [.int .i64 0, .int .i64 0, .sl none 0 (some 0)]]) ?_ ?_
  · skip
    have g'1 := (jn @hwx @hwy)
    refine runTf g'1 ?_
    refine inv_of ?_
    exact absT
  rintro F Hx ⟨f1, f2, f3, f4, f5, f6, rfl⟩
  refine AW_step false try_mixed (by kernel_rfl) (fun F Hx => within x0 1048576 = true ∧ within y0 1048576 = true ∧ within x1 1048576 = true ∧ within y1 1048576 = true ∧ (btw (x1 - x0) 0 32768) = true ∧ (btw (y1 - y0) 0 32768) = true ∧ cmdB t f = true ∧ bndB tu le sl ra = true ∧ look F 1 = .int .i64 h ∧ look F 4 = .ptr (some (H.length, 0)) ∧ look F 6 = .ptr (some (H.length + 1, 0)) ∧ look F 7 = .ptr (some (H.length + 2, 0)) ∧ look F 8 = .ptr (some (H.length + 3, 0)) ∧ look F 9 = .int .i64 0 ∧ Hx = H ++ [.cells true 0 [.int .i64 x0, .int .i64 y0, .int .i64 x1, .int .i64 y1], .cells true 0 [.int .i64 t, .int .i64 f], .cells true 0 [.int .i64 tu, .int .i64 le, .int .i64 sl, .int .i64 ra], .cells true 0 [.int .i64 0, .int .i64 0, .sl none 0 (some 0)]]) ?_ ?_
  · skip
    have g'2 := (jn @f1 (jn @f2 (jn @f3 (jn @f4 (jn @f5 (jn @f6 (jn @hwx @hwy)))))))
    refine runTf g'2 ?_
    refine call_v (by kernel_rfl) (mnear_c _ x0) ?_
    refine runTf g'2 ?_
    refine gd_split (fun h7 => ?_) (fun h7 => ?_)
    · have h7d := bsT h7
      have hwx0 := within_iff.1 h7d
      have g'3 := (jn @h7 (jn @h7d g'2))
      refine runTf g'3 ?_
      refine call_v (by kernel_rfl) (mnear_c _ y0) ?_
      refine runTf g'3 ?_
      refine gd_split (fun h8 => ?_) (fun h8 => ?_)
      · have h8d := bsT h8
        have hwy0 := within_iff.1 h8d
        have g'4 := (jn @h8 (jn @h8d g'3))
        refine runTf g'4 ?_
        refine call_v (by kernel_rfl) (mnear_c _ x1) ?_
        refine runTf g'4 ?_
        refine gd_split (fun h9 => ?_) (fun h9 => ?_)
        · have h9d := bsT h9
          have hwx1 := within_iff.1 h9d
          have g'5 := (jn @h9 (jn @h9d g'4))
          refine runTf g'5 ?_
          refine call_v (by kernel_rfl) (mnear_c _ y1) ?_
          refine runTf g'5 ?_
          refine gd_split (fun h10 => ?_) (fun h10 => ?_)
          · have h10d := bsT h10
            have hwy1 := within_iff.1 h10d
            have g'6 := (jn @h10 (jn @h10d g'5))
            refine runTf g'6 ?_
            refine call_v (by kernel_rfl) (mwithin_c _ (x1 - x0) 0 32768) ?_
            refine runTf g'6 ?_
            refine gd_split (fun h11 => ?_) (fun h11 => ?_)
            · have h11d := bsT h11
              have g'7 := (jn @h11 (jn @h11d g'6))
              refine runTf g'7 ?_
              refine call_v (by kernel_rfl) (mwithin_c _ (y1 - y0) 0 32768) ?_
              refine runTf g'7 ?_
              refine gd_split (fun h12 => ?_) (fun h12 => ?_)
              · have h12d := bsT h12
                have g'8 := (jn @h12 (jn @h12d g'7))
                refine runTf g'8 ?_
                refine call_v (by kernel_rfl) (vcmd_c _ t f) ?_
                refine runTf g'8 ?_
                refine gd_split (fun h13 => ?_) (fun h13 => ?_)
                · have h13d := bsT h13
                  have g'9 := (jn @h13 (jn @h13d g'8))
                  refine runTf g'9 ?_
                  refine call_v (by kernel_rfl) (vbnd_c _ tu le sl ra) ?_
                  refine runTf g'9 ?_
                  refine cond_split (fun h14 => ?_) (fun h14 => ?_)
                  · have h14d := bsT h14
                    have g'10 := (jn @h14 (jn @h14d g'9))
                    refine runTf g'10 ?_
                    refine hQ _ _ (end_byG (.inl rfl) hbel (x1 := .tup [.agg [.int .i64 0, .int .i64 0, .sl none 0 (some 0)], .int .i64 1]) (l2 := [.cells false 2 []]) (.tup [.agg [.int .i64 0, .int .i64 0, .sl (some (H.length, 0)) 0 (some 0)], .int .i64 1]) (resTf (jn @f1 (jn @f2 (jn @f3 (jn @f4 (jn @f5 @f6))))) Tryz.results13) [.cells false 2 []] rfl [4] (by decide) ⟨by first | (simp [mkX, mkL, sweE, sweB, capG_0, ownG_0, prs_nil, h7d, h8d, h9d, h10d, h11d, h12d, h13d, h14d]; done) | (simp [mkX, mkL, sweE, hok, capG_0, ownG_0, prs_nil, h7d, h8d, h9d, h10d, h11d, h12d, h13d, h14d]; done) | (rw [hfinE]; simp only [mkX_0, mkL_0, sweX, sweY, sweL, wayL, hlf, hfinF, if_true, if_false, sw_eq, ← sw_eq0, Int.add_zero]), by first | (simp [mkX, mkL, sweE, sweB, capG_0, ownG_0, prs_nil, h7d, h8d, h9d, h10d, h11d, h12d, h13d, h14d]; done) | (simp [mkX, mkL, sweE, hok, capG_0, ownG_0, prs_nil, h7d, h8d, h9d, h10d, h11d, h12d, h13d, h14d]; done) | (rw [hfinE]; simp only [mkX_0, mkL_0, sweX, sweY, sweL, wayL, hlf, hfinF, if_true, if_false, sw_eq, ← sw_eq0, Int.add_zero])⟩ ?_)
                    exact absW
                  · have h14d := bsT h14
                    have g'11 := (jn @h14 (jn @h14d g'9))
                    refine runTf g'11 ?_
                    refine inv_of ?_
                    exact absTf (jn @f1 (jn @f2 (jn @f3 (jn @f4 (jn @f5 @f6)))))
                · have h13d := bsT h13
                  have g'12 := (jn @h13 (jn @h13d g'8))
                  refine runTf g'12 ?_
                  refine hQ _ _ (end_byG (.inl rfl) hbel (x1 := .tup [.agg [.int .i64 0, .int .i64 0, .sl none 0 (some 0)], .int .i64 1]) (l2 := [.cells false 2 []]) (.tup [.agg [.int .i64 0, .int .i64 0, .sl (some (H.length, 0)) 0 (some 0)], .int .i64 1]) (resTf (jn @f1 (jn @f2 (jn @f3 (jn @f4 (jn @f5 @f6))))) Tryz.results13) [.cells false 2 []] rfl [4] (by decide) ⟨by first | (simp [mkX, mkL, sweE, sweB, capG_0, ownG_0, prs_nil, h7d, h8d, h9d, h10d, h11d, h12d, h13d]; done) | (simp [mkX, mkL, sweE, hok, capG_0, ownG_0, prs_nil, h7d, h8d, h9d, h10d, h11d, h12d, h13d]; done) | (rw [hfinE]; simp only [mkX_0, mkL_0, sweX, sweY, sweL, wayL, hlf, hfinF, if_true, if_false, sw_eq, ← sw_eq0, Int.add_zero]), by first | (simp [mkX, mkL, sweE, sweB, capG_0, ownG_0, prs_nil, h7d, h8d, h9d, h10d, h11d, h12d, h13d]; done) | (simp [mkX, mkL, sweE, hok, capG_0, ownG_0, prs_nil, h7d, h8d, h9d, h10d, h11d, h12d, h13d]; done) | (rw [hfinE]; simp only [mkX_0, mkL_0, sweX, sweY, sweL, wayL, hlf, hfinF, if_true, if_false, sw_eq, ← sw_eq0, Int.add_zero])⟩ ?_)
                  exact absW
              · have h12d := bsT h12
                have g'13 := (jn @h12 (jn @h12d g'7))
                refine runTf g'13 ?_
                refine hQ _ _ (end_byG (.inl rfl) hbel (x1 := .tup [.agg [.int .i64 0, .int .i64 0, .sl none 0 (some 0)], .int .i64 1]) (l2 := [.cells false 2 []]) (.tup [.agg [.int .i64 0, .int .i64 0, .sl (some (H.length, 0)) 0 (some 0)], .int .i64 1]) (resTf (jn @f1 (jn @f2 (jn @f3 (jn @f4 (jn @f5 @f6))))) Tryz.results13) [.cells false 2 []] rfl [4] (by decide) ⟨by first | (simp [mkX, mkL, sweE, sweB, capG_0, ownG_0, prs_nil, h7d, h8d, h9d, h10d, h11d, h12d]; done) | (simp [mkX, mkL, sweE, hok, capG_0, ownG_0, prs_nil, h7d, h8d, h9d, h10d, h11d, h12d]; done) | (rw [hfinE]; simp only [mkX_0, mkL_0, sweX, sweY, sweL, wayL, hlf, hfinF, if_true, if_false, sw_eq, ← sw_eq0, Int.add_zero]), by first | (simp [mkX, mkL, sweE, sweB, capG_0, ownG_0, prs_nil, h7d, h8d, h9d, h10d, h11d, h12d]; done) | (simp [mkX, mkL, sweE, hok, capG_0, ownG_0, prs_nil, h7d, h8d, h9d, h10d, h11d, h12d]; done) | (rw [hfinE]; simp only [mkX_0, mkL_0, sweX, sweY, sweL, wayL, hlf, hfinF, if_true, if_false, sw_eq, ← sw_eq0, Int.add_zero])⟩ ?_)
                exact absW
            · have h11d := bsT h11
              have g'14 := (jn @h11 (jn @h11d g'6))
              refine runTf g'14 ?_
              refine hQ _ _ (end_byG (.inl rfl) hbel (x1 := .tup [.agg [.int .i64 0, .int .i64 0, .sl none 0 (some 0)], .int .i64 1]) (l2 := [.cells false 2 []]) (.tup [.agg [.int .i64 0, .int .i64 0, .sl (some (H.length, 0)) 0 (some 0)], .int .i64 1]) (resTf (jn @f1 (jn @f2 (jn @f3 (jn @f4 (jn @f5 @f6))))) Tryz.results13) [.cells false 2 []] rfl [4] (by decide) ⟨by first | (simp [mkX, mkL, sweE, sweB, capG_0, ownG_0, prs_nil, h7d, h8d, h9d, h10d, h11d]; done) | (simp [mkX, mkL, sweE, hok, capG_0, ownG_0, prs_nil, h7d, h8d, h9d, h10d, h11d]; done) | (rw [hfinE]; simp only [mkX_0, mkL_0, sweX, sweY, sweL, wayL, hlf, hfinF, if_true, if_false, sw_eq, ← sw_eq0, Int.add_zero]), by first | (simp [mkX, mkL, sweE, sweB, capG_0, ownG_0, prs_nil, h7d, h8d, h9d, h10d, h11d]; done) | (simp [mkX, mkL, sweE, hok, capG_0, ownG_0, prs_nil, h7d, h8d, h9d, h10d, h11d]; done) | (rw [hfinE]; simp only [mkX_0, mkL_0, sweX, sweY, sweL, wayL, hlf, hfinF, if_true, if_false, sw_eq, ← sw_eq0, Int.add_zero])⟩ ?_)
              exact absW
          · have h10d := bsT h10
            have g'15 := (jn @h10 (jn @h10d g'5))
            refine runTf g'15 ?_
            refine hQ _ _ (end_byG (.inl rfl) hbel (x1 := .tup [.agg [.int .i64 0, .int .i64 0, .sl none 0 (some 0)], .int .i64 1]) (l2 := [.cells false 2 []]) (.tup [.agg [.int .i64 0, .int .i64 0, .sl (some (H.length, 0)) 0 (some 0)], .int .i64 1]) (resTf (jn @f1 (jn @f2 (jn @f3 (jn @f4 (jn @f5 @f6))))) Tryz.results13) [.cells false 2 []] rfl [4] (by decide) ⟨by first | (simp [mkX, mkL, sweE, sweB, capG_0, ownG_0, prs_nil, h7d, h8d, h9d, h10d]; done) | (simp [mkX, mkL, sweE, hok, capG_0, ownG_0, prs_nil, h7d, h8d, h9d, h10d]; done) | (rw [hfinE]; simp only [mkX_0, mkL_0, sweX, sweY, sweL, wayL, hlf, hfinF, if_true, if_false, sw_eq, ← sw_eq0, Int.add_zero]), by first | (simp [mkX, mkL, sweE, sweB, capG_0, ownG_0, prs_nil, h7d, h8d, h9d, h10d]; done) | (simp [mkX, mkL, sweE, hok, capG_0, ownG_0, prs_nil, h7d, h8d, h9d, h10d]; done) | (rw [hfinE]; simp only [mkX_0, mkL_0, sweX, sweY, sweL, wayL, hlf, hfinF, if_true, if_false, sw_eq, ← sw_eq0, Int.add_zero])⟩ ?_)
            exact absW
        · have h9d := bsT h9
          have g'16 := (jn @h9 (jn @h9d g'4))
          refine runTf g'16 ?_
          refine hQ _ _ (end_byG (.inl rfl) hbel (x1 := .tup [.agg [.int .i64 0, .int .i64 0, .sl none 0 (some 0)], .int .i64 1]) (l2 := [.cells false 2 []]) (.tup [.agg [.int .i64 0, .int .i64 0, .sl (some (H.length, 0)) 0 (some 0)], .int .i64 1]) (resTf (jn @f1 (jn @f2 (jn @f3 (jn @f4 (jn @f5 @f6))))) Tryz.results13) [.cells false 2 []] rfl [4] (by decide) ⟨by first | (simp [mkX, mkL, sweE, sweB, capG_0, ownG_0, prs_nil, h7d, h8d, h9d]; done) | (simp [mkX, mkL, sweE, hok, capG_0, ownG_0, prs_nil, h7d, h8d, h9d]; done) | (rw [hfinE]; simp only [mkX_0, mkL_0, sweX, sweY, sweL, wayL, hlf, hfinF, if_true, if_false, sw_eq, ← sw_eq0, Int.add_zero]), by first | (simp [mkX, mkL, sweE, sweB, capG_0, ownG_0, prs_nil, h7d, h8d, h9d]; done) | (simp [mkX, mkL, sweE, hok, capG_0, ownG_0, prs_nil, h7d, h8d, h9d]; done) | (rw [hfinE]; simp only [mkX_0, mkL_0, sweX, sweY, sweL, wayL, hlf, hfinF, if_true, if_false, sw_eq, ← sw_eq0, Int.add_zero])⟩ ?_)
          exact absW
      · have h8d := bsT h8
        have g'17 := (jn @h8 (jn @h8d g'3))
        refine runTf g'17 ?_
        refine hQ _ _ (end_byG (.inl rfl) hbel (x1 := .tup [.agg [.int .i64 0, .int .i64 0, .sl none 0 (some 0)], .int .i64 1]) (l2 := [.cells false 2 []]) (.tup [.agg [.int .i64 0, .int .i64 0, .sl (some (H.length, 0)) 0 (some 0)], .int .i64 1]) (resTf (jn @f1 (jn @f2 (jn @f3 (jn @f4 (jn @f5 @f6))))) Tryz.results13) [.cells false 2 []] rfl [4] (by decide) ⟨by first | (simp [mkX, mkL, sweE, sweB, capG_0, ownG_0, prs_nil, h7d, h8d]; done) | (simp [mkX, mkL, sweE, hok, capG_0, ownG_0, prs_nil, h7d, h8d]; done) | (rw [hfinE]; simp only [mkX_0, mkL_0, sweX, sweY, sweL, wayL, hlf, hfinF, if_true, if_false, sw_eq, ← sw_eq0, Int.add_zero]), by first | (simp [mkX, mkL, sweE, sweB, capG_0, ownG_0, prs_nil, h7d, h8d]; done) | (simp [mkX, mkL, sweE, hok, capG_0, ownG_0, prs_nil, h7d, h8d]; done) | (rw [hfinE]; simp only [mkX_0, mkL_0, sweX, sweY, sweL, wayL, hlf, hfinF, if_true, if_false, sw_eq, ← sw_eq0, Int.add_zero])⟩ ?_)
        exact absW
    · have h7d := bsT h7
      have g'18 := (jn @h7 (jn @h7d g'2))
      refine runTf g'18 ?_
      refine hQ _ _ (end_byG (.inl rfl) hbel (x1 := .tup [.agg [.int .i64 0, .int .i64 0, .sl none 0 (some 0)], .int .i64 1]) (l2 := [.cells false 2 []]) (.tup [.agg [.int .i64 0, .int .i64 0, .sl (some (H.length, 0)) 0 (some 0)], .int .i64 1]) (resTf (jn @f1 (jn @f2 (jn @f3 (jn @f4 (jn @f5 @f6))))) Tryz.results13) [.cells false 2 []] rfl [4] (by decide) ⟨by first | (simp [mkX, mkL, sweE, sweB, capG_0, ownG_0, prs_nil, h7d]; done) | (simp [mkX, mkL, sweE, hok, capG_0, ownG_0, prs_nil, h7d]; done) | (rw [hfinE]; simp only [mkX_0, mkL_0, sweX, sweY, sweL, wayL, hlf, hfinF, if_true, if_false, sw_eq, ← sw_eq0, Int.add_zero]), by first | (simp [mkX, mkL, sweE, sweB, capG_0, ownG_0, prs_nil, h7d]; done) | (simp [mkX, mkL, sweE, hok, capG_0, ownG_0, prs_nil, h7d]; done) | (rw [hfinE]; simp only [mkX_0, mkL_0, sweX, sweY, sweL, wayL, hlf, hfinF, if_true, if_false, sw_eq, ← sw_eq0, Int.add_zero])⟩ ?_)
      exact absW
  rintro F Hx ⟨h15d, h16d, h17d, h18d, h19d, h20d, h21d, h22d, f23, f24, f25, f26, f27, f28, rfl⟩
  have hok : sweB x0 y0 x1 y1 t f tu le sl ra = true := by unfold sweB; rw [h15d, h16d, h17d, h18d, h19d, h20d, h21d, h22d]; rfl
  have hbd := swe_bd hok
  have hre : rectE x0 y0 x1 y1 = 0 := if_pos ⟨by unfold far4; simp only [Bool.and_eq_true, within_iff]; omega, by omega, by omega, by omega, by omega⟩
  have hrs := rec_spr (x0 := x0) (y0 := y0) (x1 := x1) (y1 := y1) (by omega) (by omega)
  have hq1 := sqr_spr (a := 20) (by omega)
  have hq2 := sqr_spr (a := sl + 21) (by omega)
  refine AW_step false try_mixed (by kernel_rfl) (fun F Hx => btw h 0 255 = true ∧ look F 1 = .int .i64 h ∧ look F 4 = .ptr (some (H.length, 0)) ∧ look F 6 = .ptr (some (H.length + 1, 0)) ∧ look F 7 = .ptr (some (H.length + 2, 0)) ∧ look F 8 = .ptr (some (H.length + 3, 0)) ∧ look F 9 = .int .i64 0 ∧ Hx = H ++ [.cells true 0 [.int .i64 x0, .int .i64 y0, .int .i64 x1, .int .i64 y1], .cells true 0 [.int .i64 t, .int .i64 f], .cells true 0 [.int .i64 tu, .int .i64 le, .int .i64 sl, .int .i64 ra], .cells true 0 [.int .i64 0, .int .i64 0, .sl none 0 (some 0)]]) ?_ ?_
  · skip
    have g'19 := (jn @f1 (jn @f2 (jn @f3 (jn @f4 (jn @f5 (jn @f6 (jn @f23 (jn @f24 (jn @f25 (jn @f26 (jn @f27 (jn @f28 (jn @h15d (jn @h16d (jn @h17d (jn @h18d (jn @h19d (jn @h20d (jn @h21d (jn @h22d (jn @hwx @hwy)))))))))))))))))))))
    refine runTf g'19 ?_
    refine call_v (by kernel_rfl) (mwithin_c _ h 0 255) ?_
    refine runTf g'19 ?_
    refine cond_split (fun h29 => ?_) (fun h29 => ?_)
    · have h29d := bsT h29
      have g'20 := (jn @h29 (jn @h29d g'19))
      refine runTf g'20 ?_
      refine hQ _ _ (end_byG (.inl rfl) hbel (x1 := .tup [.agg [.int .i64 0, .int .i64 0, .sl none 0 (some 0)], .int .i64 2]) (l2 := [.cells false 2 []]) (.tup [.agg [.int .i64 0, .int .i64 0, .sl (some (H.length, 0)) 0 (some 0)], .int .i64 2]) (resTf (jn @f1 (jn @f2 (jn @f3 (jn @f4 (jn @f5 (jn @f6 (jn @f23 (jn @f24 (jn @f25 (jn @f26 (jn @f27 @f28))))))))))) Tryz.results13) [.cells false 2 []] rfl [4] (by decide) ⟨by first | (simp [mkX, mkL, sweE, sweB, capG_0, ownG_0, prs_nil, h15d, h16d, h17d, h18d, h19d, h20d, h21d, h22d, h29d]; done) | (simp [mkX, mkL, sweE, hok, capG_0, ownG_0, prs_nil, h15d, h16d, h17d, h18d, h19d, h20d, h21d, h22d, h29d]; done) | (rw [hfinE]; simp only [mkX_0, mkL_0, sweX, sweY, sweL, wayL, hlf, hfinF, if_true, if_false, sw_eq, ← sw_eq0, Int.add_zero]), by first | (simp [mkX, mkL, sweE, sweB, capG_0, ownG_0, prs_nil, h15d, h16d, h17d, h18d, h19d, h20d, h21d, h22d, h29d]; done) | (simp [mkX, mkL, sweE, hok, capG_0, ownG_0, prs_nil, h15d, h16d, h17d, h18d, h19d, h20d, h21d, h22d, h29d]; done) | (rw [hfinE]; simp only [mkX_0, mkL_0, sweX, sweY, sweL, wayL, hlf, hfinF, if_true, if_false, sw_eq, ← sw_eq0, Int.add_zero])⟩ ?_)
      exact absW
    · have h29d := bsT h29
      have g'21 := (jn @h29 (jn @h29d g'19))
      refine runTf g'21 ?_
      refine inv_of ?_
      exact absTf (jn @f1 (jn @f2 (jn @f3 (jn @f4 (jn @f5 (jn @f6 (jn @f23 (jn @f24 (jn @f25 (jn @f26 (jn @f27 @f28)))))))))))
  rintro F Hx ⟨h30d, f31, f32, f33, f34, f35, f36, rfl⟩
  have hfinE : sweE x0 y0 x1 y1 h t f tu le sl ra = 0 := by unfold sweE; rw [hok, h30d]; rfl
  have hz0 : sumE (x0 + x1) (y0 + y1) (canonL (recL x0 y0 x1 y1)) 0 0 (canonL (sqrL 20)) = 0 := sum_ok (by omega) (by omega) (by omega) (by omega) (by simp [recL, sqrL]) (by omega) (by omega)
  refine AW_step false try_mixed (by kernel_rfl) (fun F Hx => look F 1 = .int .i64 h ∧ look F 6 = .ptr (some (H.length + 1, 0)) ∧ look F 7 = .ptr (some (H.length + 2, 0)) ∧ look F 8 = .ptr (some (H.length + 3, 0)) ∧ look F 9 = .int .i64 0 ∧ look F 10 = .ptr (some (H.length + 5, 0)) ∧ Hx = H ++ [.cells true 0 [.int .i64 x0, .int .i64 y0, .int .i64 x1, .int .i64 y1], .cells true 0 [.int .i64 t, .int .i64 f], .cells true 0 [.int .i64 tu, .int .i64 le, .int .i64 sl, .int .i64 ra], .cells true 0 [.int .i64 0, .int .i64 0, .sl none 0 (some 0)], .cells (ownG (canonL (recL x0 y0 x1 y1)).length) 2 (prs (canonL (recL x0 y0 x1 y1))), .cells true 0 [.int .i64 (x0 + x1), .int .i64 (y0 + y1), .sl (some (H.length + 4, 0)) ((canonL (recL x0 y0 x1 y1)).length) (capG (canonL (recL x0 y0 x1 y1)).length)]]) ?_ ?_
  · skip
    have g'22 := (jn @f1 (jn @f2 (jn @f3 (jn @f4 (jn @f5 (jn @f6 (jn @f23 (jn @f24 (jn @f25 (jn @f26 (jn @f27 (jn @f28 (jn @h15d (jn @h16d (jn @h17d (jn @h18d (jn @h19d (jn @h20d (jn @h21d (jn @h22d (jn @f31 (jn @f32 (jn @f33 (jn @f34 (jn @f35 (jn @f36 (jn @h30d (jn @hwx @hwy))))))))))))))))))))))))))))
    refine runTf g'22 ?_
    refine call_v (by kernel_rfl) (ofrect_0 _ x0 y0 x1 y1 (by assumption)) ?_
    refine runTf g'22 ?_
    refine inv_of ?_
    exact absTf (jn @f1 (jn @f2 (jn @f3 (jn @f4 (jn @f5 (jn @f6 (jn @f23 (jn @f24 (jn @f25 (jn @f26 (jn @f27 (jn @f28 (jn @f31 (jn @f32 (jn @f33 (jn @f34 (jn @f35 @f36)))))))))))))))))
  rintro F Hx ⟨f37, f38, f39, f40, f41, f42, rfl⟩
  refine AW_step false try_mixed (by kernel_rfl) (fun F Hx => (f == 0) = false ∧ look F 1 = .int .i64 h ∧ look F 6 = .ptr (some (H.length + 1, 0)) ∧ look F 7 = .ptr (some (H.length + 2, 0)) ∧ look F 8 = .ptr (some (H.length + 3, 0)) ∧ look F 9 = .int .i64 0 ∧ look F 10 = .ptr (some (H.length + 5, 0)) ∧ Hx = H ++ [.cells true 0 [.int .i64 x0, .int .i64 y0, .int .i64 x1, .int .i64 y1], .cells true 0 [.int .i64 t, .int .i64 f], .cells true 0 [.int .i64 tu, .int .i64 le, .int .i64 sl, .int .i64 ra], .cells true 0 [.int .i64 0, .int .i64 0, .sl none 0 (some 0)], .cells (ownG (canonL (recL x0 y0 x1 y1)).length) 2 (prs (canonL (recL x0 y0 x1 y1))), .cells true 0 [.int .i64 (x0 + x1), .int .i64 (y0 + y1), .sl (some (H.length + 4, 0)) ((canonL (recL x0 y0 x1 y1)).length) (capG (canonL (recL x0 y0 x1 y1)).length)]]) ?_ ?_
  · skip
    have g'23 := (jn @f1 (jn @f2 (jn @f3 (jn @f4 (jn @f5 (jn @f6 (jn @f23 (jn @f24 (jn @f25 (jn @f26 (jn @f27 (jn @f28 (jn @h15d (jn @h16d (jn @h17d (jn @h18d (jn @h19d (jn @h20d (jn @h21d (jn @h22d (jn @f31 (jn @f32 (jn @f33 (jn @f34 (jn @f35 (jn @f36 (jn @h30d (jn @f37 (jn @f38 (jn @f39 (jn @f40 (jn @f41 (jn @f42 (jn @hwx @hwy))))))))))))))))))))))))))))))))))
    refine runTf g'23 ?_
    refine cond_split (fun h43 => ?_) (fun h43 => ?_)
    · have h43d := bsT h43
      have hfinF : f = 0 := h43d
      have g'24 := (jn @h43 (jn @h43d (jn @int_bne (jn @int_beq g'23))))
      refine runTf g'24 ?_
      refine call_x (by kernel_rfl) (by simp) (square_c _ 20 (by omega)) ?_
      refine runTf g'24 ?_
      refine call_x (by kernel_rfl) (by simp) (Sum_0 _ (x0 + x1) (y0 + y1) _ (canonL (recL x0 y0 x1 y1)) 0 0 _ (canonL (sqrL 20)) ⟨_, _, _, by first | rfl | (rw [List.length_append]; done) | (rw [List.length_append]; rfl), by first | rfl | (rw [get_newk]; rfl) | (rw [get_new0]; rfl) | (rw [get_newk, prs_append]; rfl) | (rw [get_new0, prs_append]; rfl)⟩ ⟨_, _, _, by first | rfl | (rw [List.length_append]; done) | (rw [List.length_append]; rfl), by first | rfl | (rw [get_newk]; rfl) | (rw [get_new0]; rfl) | (rw [get_newk, prs_append]; rfl) | (rw [get_new0, prs_append]; rfl)⟩ (by assumption)) ?_
      refine runTf g'24 ?_
      refine hQ _ _ (end_byG (.inl rfl) hbel (x1 := .tup [.agg [.int .i64 ((x0 + x1) + 0), .int .i64 ((y0 + y1) + 0), .sl (some (H.length + 7, 0)) ((canonL ((canonL (recL x0 y0 x1 y1)) ++ (canonL (sqrL 20)))).length) (capG (canonL ((canonL (recL x0 y0 x1 y1)) ++ (canonL (sqrL 20)))).length)], .int .i64 0]) (l2 := [.cells (ownG (canonL ((canonL (recL x0 y0 x1 y1)) ++ (canonL (sqrL 20)))).length) 2 (prs (canonL ((canonL (recL x0 y0 x1 y1)) ++ (canonL (sqrL 20)))))]) (.tup [.agg [.int .i64 ((x0 + x1) + 0), .int .i64 ((y0 + y1) + 0), .sl (some (H.length, 0)) ((canonL ((canonL (recL x0 y0 x1 y1)) ++ (canonL (sqrL 20)))).length) (capG (canonL ((canonL (recL x0 y0 x1 y1)) ++ (canonL (sqrL 20)))).length)], .int .i64 0]) (resTf (jn @f1 (jn @f2 (jn @f3 (jn @f4 (jn @f5 (jn @f6 (jn @f23 (jn @f24 (jn @f25 (jn @f26 (jn @f27 (jn @f28 (jn @f31 (jn @f32 (jn @f33 (jn @f34 (jn @f35 (jn @f36 (jn @f37 (jn @f38 (jn @f39 (jn @f40 (jn @f41 @f42))))))))))))))))))))))) Tryz.results13) [] rfl [7] (by decide) ⟨by first | (simp [mkX, mkL, sweE, sweB, capG_0, ownG_0, prs_nil, h15d, h16d, h17d, h18d, h19d, h20d, h21d, h22d, h30d, h43d, hfinE, hfinF]; done) | (simp [mkX, mkL, sweE, hok, capG_0, ownG_0, prs_nil, h15d, h16d, h17d, h18d, h19d, h20d, h21d, h22d, h30d, h43d, hfinE, hfinF]; done) | (rw [hfinE]; simp only [mkX_0, mkL_0, sweX, sweY, sweL, wayL, hlf, hfinF, if_true, if_false, sw_eq, ← sw_eq0, Int.add_zero]), by first | (simp [mkX, mkL, sweE, sweB, capG_0, ownG_0, prs_nil, h15d, h16d, h17d, h18d, h19d, h20d, h21d, h22d, h30d, h43d, hfinE, hfinF]; done) | (simp [mkX, mkL, sweE, hok, capG_0, ownG_0, prs_nil, h15d, h16d, h17d, h18d, h19d, h20d, h21d, h22d, h30d, h43d, hfinE, hfinF]; done) | (rw [hfinE]; simp only [mkX_0, mkL_0, sweX, sweY, sweL, wayL, hlf, hfinF, if_true, if_false, sw_eq, ← sw_eq0, Int.add_zero])⟩ ?_)
      exact absW
    · have h43d := bsT h43
      have g'25 := (jn @h43 (jn @h43d (jn @int_bne (jn @int_beq g'23))))
      refine runTf g'25 ?_
      refine inv_of ?_
      exact absTf (jn @f1 (jn @f2 (jn @f3 (jn @f4 (jn @f5 (jn @f6 (jn @f23 (jn @f24 (jn @f25 (jn @f26 (jn @f27 (jn @f28 (jn @f31 (jn @f32 (jn @f33 (jn @f34 (jn @f35 (jn @f36 (jn @f37 (jn @f38 (jn @f39 (jn @f40 (jn @f41 @f42)))))))))))))))))))))))
  rintro F Hx ⟨h44d, f45, f46, f47, f48, f49, f50, rfl⟩
  have hfinF : ¬ f = 0 := by simpa using h44d
  have hdv := vecOK_iff.1 (dirV_ok h)
  have hpx := mul_bd (a := f + le) (b := (dirV h).1) (A := 48) (B := 8065) (by omega) (by omega)
  have hpy := mul_bd (a := f + le) (b := (dirV h).2.1) (A := 48) (B := 8065) (by omega) (by omega)
  have hwb := way_bd h (m := f + le) (by omega)
  have hws := way_spr (h := h) (m := f + le) (by omega)
  have hwe : segE 0 0 (wayX h (f + le)) (wayY h (f + le)) = 0 := if_pos ⟨by unfold far4; simp only [Bool.and_eq_true, within_iff]; omega, by rw [within_iff]; omega, by rw [within_iff]; omega⟩
  have hz1 : sumE (x0 + x1) (y0 + y1) (canonL (recL x0 y0 x1 y1)) (wayX h (f + le)) (wayY h (f + le)) (canonL [(wayX h (f + le), wayY h (f + le))]) = 0 := sum_ok (by omega) (by omega) (by omega) (by omega) (by simp [recL]) (by omega) (by omega)
  have hz2 : sumE (x0 + x1 + wayX h (f + le)) (y0 + y1 + wayY h (f + le)) (canonL (canonL (recL x0 y0 x1 y1) ++ canonL [(wayX h (f + le), wayY h (f + le))])) 0 0 (canonL (sqrL (sl + 21))) = 0 := sum_ok (by omega) (by omega) (by omega) (by omega) (by have a1 := canonL_len (recL x0 y0 x1 y1); have a2 := canonL_len [(wayX h (f + le), wayY h (f + le))]; have a3 : (recL x0 y0 x1 y1).length = 2 := rfl; have a4 : (sqrL (sl + 21)).length = 2 := rfl; rw [List.length_append]; simp only [List.length_cons, List.length_nil] at a2; omega) (by rw [spr_app, spr_canon, spr_canon]; omega) (by rw [spr_app, spr_canon, spr_canon]; omega)
  refine AW_special false try_mixed [[0, 1, 2, 3, 4, 5, 6, 7, 8, 9], [0, 1, 2, 3, 4, 7, 8, 5, 6, 9], [0, 1, 2, 4, 5, 7, 8, 3, 6, 9], [0, 1, 2, 4, 7, 8, 3, 5, 6, 9], [0, 2, 3, 4, 5, 6, 7, 1, 8, 9], [0, 2, 3, 4, 7, 1, 8, 5, 6, 9], [0, 2, 4, 5, 7, 1, 8, 3, 6, 9], [0, 2, 4, 7, 1, 8, 3, 5, 6, 9]] (by kernel_rfl) (fun F2 H2 => F2 = [(7, .ptr (some (H.length, 0))), (8, .ptr (some (H.length + 1, 0))), (9, .int .i64 0), (10, .ptr (some (H.length + 3, 0))), (12, .ptr (some (H.length + 4, 0))), (13, .int .i64 (f + le))] ∧ H2 = H ++ [.cells true 0 [.int .i64 tu, .int .i64 le, .int .i64 sl, .int .i64 ra], .cells true 0 [.int .i64 0, .int .i64 0, .sl none 0 (some 0)], .cells (ownG (canonL (recL x0 y0 x1 y1)).length) 2 (prs (canonL (recL x0 y0 x1 y1))), .cells true 0 [.int .i64 (x0 + x1), .int .i64 (y0 + y1), .sl (some (H.length + 2, 0)) ((canonL (recL x0 y0 x1 y1)).length) (capG (canonL (recL x0 y0 x1 y1)).length)], .cells true 0 [.int .i64 ((dirV h).1), .int .i64 ((dirV h).2.1), .int .i64 ((dirV h).2.2)]]) ?_ ?_
  · refine reps_cons ?_ (reps_cons ?_ (reps_cons ?_ (reps_cons ?_ (reps_cons ?_ (reps_cons ?_ (reps_cons ?_ (reps_cons ?_ (reps_nil)))))))) <;> intro J hJ
    · skip
      have g'26 := (jn @f1 (jn @f2 (jn @f3 (jn @f4 (jn @f5 (jn @f6 (jn @f23 (jn @f24 (jn @f25 (jn @f26 (jn @f27 (jn @f28 (jn @h15d (jn @h16d (jn @h17d (jn @h18d (jn @h19d (jn @h20d (jn @h21d (jn @h22d (jn @f31 (jn @f32 (jn @f33 (jn @f34 (jn @f35 (jn @f36 (jn @h30d (jn @f37 (jn @f38 (jn @f39 (jn @f40 (jn @f41 (jn @f42 (jn @f45 (jn @f46 (jn @f47 (jn @f48 (jn @f49 (jn @f50 (jn @h44d (jn @hwx @hwy)))))))))))))))))))))))))))))))))))))))))
      refine runDf g'26 ?_
      refine call_d (by kernel_rfl) (dir_c _ h) ?_
      refine runDf g'26 ?_
      refine inv_of (hJ _ _ ⟨_, _, _, ⟨rfl, rfl⟩, Abs.byG hbel [] rfl [2, 3, 4, 5, 6] (by decide) ?_⟩)
      exact absRf (jn @f1 (jn @f2 (jn @f3 (jn @f4 (jn @f5 (jn @f6 (jn @f23 (jn @f24 (jn @f25 (jn @f26 (jn @f27 (jn @f28 (jn @f31 (jn @f32 (jn @f33 (jn @f34 (jn @f35 (jn @f36 (jn @f37 (jn @f38 (jn @f39 (jn @f40 (jn @f41 (jn @f42 (jn @f45 (jn @f46 (jn @f47 (jn @f48 (jn @f49 @f50)))))))))))))))))))))))))))))
    · skip
      have g'27 := (jn @f1 (jn @f2 (jn @f3 (jn @f4 (jn @f5 (jn @f6 (jn @f23 (jn @f24 (jn @f25 (jn @f26 (jn @f27 (jn @f28 (jn @h15d (jn @h16d (jn @h17d (jn @h18d (jn @h19d (jn @h20d (jn @h21d (jn @h22d (jn @f31 (jn @f32 (jn @f33 (jn @f34 (jn @f35 (jn @f36 (jn @h30d (jn @f37 (jn @f38 (jn @f39 (jn @f40 (jn @f41 (jn @f42 (jn @f45 (jn @f46 (jn @f47 (jn @f48 (jn @f49 (jn @f50 (jn @h44d (jn @hwx @hwy)))))))))))))))))))))))))))))))))))))))))
      refine runDf g'27 ?_
      refine call_d (by kernel_rfl) (dir_c _ h) ?_
      refine runDf g'27 ?_
      refine inv_of (hJ _ _ ⟨_, _, _, ⟨rfl, rfl⟩, Abs.byG hbel [] rfl [2, 3, 4, 5, 6] (by decide) ?_⟩)
      exact absRf (jn @f1 (jn @f2 (jn @f3 (jn @f4 (jn @f5 (jn @f6 (jn @f23 (jn @f24 (jn @f25 (jn @f26 (jn @f27 (jn @f28 (jn @f31 (jn @f32 (jn @f33 (jn @f34 (jn @f35 (jn @f36 (jn @f37 (jn @f38 (jn @f39 (jn @f40 (jn @f41 (jn @f42 (jn @f45 (jn @f46 (jn @f47 (jn @f48 (jn @f49 @f50)))))))))))))))))))))))))))))
    · skip
      have g'28 := (jn @f1 (jn @f2 (jn @f3 (jn @f4 (jn @f5 (jn @f6 (jn @f23 (jn @f24 (jn @f25 (jn @f26 (jn @f27 (jn @f28 (jn @h15d (jn @h16d (jn @h17d (jn @h18d (jn @h19d (jn @h20d (jn @h21d (jn @h22d (jn @f31 (jn @f32 (jn @f33 (jn @f34 (jn @f35 (jn @f36 (jn @h30d (jn @f37 (jn @f38 (jn @f39 (jn @f40 (jn @f41 (jn @f42 (jn @f45 (jn @f46 (jn @f47 (jn @f48 (jn @f49 (jn @f50 (jn @h44d (jn @hwx @hwy)))))))))))))))))))))))))))))))))))))))))
      refine runDf g'28 ?_
      refine call_d (by kernel_rfl) (dir_c _ h) ?_
      refine runDf g'28 ?_
      refine inv_of (hJ _ _ ⟨_, _, _, ⟨rfl, rfl⟩, Abs.byG hbel [] rfl [2, 3, 4, 5, 6] (by decide) ?_⟩)
      exact absRf (jn @f1 (jn @f2 (jn @f3 (jn @f4 (jn @f5 (jn @f6 (jn @f23 (jn @f24 (jn @f25 (jn @f26 (jn @f27 (jn @f28 (jn @f31 (jn @f32 (jn @f33 (jn @f34 (jn @f35 (jn @f36 (jn @f37 (jn @f38 (jn @f39 (jn @f40 (jn @f41 (jn @f42 (jn @f45 (jn @f46 (jn @f47 (jn @f48 (jn @f49 @f50)))))))))))))))))))))))))))))
    · skip
      have g'29 := (jn @f1 (jn @f2 (jn @f3 (jn @f4 (jn @f5 (jn @f6 (jn @f23 (jn @f24 (jn @f25 (jn @f26 (jn @f27 (jn @f28 (jn @h15d (jn @h16d (jn @h17d (jn @h18d (jn @h19d (jn @h20d (jn @h21d (jn @h22d (jn @f31 (jn @f32 (jn @f33 (jn @f34 (jn @f35 (jn @f36 (jn @h30d (jn @f37 (jn @f38 (jn @f39 (jn @f40 (jn @f41 (jn @f42 (jn @f45 (jn @f46 (jn @f47 (jn @f48 (jn @f49 (jn @f50 (jn @h44d (jn @hwx @hwy)))))))))))))))))))))))))))))))))))))))))
      refine runDf g'29 ?_
      refine call_d (by kernel_rfl) (dir_c _ h) ?_
      refine runDf g'29 ?_
      refine inv_of (hJ _ _ ⟨_, _, _, ⟨rfl, rfl⟩, Abs.byG hbel [] rfl [2, 3, 4, 5, 6] (by decide) ?_⟩)
      exact absRf (jn @f1 (jn @f2 (jn @f3 (jn @f4 (jn @f5 (jn @f6 (jn @f23 (jn @f24 (jn @f25 (jn @f26 (jn @f27 (jn @f28 (jn @f31 (jn @f32 (jn @f33 (jn @f34 (jn @f35 (jn @f36 (jn @f37 (jn @f38 (jn @f39 (jn @f40 (jn @f41 (jn @f42 (jn @f45 (jn @f46 (jn @f47 (jn @f48 (jn @f49 @f50)))))))))))))))))))))))))))))
    · skip
      have g'30 := (jn @f1 (jn @f2 (jn @f3 (jn @f4 (jn @f5 (jn @f6 (jn @f23 (jn @f24 (jn @f25 (jn @f26 (jn @f27 (jn @f28 (jn @h15d (jn @h16d (jn @h17d (jn @h18d (jn @h19d (jn @h20d (jn @h21d (jn @h22d (jn @f31 (jn @f32 (jn @f33 (jn @f34 (jn @f35 (jn @f36 (jn @h30d (jn @f37 (jn @f38 (jn @f39 (jn @f40 (jn @f41 (jn @f42 (jn @f45 (jn @f46 (jn @f47 (jn @f48 (jn @f49 (jn @f50 (jn @h44d (jn @hwx @hwy)))))))))))))))))))))))))))))))))))))))))
      refine runDf g'30 ?_
      refine call_d (by kernel_rfl) (dir_c _ h) ?_
      refine runDf g'30 ?_
      refine inv_of (hJ _ _ ⟨_, _, _, ⟨rfl, rfl⟩, Abs.byG hbel [] rfl [2, 3, 4, 5, 6] (by decide) ?_⟩)
      exact absRf (jn @f1 (jn @f2 (jn @f3 (jn @f4 (jn @f5 (jn @f6 (jn @f23 (jn @f24 (jn @f25 (jn @f26 (jn @f27 (jn @f28 (jn @f31 (jn @f32 (jn @f33 (jn @f34 (jn @f35 (jn @f36 (jn @f37 (jn @f38 (jn @f39 (jn @f40 (jn @f41 (jn @f42 (jn @f45 (jn @f46 (jn @f47 (jn @f48 (jn @f49 @f50)))))))))))))))))))))))))))))
    · skip
      have g'31 := (jn @f1 (jn @f2 (jn @f3 (jn @f4 (jn @f5 (jn @f6 (jn @f23 (jn @f24 (jn @f25 (jn @f26 (jn @f27 (jn @f28 (jn @h15d (jn @h16d (jn @h17d (jn @h18d (jn @h19d (jn @h20d (jn @h21d (jn @h22d (jn @f31 (jn @f32 (jn @f33 (jn @f34 (jn @f35 (jn @f36 (jn @h30d (jn @f37 (jn @f38 (jn @f39 (jn @f40 (jn @f41 (jn @f42 (jn @f45 (jn @f46 (jn @f47 (jn @f48 (jn @f49 (jn @f50 (jn @h44d (jn @hwx @hwy)))))))))))))))))))))))))))))))))))))))))
      refine runDf g'31 ?_
      refine call_d (by kernel_rfl) (dir_c _ h) ?_
      refine runDf g'31 ?_
      refine inv_of (hJ _ _ ⟨_, _, _, ⟨rfl, rfl⟩, Abs.byG hbel [] rfl [2, 3, 4, 5, 6] (by decide) ?_⟩)
      exact absRf (jn @f1 (jn @f2 (jn @f3 (jn @f4 (jn @f5 (jn @f6 (jn @f23 (jn @f24 (jn @f25 (jn @f26 (jn @f27 (jn @f28 (jn @f31 (jn @f32 (jn @f33 (jn @f34 (jn @f35 (jn @f36 (jn @f37 (jn @f38 (jn @f39 (jn @f40 (jn @f41 (jn @f42 (jn @f45 (jn @f46 (jn @f47 (jn @f48 (jn @f49 @f50)))))))))))))))))))))))))))))
    · skip
      have g'32 := (jn @f1 (jn @f2 (jn @f3 (jn @f4 (jn @f5 (jn @f6 (jn @f23 (jn @f24 (jn @f25 (jn @f26 (jn @f27 (jn @f28 (jn @h15d (jn @h16d (jn @h17d (jn @h18d (jn @h19d (jn @h20d (jn @h21d (jn @h22d (jn @f31 (jn @f32 (jn @f33 (jn @f34 (jn @f35 (jn @f36 (jn @h30d (jn @f37 (jn @f38 (jn @f39 (jn @f40 (jn @f41 (jn @f42 (jn @f45 (jn @f46 (jn @f47 (jn @f48 (jn @f49 (jn @f50 (jn @h44d (jn @hwx @hwy)))))))))))))))))))))))))))))))))))))))))
      refine runDf g'32 ?_
      refine call_d (by kernel_rfl) (dir_c _ h) ?_
      refine runDf g'32 ?_
      refine inv_of (hJ _ _ ⟨_, _, _, ⟨rfl, rfl⟩, Abs.byG hbel [] rfl [2, 3, 4, 5, 6] (by decide) ?_⟩)
      exact absRf (jn @f1 (jn @f2 (jn @f3 (jn @f4 (jn @f5 (jn @f6 (jn @f23 (jn @f24 (jn @f25 (jn @f26 (jn @f27 (jn @f28 (jn @f31 (jn @f32 (jn @f33 (jn @f34 (jn @f35 (jn @f36 (jn @f37 (jn @f38 (jn @f39 (jn @f40 (jn @f41 (jn @f42 (jn @f45 (jn @f46 (jn @f47 (jn @f48 (jn @f49 @f50)))))))))))))))))))))))))))))
    · skip
      have g'33 := (jn @f1 (jn @f2 (jn @f3 (jn @f4 (jn @f5 (jn @f6 (jn @f23 (jn @f24 (jn @f25 (jn @f26 (jn @f27 (jn @f28 (jn @h15d (jn @h16d (jn @h17d (jn @h18d (jn @h19d (jn @h20d (jn @h21d (jn @h22d (jn @f31 (jn @f32 (jn @f33 (jn @f34 (jn @f35 (jn @f36 (jn @h30d (jn @f37 (jn @f38 (jn @f39 (jn @f40 (jn @f41 (jn @f42 (jn @f45 (jn @f46 (jn @f47 (jn @f48 (jn @f49 (jn @f50 (jn @h44d (jn @hwx @hwy)))))))))))))))))))))))))))))))))))))))))
      refine runDf g'33 ?_
      refine call_d (by kernel_rfl) (dir_c _ h) ?_
      refine runDf g'33 ?_
      refine inv_of (hJ _ _ ⟨_, _, _, ⟨rfl, rfl⟩, Abs.byG hbel [] rfl [2, 3, 4, 5, 6] (by decide) ?_⟩)
      exact absRf (jn @f1 (jn @f2 (jn @f3 (jn @f4 (jn @f5 (jn @f6 (jn @f23 (jn @f24 (jn @f25 (jn @f26 (jn @f27 (jn @f28 (jn @f31 (jn @f32 (jn @f33 (jn @f34 (jn @f35 (jn @f36 (jn @f37 (jn @f38 (jn @f39 (jn @f40 (jn @f41 (jn @f42 (jn @f45 (jn @f46 (jn @f47 (jn @f48 (jn @f49 @f50)))))))))))))))))))))))))))))
  rintro F2 H2 ⟨rfl, rfl⟩
  refine AW_special false try_mixed [[0, 1, 2, 3, 4, 5, 6, 7, 8, 9, 10, 11, 12, 13, 14, 15, 16, 17, 18, 19, 20, 21, 22], [0, 1, 2, 3, 4, 5, 6, 7, 8, 9, 10, 11, 12, 13, 14, 15, 20, 16, 17, 18, 19, 21, 22], [0, 1, 2, 3, 4, 5, 6, 7, 8, 9, 10, 11, 12, 13, 20, 14, 15, 16, 17, 18, 19, 21, 22], [0, 1, 2, 3, 4, 5, 6, 8, 9, 10, 11, 12, 13, 20, 7, 14, 15, 16, 17, 18, 19, 21, 22]] (by kernel_rfl) (fun F2 H2 => F2 = [(7, .ptr (some (H.length, 0))), (8, .ptr (some (H.length + 1, 0))), (9, .int .i64 0), (10, .ptr (some (H.length + 3, 0))), (14, .ptr (some (H.length + 5, 0)))] ∧ H2 = H ++ [.cells true 0 [.int .i64 tu, .int .i64 le, .int .i64 sl, .int .i64 ra], .cells true 0 [.int .i64 0, .int .i64 0, .sl none 0 (some 0)], .cells (ownG (canonL (recL x0 y0 x1 y1)).length) 2 (prs (canonL (recL x0 y0 x1 y1))), .cells true 0 [.int .i64 (x0 + x1), .int .i64 (y0 + y1), .sl (some (H.length + 2, 0)) ((canonL (recL x0 y0 x1 y1)).length) (capG (canonL (recL x0 y0 x1 y1)).length)], .cells (ownG (canonL [((wayX h (f + le)), (wayY h (f + le)))]).length) 2 (prs (canonL [((wayX h (f + le)), (wayY h (f + le)))])), .cells true 0 [.int .i64 (wayX h (f + le)), .int .i64 (wayY h (f + le)), .sl (some (H.length + 4, 0)) ((canonL [((wayX h (f + le)), (wayY h (f + le)))]).length) (capG (canonL [((wayX h (f + le)), (wayY h (f + le)))]).length)]]) ?_ ?_
  · refine reps_cons ?_ (reps_cons ?_ (reps_cons ?_ (reps_cons ?_ (reps_nil)))) <;> intro J hJ
    · skip
      have g'34 := (jn @h15d (jn @h16d (jn @h17d (jn @h18d (jn @h19d (jn @h20d (jn @h21d (jn @h22d (jn @h30d (jn @h44d (jn @prs_len (jn @prs_one (jn @hwx @hwy)))))))))))))
      refine runDf g'34 ?_
      refine call_d (by kernel_rfl) (mfloor_c _ ((f + le) * ((dirV h).1)) ((dirV h).2.2) (by omega) (by omega)) ?_
      refine runDf g'34 ?_
      refine call_d (by kernel_rfl) (mfloor_c _ ((f + le) * ((dirV h).2.1)) ((dirV h).2.2) (by omega) (by omega)) ?_
      refine runDf g'34 ?_
      refine call_x (by kernel_rfl) (by simp) (ofway_0 _ (wayX h (f + le)) (wayY h (f + le)) (by assumption)) ?_
      refine runDf g'34 ?_
      refine inv_of (hJ _ _ ⟨_, _, _, ⟨rfl, rfl⟩, Abs.byG hbel [] rfl [0, 1, 2, 3, 5, 6] (by decide) ?_⟩)
      exact absR
    · skip
      have g'35 := (jn @h15d (jn @h16d (jn @h17d (jn @h18d (jn @h19d (jn @h20d (jn @h21d (jn @h22d (jn @h30d (jn @h44d (jn @prs_len (jn @prs_one (jn @hwx @hwy)))))))))))))
      refine runDf g'35 ?_
      refine call_d (by kernel_rfl) (mfloor_c _ ((f + le) * ((dirV h).1)) ((dirV h).2.2) (by omega) (by omega)) ?_
      refine runDf g'35 ?_
      refine call_d (by kernel_rfl) (mfloor_c _ ((f + le) * ((dirV h).2.1)) ((dirV h).2.2) (by omega) (by omega)) ?_
      refine runDf g'35 ?_
      refine call_x (by kernel_rfl) (by simp) (ofway_0 _ (wayX h (f + le)) (wayY h (f + le)) (by assumption)) ?_
      refine runDf g'35 ?_
      refine inv_of (hJ _ _ ⟨_, _, _, ⟨rfl, rfl⟩, Abs.byG hbel [] rfl [0, 1, 2, 3, 6, 5] (by decide) ?_⟩)
      exact absR
    · skip
      have g'36 := (jn @h15d (jn @h16d (jn @h17d (jn @h18d (jn @h19d (jn @h20d (jn @h21d (jn @h22d (jn @h30d (jn @h44d (jn @prs_len (jn @prs_one (jn @hwx @hwy)))))))))))))
      refine runDf g'36 ?_
      refine call_d (by kernel_rfl) (mfloor_c _ ((f + le) * ((dirV h).1)) ((dirV h).2.2) (by omega) (by omega)) ?_
      refine runDf g'36 ?_
      refine call_d (by kernel_rfl) (mfloor_c _ ((f + le) * ((dirV h).2.1)) ((dirV h).2.2) (by omega) (by omega)) ?_
      refine runDf g'36 ?_
      refine call_x (by kernel_rfl) (by simp) (ofway_0 _ (wayX h (f + le)) (wayY h (f + le)) (by assumption)) ?_
      refine runDf g'36 ?_
      refine inv_of (hJ _ _ ⟨_, _, _, ⟨rfl, rfl⟩, Abs.byG hbel [] rfl [0, 1, 2, 3, 6, 5] (by decide) ?_⟩)
      exact absR
    · skip
      have g'37 := (jn @h15d (jn @h16d (jn @h17d (jn @h18d (jn @h19d (jn @h20d (jn @h21d (jn @h22d (jn @h30d (jn @h44d (jn @prs_len (jn @prs_one (jn @hwx @hwy)))))))))))))
      refine runDf g'37 ?_
      refine call_d (by kernel_rfl) (mfloor_c _ ((f + le) * ((dirV h).1)) ((dirV h).2.2) (by omega) (by omega)) ?_
      refine runDf g'37 ?_
      refine call_d (by kernel_rfl) (mfloor_c _ ((f + le) * ((dirV h).2.1)) ((dirV h).2.2) (by omega) (by omega)) ?_
      refine runDf g'37 ?_
      refine call_x (by kernel_rfl) (by simp) (ofway_0 _ (wayX h (f + le)) (wayY h (f + le)) (by assumption)) ?_
      refine runDf g'37 ?_
      refine inv_of (hJ _ _ ⟨_, _, _, ⟨rfl, rfl⟩, Abs.byG hbel [] rfl [0, 1, 2, 3, 6, 5] (by decide) ?_⟩)
      exact absR
  rintro F2 H2 ⟨rfl, rfl⟩
  refine AW_fin false try_mixed (by kernel_rfl) ?_
  have g'38 := (jn @h15d (jn @h16d (jn @h17d (jn @h18d (jn @h19d (jn @h20d (jn @h21d (jn @h22d (jn @h30d (jn @h44d (jn @prs_len (jn @prs_one (jn @hwx @hwy)))))))))))))
  refine runTf g'38 ?_
  refine call_v (by kernel_rfl) (Sum_0 _ (x0 + x1) (y0 + y1) _ (canonL (recL x0 y0 x1 y1)) (wayX h (f + le)) (wayY h (f + le)) _ (canonL [((wayX h (f + le)), (wayY h (f + le)))]) ⟨_, _, _, by first | rfl | (rw [List.length_append]; done) | (rw [List.length_append]; rfl), by first | rfl | (rw [get_newk]; rfl) | (rw [get_new0]; rfl) | (rw [get_newk, prs_append]; rfl) | (rw [get_new0, prs_append]; rfl)⟩ ⟨_, _, _, by first | rfl | (rw [List.length_append]; done) | (rw [List.length_append]; rfl), by first | rfl | (rw [get_newk]; rfl) | (rw [get_new0]; rfl) | (rw [get_newk, prs_append]; rfl) | (rw [get_new0, prs_append]; rfl)⟩ (by assumption)) ?_
  refine runTf g'38 ?_
  refine call_x (by kernel_rfl) (by simp) (square_c _ (sl + 21) (by omega)) ?_
  refine runTf g'38 ?_
  refine call_x (by kernel_rfl) (by simp) (Sum_0 _ ((x0 + x1) + (wayX h (f + le))) ((y0 + y1) + (wayY h (f + le))) _ (canonL ((canonL (recL x0 y0 x1 y1)) ++ (canonL [((wayX h (f + le)), (wayY h (f + le)))]))) 0 0 _ (canonL (sqrL (sl + 21))) ⟨_, _, _, by first | rfl | (rw [List.length_append]; done) | (rw [List.length_append]; rfl), by first | rfl | (rw [get_newk]; rfl) | (rw [get_new0]; rfl) | (rw [get_newk, prs_append]; rfl) | (rw [get_new0, prs_append]; rfl)⟩ ⟨_, _, _, by first | rfl | (rw [List.length_append]; done) | (rw [List.length_append]; rfl), by first | rfl | (rw [get_newk]; rfl) | (rw [get_new0]; rfl) | (rw [get_newk, prs_append]; rfl) | (rw [get_new0, prs_append]; rfl)⟩ (by assumption)) ?_
  refine runTf g'38 ?_
  refine hQ _ _ (end_byG (.inl rfl) hbel (x1 := .tup [.agg [.int .i64 (((x0 + x1) + (wayX h (f + le))) + 0), .int .i64 (((y0 + y1) + (wayY h (f + le))) + 0), .sl (some (H.length + 8, 0)) ((canonL ((canonL ((canonL (recL x0 y0 x1 y1)) ++ (canonL [((wayX h (f + le)), (wayY h (f + le)))]))) ++ (canonL (sqrL (sl + 21))))).length) (capG (canonL ((canonL ((canonL (recL x0 y0 x1 y1)) ++ (canonL [((wayX h (f + le)), (wayY h (f + le)))]))) ++ (canonL (sqrL (sl + 21))))).length)], .int .i64 0]) (l2 := [.cells (ownG (canonL ((canonL ((canonL (recL x0 y0 x1 y1)) ++ (canonL [((wayX h (f + le)), (wayY h (f + le)))]))) ++ (canonL (sqrL (sl + 21))))).length) 2 (prs (canonL ((canonL ((canonL (recL x0 y0 x1 y1)) ++ (canonL [((wayX h (f + le)), (wayY h (f + le)))]))) ++ (canonL (sqrL (sl + 21))))))]) (.tup [.agg [.int .i64 (((x0 + x1) + (wayX h (f + le))) + 0), .int .i64 (((y0 + y1) + (wayY h (f + le))) + 0), .sl (some (H.length, 0)) ((canonL ((canonL ((canonL (recL x0 y0 x1 y1)) ++ (canonL [((wayX h (f + le)), (wayY h (f + le)))]))) ++ (canonL (sqrL (sl + 21))))).length) (capG (canonL ((canonL ((canonL (recL x0 y0 x1 y1)) ++ (canonL [((wayX h (f + le)), (wayY h (f + le)))]))) ++ (canonL (sqrL (sl + 21))))).length)], .int .i64 0]) (resT Tryz.results13) [] rfl [8] (by decide) ⟨by first | (simp [mkX, mkL, sweE, sweB, capG_0, ownG_0, prs_nil, h15d, h16d, h17d, h18d, h19d, h20d, h21d, h22d, h30d, h44d, hfinE, hfinF]; done) | (simp [mkX, mkL, sweE, hok, capG_0, ownG_0, prs_nil, h15d, h16d, h17d, h18d, h19d, h20d, h21d, h22d, h30d, h44d, hfinE, hfinF]; done) | (rw [hfinE]; simp only [mkX_0, mkL_0, sweX, sweY, sweL, wayL, hlf, hfinF, if_true, if_false, sw_eq, ← sw_eq0, Int.add_zero]), by first | (simp [mkX, mkL, sweE, sweB, capG_0, ownG_0, prs_nil, h15d, h16d, h17d, h18d, h19d, h20d, h21d, h22d, h30d, h44d, hfinE, hfinF]; done) | (simp [mkX, mkL, sweE, hok, capG_0, ownG_0, prs_nil, h15d, h16d, h17d, h18d, h19d, h20d, h21d, h22d, h30d, h44d, hfinE, hfinF]; done) | (rw [hfinE]; simp only [mkX_0, mkL_0, sweX, sweY, sweL, wayL, hlf, hfinF, if_true, if_false, sw_eq, ← sw_eq0, Int.add_zero])⟩ ?_)
  exact absW
open Go.RowKit
theorem sweepq_c (H : AHeap) (x0 y0 x1 y1 h t f tu le sl ra : Int) : ACalls Tryz.prog 13 [.agg [.int .i64 x0, .int .i64 y0, .int .i64 x1, .int .i64 y1], .int .i64 h, .agg [.int .i64 t, .int .i64 f], .agg [.int .i64 tu, .int .i64 le, .int .i64 sl, .int .i64 ra]] H (fun v H' => v = .tup [.agg [.int .i64 (swX x0 y0 x1 y1 h t f tu le sl ra), .int .i64 (swY x0 y0 x1 y1 h t f tu le sl ra), .sl (some (H.length, 0)) (swL x0 y0 x1 y1 h t f tu le sl ra).length (capG (swL x0 y0 x1 y1 h t f tu le sl ra).length)], .int .i64 (sweE x0 y0 x1 y1 h t f tu le sl ra)] ∧ H' = H ++ [.cells (ownG (swL x0 y0 x1 y1 h t f tu le sl ra).length) 2 (prs (swL x0 y0 x1 y1 h t f tu le sl ra))]) := sweep_c H x0 y0 x1 y1 h t f tu le sl ra
theorem touchq_c (H : AHeap) (x0 y0 x1 y1 h t f tu le sl ra : Int) (s : AV) (hs : Sl H 2 s (swL x0 y0 x1 y1 h t f tu le sl ra).length (prs (swL x0 y0 x1 y1 h t f tu le sl ra))) : ACalls Tryz.prog 17 [.agg [.int .i64 (swX x0 y0 x1 y1 h t f tu le sl ra), .int .i64 (swY x0 y0 x1 y1 h t f tu le sl ra), s]] H (fun v H' => v = .tup [.sl (some (H.length, 0)) (stL x0 y0 x1 y1 h t f tu le sl ra).length none, .int .i64 (stE x0 y0 x1 y1 h t f tu le sl ra)] ∧ H' = H ++ [.cells (ownG (touC (swX x0 y0 x1 y1 h t f tu le sl ra) (swY x0 y0 x1 y1 h t f tu le sl ra) (swL x0 y0 x1 y1 h t f tu le sl ra)).length) 2 (prs (stL x0 y0 x1 y1 h t f tu le sl ra))]) := touched_c H _ _ _ _ hs
theorem unh_c (H : AHeap) (W : Int) (Hh : Int) (pp : AV) (xs : List Int) (x0 : Int) (y0 : Int) (x1 : Int) (y1 : Int) (h : Int) (t : Int) (f : Int) (tu : Int) (le : Int) (sl : Int) (ra : Int) (hpp : Sl H 1 pp xs.length (ints .u8 xs)) (hV : vldB W Hh xs = true) : ACalls Tryz.prog 78 [.agg [.int .i64 W, .int .i64 Hh, pp], .agg [.int .i64 x0, .int .i64 y0, .int .i64 x1, .int .i64 y1], .int .i64 h, .agg [.int .i64 t, .int .i64 f], .agg [.int .i64 tu, .int .i64 le, .int .i64 sl, .int .i64 ra]] H (fun v H' => v = .bool (unhB W Hh xs x0 y0 x1 y1 h t f tu le sl ra) ∧ H' = H) := by
  obtain ⟨bpp, opp, cpp, rfl, hbpp⟩ := hpp
  have hblpp := getElem?_lt hbpp
  have hb0pp := fun l => get_app (l := l) hbpp
  refine AcT true Tryz.func78 ?_; intro hbel Q hQ
  have g'1 := (jn @hbpp @hb0pp)
  refine runTf g'1 ?_
  refine call_v (by kernel_rfl) (sweepq_c _ x0 y0 x1 y1 h t f tu le sl ra) ?_
  refine runTf g'1 ?_
  refine cond_split (fun h1 => ?_) (fun h1 => ?_)
  · have h1d := bsT h1
    have h1n := bnT h1
    have hfinU : unhB W Hh xs x0 y0 x1 y1 h t f tu le sl ra = false := by unfold unhB; rw [decide_eq_false (by simpa using h1d)]; rfl
    have g'2 := (jn @h1 (jn @h1n (jn @int_bne (jn @int_beq g'1))))
    refine runTf g'2 ?_
    exact hQ _ _ (end_plain (.inl rfl) hbel (x := .bool false) (resT Tryz.results78) rfl ⟨by first | (rw [hfinU]; done) | (unfold unhB; rw [decide_eq_true hsw, decide_eq_true hst0]; rfl), rfl⟩)
  · have h1d := bsT h1
    have h1n := bnT h1
    have hsw : sweE x0 y0 x1 y1 h t f tu le sl ra = 0 := by simpa using h1d
    have g'3 := (jn @h1 (jn @h1n (jn @int_bne (jn @int_beq g'1))))
    refine runTf g'3 ?_
    refine call_v (by kernel_rfl) (touchq_c _ x0 y0 x1 y1 h t f tu le sl ra _ ⟨_, _, _, by first | rfl | (rw [List.length_append]; done) | (rw [List.length_append]; rfl), by first | rfl | (rw [get_newk]; rfl) | (rw [get_new0]; rfl) | (rw [get_newk, prs_append]; rfl) | (rw [get_new0, prs_append]; rfl)⟩) ?_
    refine runTf g'3 ?_
    refine gd_split (fun h2 => ?_) (fun h2 => ?_)
    · have h2d := bsT h2
      have h2n := bnT h2
      have hst0 : stE x0 y0 x1 y1 h t f tu le sl ra = 0 := by simpa using h2d
      have g'4 := (jn @h2 (jn @h2n g'3))
      refine runTf g'4 ?_
      refine call_v (by kernel_rfl) (has_cell _ _ (stL x0 y0 x1 y1 h t f tu le sl ra) ⟨_, _, _, by first | rfl | (rw [List.length_append]; done) | (rw [List.length_append]; rfl), by first | rfl | (rw [get_newk]; rfl) | (rw [get_new0]; rfl) | (rw [get_newk, prs_append]; rfl) | (rw [get_new0, prs_append]; rfl)⟩ (Nat.le_trans stL_len (by decide)) _ [.ptr (some (H.length, 0))] (by kernel_rfl) (by simp [AV.bels, AV.bel]) (fun c => atI W Hh xs c.1 c.2 != 1) (fun j hj => unh1_c _ _ _ W Hh _ xs _ ⟨_, _, _, rfl, hb0pp _⟩ ⟨_, by rw [get_new0]; rfl⟩ hV)) ?_
      refine runTf g'4 ?_
      exact hQ _ _ (end_plain (.inl rfl) hbel (x := .bool (!((stL x0 y0 x1 y1 h t f tu le sl ra).any (fun c => atI W Hh xs c.1 c.2 != 1)))) (resTf (jn @int_beq @int_bne) Tryz.results78) rfl ⟨by first | (rw [hfinU]; done) | (unfold unhB; rw [decide_eq_true hsw, decide_eq_true hst0]; rfl), rfl⟩)
    · have h2d := bsT h2
      have h2n := bnT h2
      have hfinU : unhB W Hh xs x0 y0 x1 y1 h t f tu le sl ra = false := by unfold unhB; rw [decide_eq_false (show ¬ stE x0 y0 x1 y1 h t f tu le sl ra = 0 by simpa using h2d)]; simp
      have g'5 := (jn @h2 (jn @h2n g'3))
      refine runTf g'5 ?_
      exact hQ _ _ (end_plain (.inl rfl) hbel (x := .bool false) (resT Tryz.results78) rfl ⟨by first | (rw [hfinU]; done) | (unfold unhB; rw [decide_eq_true hsw, decide_eq_true hst0]; rfl), rfl⟩)
open Go.RowKit
theorem mrkL_0 (f : Int) : mrkL f 0 = [] := rfl
theorem rlist_c (H : AHeap) (f : Int) (c : Int) (ha : arcB f c = true) : ACalls Tryz.prog 83 [.agg [.int .i64 f, .int .i64 c]] H (fun v H' => v = .sl (some (H.length, 0)) ((mrkL f c.toNat).length) (capG (mrkL f c.toNat).length) ∧ H' = H ++ [.cells (ownG (mrkL f c.toNat).length) 1 (ints .i64 (mrkL f c.toNat))]) := by
  have ka := arcB_iff.1 ha
  refine AcT true Tryz.func83 ?_; intro hbel Q hQ
  have g'1 := @ha
  refine runTf g'1 ?_
  refine call_v (by kernel_rfl) (r4varc_c _ f c) ?_
  refine runTf g'1 ?_
  refine go_loop try_mixed (by kernel_rfl) (fun k F Hx => ∃ i : Nat, i + k = c.toNat ∧ F = [(1, .ptr (some (H.length, 0))), (3, .sl (some (H.length + 1, 0)) ((mrkL f i).length) (capG (mrkL f i).length)), (4, .int .i64 ((i : Nat) : Int))] ∧ Hx = H ++ [.cells true 0 [.int .i64 f, .int .i64 c], .cells (ownG (mrkL f i).length) 1 (ints .i64 (mrkL f i))]) (c.toNat) ?_ ?_
  · refine ⟨_, _, _, ⟨0, by omega, rfl, rfl⟩, Abs.byG hbel [.cells false 1 []] rfl [0, 1] (by decide) ?_⟩
    exact absRf @mrkL_0
  · rintro k0 F Hx ⟨i, hm0, rfl, rfl⟩ J0 hJ0
    have htm : Int.tmod (f + ((i : Nat) : Int)) 256 = (f + ((i : Nat) : Int)) % 256 := by rw [Int.tmod_eq_emod_of_nonneg (by omega)]
    have hln := mrkL_len f i
    have g'2 := (jn @htm (jn @ints_len (jn @ints_ones g'1)))
    refine runTf g'2 ?_
    refine cond_split (fun h1 => ?_) (fun h1 => ?_)
    · have h1d := bsT h1
      have g'3 := (jn @h1 (jn @h1d (jn @prs_len (jn @capG_s g'2))))
      refine runTf g'3 ?_
      refine hJ0 _ _ ⟨k0 - 1, by omega, _, _, _, ⟨i + 1, by omega, rfl, rfl⟩, Abs.byG hbel [] rfl [0, 3] (by decide) ?_⟩
      exact absRf @mrkL_succ
    · have h1d := bsT h1
      obtain rfl : i = c.toNat := by omega
      have g'4 := (jn @h1 (jn @h1d g'2))
      refine runTf g'4 ?_
      refine hQ _ _ (end_byG (.inl rfl) hbel (x1 := .sl (some (H.length + 1, 0)) ((mrkL f c.toNat).length) (capG (mrkL f c.toNat).length)) (l2 := [.cells (ownG (mrkL f c.toNat).length) 1 (ints .i64 (mrkL f c.toNat))]) (.sl (some (H.length, 0)) ((mrkL f c.toNat).length) (capG (mrkL f c.toNat).length)) (resT Tryz.results83) [] rfl [1] (by decide) ⟨rfl, rfl⟩ ?_)
      exact absW
theorem rset_c (H : AHeap) (f : Int) (c : Int) (ha : arcB f c = true) : ACalls Tryz.prog 173 [.agg [.int .i64 f, .int .i64 c]] H (fun v H' => v = .sl (some (H.length, 0)) 256 none ∧ H' = H ++ [.cells true 1 (bools (setL f c))]) := by
  have ka := arcB_iff.1 ha
  have hln := mrkL_len f c.toNat
  refine AcT true Tryz.func173 ?_; intro hbel Q hQ
  have g'5 := (jn @bools_rep @List.length_replicate.{0})
  refine runTf g'5 ?_
  refine call_v (by kernel_rfl) (rlist_c _ f c (by assumption)) ?_
  refine runTf g'5 ?_
  refine go_loop try_mixed (by kernel_rfl) (fun k F Hx => ∃ i : Nat, i + k = c.toNat ∧ F = [(3, .sl (some (H.length + 1, 0)) ((stM (mrkL f c.toNat) i).length) none), (4, .sl (some (H.length, 0)) ((mrkL f c.toNat).length) (capG (mrkL f c.toNat).length)), (5, .int .i64 ((i : Nat) : Int))] ∧ Hx = H ++ [.cells (ownG (mrkL f c.toNat).length) 1 (ints .i64 (mrkL f c.toNat)), .cells true 1 (bools (stM (mrkL f c.toNat) i))]) (c.toNat) ?_ ?_
  · refine ⟨_, _, _, ⟨0, by omega, rfl, rfl⟩, Abs.byG hbel [] rfl [2, 1] (by decide) ?_⟩
    exact absRf (jn @stM.eq_1 @List.length_replicate.{0})
  · rintro k0 F Hx ⟨i, hm0, rfl, rfl⟩ J0 hJ0
    have hsl := stM_len (mrkL f c.toNat) i
    have g'6 := (jn @ints_len (jn @ints_ones (jn @bools_len (jn @bools_one g'5))))
    refine runTf g'6 ?_
    refine cond_split (fun h1 => ?_) (fun h1 => ?_)
    · have h1d := bsT h1
      have hgb : 0 ≤ gi (mrkL f c.toNat) i ∧ gi (mrkL f c.toNat) i ≤ 255 := by rw [gi_mrk (by omega)]; omega
      have q2 := ints_get (k := .i64) (xs := mrkL f c.toNat) (j := i) (by omega)
      have g'7 := (jn @h1 (jn @h1d (jn @q2 (jn @bools_set (jn @List.length_set.{0} g'6)))))
      refine runTf g'7 ?_
      refine hJ0 _ _ ⟨k0 - 1, by omega, _, _, _, ⟨i + 1, by omega, rfl, rfl⟩, Abs.byG hbel [] rfl [0, 1] (by decide) ?_⟩
      exact absRf (jn @stM.eq_2 @List.length_set.{0})
    · have h1d := bsT h1
      obtain rfl : i = c.toNat := by omega
      have g'8 := (jn @h1 (jn @h1d g'6))
      refine runTf g'8 ?_
      refine hQ _ _ (end_byG (.inl rfl) hbel (x1 := .sl (some (H.length + 1, 0)) ((stM (mrkL f c.toNat) c.toNat).length) none) (l2 := [.cells true 1 (bools (stM (mrkL f c.toNat) c.toNat))]) (.sl (some (H.length, 0)) ((stM (mrkL f c.toNat) c.toNat).length) none) (resT Tryz.results173) [] rfl [1] (by decide) ⟨by rw [stM_len], rfl⟩ ?_)
      exact absW
theorem r4hull_c (H : AHeap) (f : Int) (c : Int) (f2 : Int) (c2 : Int) (ha : arcB f c = true) (hb : arcB f2 c2 = true) : ACalls Tryz.prog 153 [.agg [.int .i64 f, .int .i64 c], .agg [.int .i64 f2, .int .i64 c2]] H (fun v H' => v = .tup [.agg [.int .i64 ((hullA f c f2 c2).1), .int .i64 ((hullA f c f2 c2).2)], .int .i64 0] ∧ H' = H) := by
  have hs1 := setL_len f c
  have hs2 := setL_len f2 c2
  have hbh := best_hull ha hb
  refine AcT true Tryz.func153 ?_; intro hbel Q hQ
  have g'9 := (jn @ha @hb)
  refine runTf g'9 ?_
  refine call_v (by kernel_rfl) (r4varc_c _ f c) ?_
  refine runTf g'9 ?_
  refine call_v (by kernel_rfl) (r4varc_c _ f2 c2) ?_
  refine runTf g'9 ?_
  refine call_v (by kernel_rfl) (rset_c _ f c (by assumption)) ?_
  refine runTf g'9 ?_
  refine call_v (by kernel_rfl) (rset_c _ f2 c2 (by assumption)) ?_
  refine runTf g'9 ?_
  refine go_loop try_mixed (by kernel_rfl) (fun k F Hx => ∃ n : Nat, n + k = 256 ∧ F = [(4, .ptr (some (H.length, 0))), (6, .sl (some (H.length + 1, 0)) 256 none), (7, .sl (some (H.length + 2, 0)) 256 none), (8, .ptr (some (H.length + 3, 0))), (9, .int .i64 (255 - ((n : Nat) : Int)))] ∧ Hx = H ++ [.cells true 0 [.int .i64 0, .int .i64 0], .cells true 1 (bools (setL f c)), .cells true 1 (bools (setL f2 c2)), .cells true 0 [.int .i64 ((bestN (xorB (setL f c) (setL f2 c2)) n).1), .int .i64 ((bestN (xorB (setL f c) (setL f2 c2)) n).2)]]) (256) ?_ ?_
  · refine ⟨_, _, _, ⟨0, by omega, rfl, rfl⟩, Abs.byG hbel [] rfl [2, 3, 4, 5] (by decide) ?_⟩
    exact absRf (jn @bestN.eq_1 (jn @Int.natCast_zero @Int.sub_zero))
  · rintro k0 F Hx ⟨n, hm0, rfl, rfl⟩ J0 hJ0
    have g'10 := (jn @bools_len (jn @bools_one g'9))
    refine runTf g'10 ?_
    refine cond_split (fun h1 => ?_) (fun h1 => ?_)
    · have h1d := bsT h1
      have g'11 := (jn @h1 (jn @h1d g'10))
      refine runTf g'11 ?_
      refine go_loop try_mixed (by kernel_rfl) (fun k F Hx => ∃ i : Nat, i + k = 256 ∧ F = [(4, .ptr (some (H.length, 0))), (6, .sl (some (H.length + 1, 0)) 256 none), (7, .sl (some (H.length + 2, 0)) 256 none), (8, .ptr (some (H.length + 3, 0))), (9, .int .i64 (255 - ((n : Nat) : Int))), (10, .int .i64 (needN (xorB (setL f c) (setL f2 c2)) (255 - ((n : Nat) : Int)) i)), (11, .int .i64 ((i : Nat) : Int))] ∧ Hx = H ++ [.cells true 0 [.int .i64 0, .int .i64 0], .cells true 1 (bools (setL f c)), .cells true 1 (bools (setL f2 c2)), .cells true 0 [.int .i64 ((bestN (xorB (setL f c) (setL f2 c2)) n).1), .int .i64 ((bestN (xorB (setL f c) (setL f2 c2)) n).2)]]) (256) ?_ ?_
      · refine ⟨_, _, _, ⟨0, by omega, rfl, rfl⟩, Abs.byG hbel [] rfl [0, 1, 2, 3] (by decide) ?_⟩
        exact absRf @needN.eq_1
      · rintro k1 F Hx ⟨i, hm1, rfl, rfl⟩ J1 hJ1
        have htm : Int.tmod ((255 - ((n : Nat) : Int)) + ((i : Nat) : Int)) 256 = ((255 - ((n : Nat) : Int)) + ((i : Nat) : Int)) % 256 := by rw [Int.tmod_eq_emod_of_nonneg (by omega)]
        have g'12 := (jn @htm g'11)
        refine runTf g'12 ?_
        refine cond_split (fun h2 => ?_) (fun h2 => ?_)
        · have h2d := bsT h2
          have q3 := bools_get (xs := setL f c) (j := (((255 - ((n : Nat) : Int)) + ((i : Nat) : Int)) % 256).toNat) (by omega)
          have g'13 := (jn @h2 (jn @h2d (jn @q3 g'12)))
          refine runTf g'13 ?_
          refine gd_split (fun h4 => ?_) (fun h4 => ?_)
          · have h4d := bsT h4
            have hxa := h4d
            have q5 := bools_get (xs := setL f2 c2) (j := (((255 - ((n : Nat) : Int)) + ((i : Nat) : Int)) % 256).toNat) (by omega)
            have g'14 := (jn @h4 (jn @h4d (jn @q5 g'13)))
            refine runTf g'14 ?_
            refine cond_split (fun h6 => ?_) (fun h6 => ?_)
            · have h6d := bsT h6
              have hst : needN (xorB (setL f c) (setL f2 c2)) (255 - ((n : Nat) : Int)) (i + 1) = ((i : Nat) : Int) + 1 := by rw [needN_s, if_pos (by unfold xorB; rw [h6d]; simp)]
              have g'15 := (jn @h6 (jn @h6d g'14))
              refine runTf g'15 ?_
              refine hJ1 _ _ ⟨k1 - 1, by omega, _, _, _, ⟨i + 1, by omega, rfl, rfl⟩, Abs.byG hbel [] rfl [0, 1, 2, 3] (by decide) ?_⟩
              exact absRf (jn @hst (jn @Int.natCast_add @Int.natCast_one))
            · have h6d := bsT h6
              have hst : needN (xorB (setL f c) (setL f2 c2)) (255 - ((n : Nat) : Int)) (i + 1) = needN (xorB (setL f c) (setL f2 c2)) (255 - ((n : Nat) : Int)) i := by rw [needN_s, if_neg (by unfold xorB; rw [hxa, h6d]; simp)]
              have g'16 := (jn @h6 (jn @h6d g'14))
              refine runTf g'16 ?_
              refine hJ1 _ _ ⟨k1 - 1, by omega, _, _, _, ⟨i + 1, by omega, rfl, rfl⟩, Abs.byG hbel [] rfl [0, 1, 2, 3] (by decide) ?_⟩
              exact absRf (jn @hst (jn @Int.natCast_add @Int.natCast_one))
          · have h4d := bsT h4
            have hst : needN (xorB (setL f c) (setL f2 c2)) (255 - ((n : Nat) : Int)) (i + 1) = ((i : Nat) : Int) + 1 := by rw [needN_s, if_pos (by unfold xorB; rw [h4d]; rfl)]
            have g'17 := (jn @h4 (jn @h4d g'13))
            refine runTf g'17 ?_
            refine hJ1 _ _ ⟨k1 - 1, by omega, _, _, _, ⟨i + 1, by omega, rfl, rfl⟩, Abs.byG hbel [] rfl [0, 1, 2, 3] (by decide) ?_⟩
            exact absRf (jn @hst (jn @Int.natCast_add @Int.natCast_one))
        · have h2d := bsT h2
          obtain rfl : i = 256 := by omega
          have hnl := needN_le (xorB (setL f c) (setL f2 c2)) (255 - ((n : Nat) : Int)) 256
          have g'18 := (jn @h2 (jn @h2d g'12))
          refine runTf g'18 ?_
          refine gd_split (fun h7 => ?_) (fun h7 => ?_)
          · have h7d := bsT h7
            have g'19 := (jn @h7 (jn @h7d g'18))
            refine runTf g'19 ?_
            refine cond_split (fun h8 => ?_) (fun h8 => ?_)
            · have h8d := bsT h8
              have g'20 := (jn @h8 (jn @h8d g'19))
              refine runTf g'20 ?_
              first | (have hst2 : bestN (xorB (setL f c) (setL f2 c2)) (n + 1) = ((255 - ((n : Nat) : Int)), needN (xorB (setL f c) (setL f2 c2)) (255 - ((n : Nat) : Int)) 256) := (bestN_s _ _).trans (if_pos (by omega))) | (have hst2 : bestN (xorB (setL f c) (setL f2 c2)) (n + 1) = bestN (xorB (setL f c) (setL f2 c2)) n := (bestN_s _ _).trans (if_neg (by omega)))
              refine hJ0 _ _ ⟨k0 - 1, by omega, _, _, _, ⟨n + 1, by omega, rfl, rfl⟩, Abs.byG hbel [] rfl [0, 1, 2, 3] (by decide) ?_⟩
              exact absRf (jn @hst2 (jn @Int.natCast_add (jn @Int.natCast_one @Int.sub_sub)))
            · have h8d := bsT h8
              have g'21 := (jn @h8 (jn @h8d g'19))
              refine runTf g'21 ?_
              first | (have hst2 : bestN (xorB (setL f c) (setL f2 c2)) (n + 1) = ((255 - ((n : Nat) : Int)), needN (xorB (setL f c) (setL f2 c2)) (255 - ((n : Nat) : Int)) 256) := (bestN_s _ _).trans (if_pos (by omega))) | (have hst2 : bestN (xorB (setL f c) (setL f2 c2)) (n + 1) = bestN (xorB (setL f c) (setL f2 c2)) n := (bestN_s _ _).trans (if_neg (by omega)))
              refine hJ0 _ _ ⟨k0 - 1, by omega, _, _, _, ⟨n + 1, by omega, rfl, rfl⟩, Abs.byG hbel [] rfl [0, 1, 2, 3] (by decide) ?_⟩
              exact absRf (jn @hst2 (jn @Int.natCast_add (jn @Int.natCast_one @Int.sub_sub)))
          · have h7d := bsT h7
            have g'22 := (jn @h7 (jn @h7d g'18))
            refine runTf g'22 ?_
            first | (have hst2 : bestN (xorB (setL f c) (setL f2 c2)) (n + 1) = ((255 - ((n : Nat) : Int)), needN (xorB (setL f c) (setL f2 c2)) (255 - ((n : Nat) : Int)) 256) := (bestN_s _ _).trans (if_pos (by omega))) | (have hst2 : bestN (xorB (setL f c) (setL f2 c2)) (n + 1) = bestN (xorB (setL f c) (setL f2 c2)) n := (bestN_s _ _).trans (if_neg (by omega)))
            refine hJ0 _ _ ⟨k0 - 1, by omega, _, _, _, ⟨n + 1, by omega, rfl, rfl⟩, Abs.byG hbel [] rfl [0, 1, 2, 3] (by decide) ?_⟩
            exact absRf (jn @hst2 (jn @Int.natCast_add (jn @Int.natCast_one @Int.sub_sub)))
    · have h1d := bsT h1
      obtain rfl : n = 256 := by omega
      have g'23 := (jn @h1 (jn @h1d g'10))
      refine runTf g'23 ?_
      exact hQ _ _ (end_plain (.inl rfl) hbel (x := .tup [.agg [.int .i64 ((bestN (xorB (setL f c) (setL f2 c2)) 256).1), .int .i64 ((bestN (xorB (setL f c) (setL f2 c2)) 256).2)], .int .i64 0]) (resT Tryz.results153) rfl ⟨by rw [hbh], rfl⟩)
theorem with_c (H : AHeap) (x0 : Int) (y0 : Int) (x1 : Int) (y1 : Int) (f : Int) (c : Int) : ACalls Tryz.prog 152 [.agg [.int .i64 x0, .int .i64 y0, .int .i64 x1, .int .i64 y1], .agg [.int .i64 f, .int .i64 c]] H (fun v H' => v = .agg [.int .i64 x0, .int .i64 y0, .int .i64 x1, .int .i64 y1, .int .i64 f, .int .i64 c] ∧ H' = H) := by
  refine AcT true Tryz.func152 ?_; intro hbel Q hQ
  refine runT ?_
  exact hQ _ _ (end_plain (.inl rfl) hbel (x := .agg [.int .i64 x0, .int .i64 y0, .int .i64 x1, .int .i64 y1, .int .i64 f, .int .i64 c]) (resT Tryz.results152) rfl ⟨rfl, rfl⟩)
theorem bhull_c (H : AHeap) (x0 : Int) (y0 : Int) (x1 : Int) (y1 : Int) (f : Int) (c : Int) (u0 : Int) (v0 : Int) (u1 : Int) (v1 : Int) (fb : Int) (cb : Int) (ha : bxB x0 y0 x1 y1 f c = true) (hb : bxB u0 v0 u1 v1 fb cb = true) : ACalls Tryz.prog 102 [.agg [.int .i64 x0, .int .i64 y0, .int .i64 x1, .int .i64 y1, .int .i64 f, .int .i64 c], .agg [.int .i64 u0, .int .i64 v0, .int .i64 u1, .int .i64 v1, .int .i64 fb, .int .i64 cb]] H (fun v H' => v = .tup [.agg [.int .i64 (mnI x0 u0), .int .i64 (mnI y0 v0), .int .i64 (mxI x1 u1), .int .i64 (mxI y1 v1), .int .i64 ((hullA f c fb cb).1), .int .i64 ((hullA f c fb cb).2)], .int .i64 0] ∧ H' = H) := by
  have ka := (bxB_iff.1 ha).2.2
  have kb := (bxB_iff.1 hb).2.2
  (refine ACalls_pieces Tryz.func102 _ rfl (Nat.le_of_ble_eq_true (by kernel_rfl)) rfl ?_; intro hbel Q hQ hQ' c hc; unfold Tryz.f102 at hc; simp only [Option.some.injEq] at hc; subst hc; clear hQ')
  refine AW_step false try_mixed (by kernel_rfl) (fun F Hx => look F 2 = .ptr (some (H.length, 0)) ∧ look F 3 = .ptr (some (H.length + 1, 0)) ∧ look F 4 = .ptr (some (H.length + 2, 0)) ∧ look F 5 = .int .i64 0 ∧ Hx = H ++ [.cells true 0 [.int .i64 x0, .int .i64 y0, .int .i64 x1, .int .i64 y1, .int .i64 f, .int .i64 c], .cells true 0 [.int .i64 u0, .int .i64 v0, .int .i64 u1, .int .i64 v1, .int .i64 fb, .int .i64 cb], .cells true 0 [.int .i64 0, .int .i64 0, .int .i64 0, .int .i64 0, .int .i64 0, .int .i64 0]]) ?_ ?_
  · skip
    have g'24 := (jn @ha @hb)
    refine runTf g'24 ?_
    refine inv_of ?_
    exact absT
  rintro F Hx ⟨f1, f2, f3, f4, rfl⟩
  refine AW_step false try_mixed (by kernel_rfl) (fun F Hx => look F 2 = .ptr (some (H.length, 0)) ∧ look F 3 = .ptr (some (H.length + 1, 0)) ∧ look F 4 = .ptr (some (H.length + 2, 0)) ∧ look F 5 = .int .i64 0 ∧ Hx = H ++ [.cells true 0 [.int .i64 x0, .int .i64 y0, .int .i64 x1, .int .i64 y1, .int .i64 f, .int .i64 c], .cells true 0 [.int .i64 u0, .int .i64 v0, .int .i64 u1, .int .i64 v1, .int .i64 fb, .int .i64 cb], .cells true 0 [.int .i64 0, .int .i64 0, .int .i64 0, .int .i64 0, .int .i64 0, .int .i64 0]]) ?_ ?_
  · skip
    have g'25 := (jn @f1 (jn @f2 (jn @f3 (jn @f4 (jn @ha @hb)))))
    refine runTf g'25 ?_
    refine call_v (by kernel_rfl) (bxv_c _ x0 y0 x1 y1 f c) ?_
    refine runTf g'25 ?_
    refine call_v (by kernel_rfl) (bxv_c _ u0 v0 u1 v1 fb cb) ?_
    refine runTf g'25 ?_
    refine inv_of ?_
    exact absTf (jn @f1 (jn @f2 (jn @f3 @f4)))
  rintro F Hx ⟨f5, f6, f7, f8, rfl⟩
  refine AW_special false try_mixed [[0, 1, 2, 3, 4, 5, 6, 7, 8, 9, 10], [0, 1, 2, 3, 8, 4, 5, 6, 7, 9, 10], [0, 1, 2, 8, 3, 4, 5, 6, 7, 9, 10], [0, 2, 8, 1, 3, 4, 5, 6, 7, 9, 10]] (by kernel_rfl) (fun F2 H2 => F2 = [(2, .ptr (some (H.length, 0))), (3, .ptr (some (H.length + 1, 0))), (4, .ptr (some (H.length + 2, 0))), (5, .int .i64 0), (6, .ptr (some (H.length + 3, 0)))] ∧ H2 = H ++ [.cells true 0 [.int .i64 x0, .int .i64 y0, .int .i64 x1, .int .i64 y1, .int .i64 f, .int .i64 c], .cells true 0 [.int .i64 u0, .int .i64 v0, .int .i64 u1, .int .i64 v1, .int .i64 fb, .int .i64 cb], .cells true 0 [.int .i64 0, .int .i64 0, .int .i64 0, .int .i64 0, .int .i64 0, .int .i64 0], .cells true 0 [.int .i64 ((hullA f c fb cb).1), .int .i64 ((hullA f c fb cb).2)]]) ?_ ?_
  · refine reps_cons ?_ (reps_cons ?_ (reps_cons ?_ (reps_cons ?_ (reps_nil)))) <;> intro J hJ
    · skip
      have g'26 := (jn @f1 (jn @f2 (jn @f3 (jn @f4 (jn @f5 (jn @f6 (jn @f7 (jn @f8 (jn @ha @hb)))))))))
      refine runDf g'26 ?_
      refine call_d (by kernel_rfl) (xarc_c _ x0 y0 x1 y1 f c) ?_
      refine runDf g'26 ?_
      refine call_d (by kernel_rfl) (xarc_c _ u0 v0 u1 v1 fb cb) ?_
      refine runDf g'26 ?_
      refine call_d (by kernel_rfl) (hhull_c _ f c fb cb (by assumption) (by assumption)) ?_
      refine runDf g'26 ?_
      refine inv_of (hJ _ _ ⟨_, _, _, ⟨rfl, rfl⟩, Abs.byG hbel [] rfl [0, 1, 2, 3] (by decide) ?_⟩)
      exact absWf (jn @f1 (jn @f2 (jn @f3 (jn @f4 (jn @f5 (jn @f6 (jn @f7 @f8)))))))
    · skip
      have g'27 := (jn @f1 (jn @f2 (jn @f3 (jn @f4 (jn @f5 (jn @f6 (jn @f7 (jn @f8 (jn @ha @hb)))))))))
      refine runDf g'27 ?_
      refine call_d (by kernel_rfl) (xarc_c _ x0 y0 x1 y1 f c) ?_
      refine runDf g'27 ?_
      refine call_d (by kernel_rfl) (xarc_c _ u0 v0 u1 v1 fb cb) ?_
      refine runDf g'27 ?_
      refine call_d (by kernel_rfl) (hhull_c _ f c fb cb (by assumption) (by assumption)) ?_
      refine runDf g'27 ?_
      refine inv_of (hJ _ _ ⟨_, _, _, ⟨rfl, rfl⟩, Abs.byG hbel [] rfl [0, 1, 2, 3] (by decide) ?_⟩)
      exact absWf (jn @f1 (jn @f2 (jn @f3 (jn @f4 (jn @f5 (jn @f6 (jn @f7 @f8)))))))
    · skip
      have g'28 := (jn @f1 (jn @f2 (jn @f3 (jn @f4 (jn @f5 (jn @f6 (jn @f7 (jn @f8 (jn @ha @hb)))))))))
      refine runDf g'28 ?_
      refine call_d (by kernel_rfl) (xarc_c _ x0 y0 x1 y1 f c) ?_
      refine runDf g'28 ?_
      refine call_d (by kernel_rfl) (xarc_c _ u0 v0 u1 v1 fb cb) ?_
      refine runDf g'28 ?_
      refine call_d (by kernel_rfl) (hhull_c _ f c fb cb (by assumption) (by assumption)) ?_
      refine runDf g'28 ?_
      refine inv_of (hJ _ _ ⟨_, _, _, ⟨rfl, rfl⟩, Abs.byG hbel [] rfl [0, 1, 2, 3] (by decide) ?_⟩)
      exact absWf (jn @f1 (jn @f2 (jn @f3 (jn @f4 (jn @f5 (jn @f6 (jn @f7 @f8)))))))
    · skip
      have g'29 := (jn @f1 (jn @f2 (jn @f3 (jn @f4 (jn @f5 (jn @f6 (jn @f7 (jn @f8 (jn @ha @hb)))))))))
      refine runDf g'29 ?_
      refine call_d (by kernel_rfl) (xarc_c _ x0 y0 x1 y1 f c) ?_
      refine runDf g'29 ?_
      refine call_d (by kernel_rfl) (xarc_c _ u0 v0 u1 v1 fb cb) ?_
      refine runDf g'29 ?_
      refine call_d (by kernel_rfl) (hhull_c _ f c fb cb (by assumption) (by assumption)) ?_
      refine runDf g'29 ?_
      refine inv_of (hJ _ _ ⟨_, _, _, ⟨rfl, rfl⟩, Abs.byG hbel [] rfl [0, 1, 2, 3] (by decide) ?_⟩)
      exact absWf (jn @f1 (jn @f2 (jn @f3 (jn @f4 (jn @f5 (jn @f6 (jn @f7 @f8)))))))
  rintro F2 H2 ⟨rfl, rfl⟩
  refine AW_fin false try_mixed (by kernel_rfl) ?_
  have g'30 := (jn @ha @hb)
  refine runTf g'30 ?_
  refine call_v (by kernel_rfl) (with_c _ (if u0 < x0 then u0 else x0) (if v0 < y0 then v0 else y0) (if x1 < u1 then u1 else x1) (if y1 < v1 then v1 else y1) ((hullA f c fb cb).1) ((hullA f c fb cb).2)) ?_
  refine runTf g'30 ?_
  exact hQ _ _ (end_plain (.inl rfl) hbel (x := .tup [.agg [.int .i64 (if u0 < x0 then u0 else x0), .int .i64 (if v0 < y0 then v0 else y0), .int .i64 (if x1 < u1 then u1 else x1), .int .i64 (if y1 < v1 then v1 else y1), .int .i64 ((hullA f c fb cb).1), .int .i64 ((hullA f c fb cb).2)], .int .i64 0]) (resT Tryz.results102) rfl ⟨rfl, rfl⟩)
theorem r6hull_c (H : AHeap) (x0 : Int) (y0 : Int) (x1 : Int) (y1 : Int) (f : Int) (c : Int) (u0 : Int) (v0 : Int) (u1 : Int) (v1 : Int) (fb : Int) (cb : Int) (ha : bxB x0 y0 x1 y1 f c = true) (hb : bxB u0 v0 u1 v1 fb cb = true) : ACalls Tryz.prog 103 [.agg [.int .i64 x0, .int .i64 y0, .int .i64 x1, .int .i64 y1, .int .i64 f, .int .i64 c], .agg [.int .i64 u0, .int .i64 v0, .int .i64 u1, .int .i64 v1, .int .i64 fb, .int .i64 cb]] H (fun v H' => v = .tup [.agg [.int .i64 (mnI x0 u0), .int .i64 (mnI y0 v0), .int .i64 (mxI x1 u1), .int .i64 (mxI y1 v1), .int .i64 ((hullA f c fb cb).1), .int .i64 ((hullA f c fb cb).2)], .int .i64 0] ∧ H' = H) := by
  have ka := (bxB_iff.1 ha).2.2
  have kb := (bxB_iff.1 hb).2.2
  (refine ACalls_pieces Tryz.func103 _ rfl (Nat.le_of_ble_eq_true (by kernel_rfl)) rfl ?_; intro hbel Q hQ hQ' c hc; unfold Tryz.f103 at hc; simp only [Option.some.injEq] at hc; subst hc; clear hQ')
  refine AW_step false try_mixed (by kernel_rfl) (fun F Hx => look F 2 = .ptr (some (H.length, 0)) ∧ look F 3 = .ptr (some (H.length + 1, 0)) ∧ look F 4 = .ptr (some (H.length + 2, 0)) ∧ look F 5 = .int .i64 0 ∧ Hx = H ++ [.cells true 0 [.int .i64 x0, .int .i64 y0, .int .i64 x1, .int .i64 y1, .int .i64 f, .int .i64 c], .cells true 0 [.int .i64 u0, .int .i64 v0, .int .i64 u1, .int .i64 v1, .int .i64 fb, .int .i64 cb], .cells true 0 [.int .i64 0, .int .i64 0, .int .i64 0, .int .i64 0, .int .i64 0, .int .i64 0]]) ?_ ?_
  · skip
    have g'31 := (jn @ha @hb)
    refine runTf g'31 ?_
    refine inv_of ?_
    exact absT
  rintro F Hx ⟨f1, f2, f3, f4, rfl⟩
  refine AW_step false try_mixed (by kernel_rfl) (fun F Hx => look F 2 = .ptr (some (H.length, 0)) ∧ look F 3 = .ptr (some (H.length + 1, 0)) ∧ look F 4 = .ptr (some (H.length + 2, 0)) ∧ look F 5 = .int .i64 0 ∧ Hx = H ++ [.cells true 0 [.int .i64 x0, .int .i64 y0, .int .i64 x1, .int .i64 y1, .int .i64 f, .int .i64 c], .cells true 0 [.int .i64 u0, .int .i64 v0, .int .i64 u1, .int .i64 v1, .int .i64 fb, .int .i64 cb], .cells true 0 [.int .i64 0, .int .i64 0, .int .i64 0, .int .i64 0, .int .i64 0, .int .i64 0]]) ?_ ?_
  · skip
    have g'32 := (jn @f1 (jn @f2 (jn @f3 (jn @f4 (jn @ha @hb)))))
    refine runTf g'32 ?_
    refine call_v (by kernel_rfl) (bbx_c _ x0 y0 x1 y1 f c) ?_
    refine runTf g'32 ?_
    refine call_v (by kernel_rfl) (bbx_c _ u0 v0 u1 v1 fb cb) ?_
    refine runTf g'32 ?_
    refine inv_of ?_
    exact absTf (jn @f1 (jn @f2 (jn @f3 @f4)))
  rintro F Hx ⟨f5, f6, f7, f8, rfl⟩
  refine AW_special false try_mixed [[0, 1, 2, 3, 4, 5, 6, 7, 8, 9, 10], [0, 1, 2, 3, 8, 4, 5, 6, 7, 9, 10], [0, 1, 2, 8, 3, 4, 5, 6, 7, 9, 10], [0, 2, 8, 1, 3, 4, 5, 6, 7, 9, 10]] (by kernel_rfl) (fun F2 H2 => F2 = [(2, .ptr (some (H.length, 0))), (3, .ptr (some (H.length + 1, 0))), (4, .ptr (some (H.length + 2, 0))), (5, .int .i64 0), (6, .ptr (some (H.length + 3, 0)))] ∧ H2 = H ++ [.cells true 0 [.int .i64 x0, .int .i64 y0, .int .i64 x1, .int .i64 y1, .int .i64 f, .int .i64 c], .cells true 0 [.int .i64 u0, .int .i64 v0, .int .i64 u1, .int .i64 v1, .int .i64 fb, .int .i64 cb], .cells true 0 [.int .i64 0, .int .i64 0, .int .i64 0, .int .i64 0, .int .i64 0, .int .i64 0], .cells true 0 [.int .i64 ((hullA f c fb cb).1), .int .i64 ((hullA f c fb cb).2)]]) ?_ ?_
  · refine reps_cons ?_ (reps_cons ?_ (reps_cons ?_ (reps_cons ?_ (reps_nil)))) <;> intro J hJ
    · skip
      have g'33 := (jn @f1 (jn @f2 (jn @f3 (jn @f4 (jn @f5 (jn @f6 (jn @f7 (jn @f8 (jn @ha @hb)))))))))
      refine runDf g'33 ?_
      refine call_d (by kernel_rfl) (r6arc_c _ x0 y0 x1 y1 f c) ?_
      refine runDf g'33 ?_
      refine call_d (by kernel_rfl) (r6arc_c _ u0 v0 u1 v1 fb cb) ?_
      refine runDf g'33 ?_
      refine call_d (by kernel_rfl) (r4hull_c _ f c fb cb (by assumption) (by assumption)) ?_
      refine runDf g'33 ?_
      refine inv_of (hJ _ _ ⟨_, _, _, ⟨rfl, rfl⟩, Abs.byG hbel [] rfl [0, 1, 2, 3] (by decide) ?_⟩)
      exact absWf (jn @f1 (jn @f2 (jn @f3 (jn @f4 (jn @f5 (jn @f6 (jn @f7 @f8)))))))
    · skip
      have g'34 := (jn @f1 (jn @f2 (jn @f3 (jn @f4 (jn @f5 (jn @f6 (jn @f7 (jn @f8 (jn @ha @hb)))))))))
      refine runDf g'34 ?_
      refine call_d (by kernel_rfl) (r6arc_c _ x0 y0 x1 y1 f c) ?_
      refine runDf g'34 ?_
      refine call_d (by kernel_rfl) (r6arc_c _ u0 v0 u1 v1 fb cb) ?_
      refine runDf g'34 ?_
      refine call_d (by kernel_rfl) (r4hull_c _ f c fb cb (by assumption) (by assumption)) ?_
      refine runDf g'34 ?_
      refine inv_of (hJ _ _ ⟨_, _, _, ⟨rfl, rfl⟩, Abs.byG hbel [] rfl [0, 1, 2, 3] (by decide) ?_⟩)
      exact absWf (jn @f1 (jn @f2 (jn @f3 (jn @f4 (jn @f5 (jn @f6 (jn @f7 @f8)))))))
    · skip
      have g'35 := (jn @f1 (jn @f2 (jn @f3 (jn @f4 (jn @f5 (jn @f6 (jn @f7 (jn @f8 (jn @ha @hb)))))))))
      refine runDf g'35 ?_
      refine call_d (by kernel_rfl) (r6arc_c _ x0 y0 x1 y1 f c) ?_
      refine runDf g'35 ?_
      refine call_d (by kernel_rfl) (r6arc_c _ u0 v0 u1 v1 fb cb) ?_
      refine runDf g'35 ?_
      refine call_d (by kernel_rfl) (r4hull_c _ f c fb cb (by assumption) (by assumption)) ?_
      refine runDf g'35 ?_
      refine inv_of (hJ _ _ ⟨_, _, _, ⟨rfl, rfl⟩, Abs.byG hbel [] rfl [0, 1, 2, 3] (by decide) ?_⟩)
      exact absWf (jn @f1 (jn @f2 (jn @f3 (jn @f4 (jn @f5 (jn @f6 (jn @f7 @f8)))))))
    · skip
      have g'36 := (jn @f1 (jn @f2 (jn @f3 (jn @f4 (jn @f5 (jn @f6 (jn @f7 (jn @f8 (jn @ha @hb)))))))))
      refine runDf g'36 ?_
      refine call_d (by kernel_rfl) (r6arc_c _ x0 y0 x1 y1 f c) ?_
      refine runDf g'36 ?_
      refine call_d (by kernel_rfl) (r6arc_c _ u0 v0 u1 v1 fb cb) ?_
      refine runDf g'36 ?_
      refine call_d (by kernel_rfl) (r4hull_c _ f c fb cb (by assumption) (by assumption)) ?_
      refine runDf g'36 ?_
      refine inv_of (hJ _ _ ⟨_, _, _, ⟨rfl, rfl⟩, Abs.byG hbel [] rfl [0, 1, 2, 3] (by decide) ?_⟩)
      exact absWf (jn @f1 (jn @f2 (jn @f3 (jn @f4 (jn @f5 (jn @f6 (jn @f7 @f8)))))))
  rintro F2 H2 ⟨rfl, rfl⟩
  refine AW_fin false try_mixed (by kernel_rfl) ?_
  have g'37 := (jn @ha @hb)
  refine runTf g'37 ?_
  exact hQ _ _ (end_plain (.inl rfl) hbel (x := .tup [.agg [.int .i64 (if u0 < x0 then u0 else x0), .int .i64 (if v0 < y0 then v0 else y0), .int .i64 (if x1 < u1 then u1 else x1), .int .i64 (if y1 < v1 then v1 else y1), .int .i64 ((hullA f c fb cb).1), .int .i64 ((hullA f c fb cb).2)], .int .i64 0]) (resT Tryz.results103) rfl ⟨rfl, rfl⟩)
open Go.RowKit
theorem arep_z {k : IntKind} {n : Nat} : (List.range n).map (fun j => ([.int k 0] : List AV).getD (j % 1) .any) = ints k (List.replicate n 0) := by
  rw [← ints_rep]
  refine List.ext_getElem (by simp) fun i h1 h2 => ?_
  simp [Nat.mod_one]
def lisS (f : Int) (n i : Nat) : List Int := mrkL f i ++ List.replicate (n - i) 0
theorem lisS_len {f : Int} {n i : Nat} (h : i ≤ n) : (lisS f n i).length = n := by unfold lisS; rw [List.length_append, mrkL_len, List.length_replicate]; omega
theorem lisS_set {f : Int} {n i : Nat} (h : i < n) : (lisS f n i).set i ((f + (i : Int)) % 256) = lisS f n (i + 1) := by
  unfold lisS
  obtain ⟨k, hk⟩ : ∃ k, n - i = k + 1 := ⟨n - i - 1, by omega⟩
  rw [hk, List.replicate_succ, List.set_append_right _ _ (by rw [mrkL_len]; exact Nat.le_refl _), mrkL_len, Nat.sub_self, List.set_cons_zero, mrkL_succ, List.append_assoc, show n - (i + 1) = k by omega]
  rfl
theorem lisS_0 (f : Int) (n : Nat) : lisS f n 0 = List.replicate n 0 := rfl
theorem lisS_n (f : Int) (n : Nat) : lisS f n n = mrkL f n := by unfold lisS; rw [Nat.sub_self]; simp
theorem harc_c (H : AHeap) (f : Int) (n : Int) (hn : 1 ≤ n ∧ n ≤ 100000) : ACalls Tryz.prog 139 [.int .i64 f, .int .i64 n] H (fun v H' => v = .agg [.int .i64 (arcF f n), .int .i64 (arcC n)] ∧ H' = H) := by
  refine AcT true Tryz.func139 ?_; intro hbel Q hQ
  refine runT ?_
  refine cond_split (fun h1 => ?_) (fun h1 => ?_)
  · have h1d := bsT h1
    have g'1 := (jn @h1 @h1d)
    refine runTf g'1 ?_
    exact hQ _ _ (end_plain (.inl rfl) hbel (x := .agg [.int .i64 0, .int .i64 256]) (resT Tryz.results139) rfl ⟨by unfold arcF arcC; first | (rw [if_pos (by omega), if_pos (by omega)]; done) | (rw [if_neg (by omega), if_neg (by omega), show (((f % 256).toNat : Nat) : Int) = f % 256 by omega]), rfl⟩)
  · have h1d := bsT h1
    have g'2 := (jn @h1 @h1d)
    refine runTf g'2 ?_
    refine call_v (by kernel_rfl) (mark_c _ f) ?_
    refine runTf g'2 ?_
    exact hQ _ _ (end_plain (.inl rfl) hbel (x := .agg [.int .i64 (((f % 256).toNat : Nat) : Int), .int .i64 n]) (resT Tryz.results139) rfl ⟨by unfold arcF arcC; first | (rw [if_pos (by omega), if_pos (by omega)]; done) | (rw [if_neg (by omega), if_neg (by omega), show (((f % 256).toNat : Nat) : Int) = f % 256 by omega]), rfl⟩)
theorem rarc_c (H : AHeap) (f : Int) (n : Int) (hn : 1 ≤ n ∧ n ≤ 100000) : ACalls Tryz.prog 144 [.int .i64 f, .int .i64 n] H (fun v H' => v = .agg [.int .i64 (arcF f n), .int .i64 (arcC n)] ∧ H' = H) := by
  refine AcT true Tryz.func144 ?_; intro hbel Q hQ
  refine runT ?_
  refine cond_split (fun h1 => ?_) (fun h1 => ?_)
  · have h1d := bsT h1
    have g'3 := (jn @h1 @h1d)
    refine runTf g'3 ?_
    exact hQ _ _ (end_plain (.inl rfl) hbel (x := .agg [.int .i64 0, .int .i64 256]) (resT Tryz.results144) rfl ⟨by unfold arcF arcC; first | (rw [if_pos (by omega), if_pos (by omega)]; done) | (rw [if_neg (by omega), if_neg (by omega), show (((f % 256).toNat : Nat) : Int) = f % 256 by omega]), rfl⟩)
  · have h1d := bsT h1
    have g'4 := (jn @h1 @h1d)
    refine runTf g'4 ?_
    refine call_v (by kernel_rfl) (bmod_c _ f 256 (by omega) (by omega)) ?_
    refine runTf g'4 ?_
    exact hQ _ _ (end_plain (.inl rfl) hbel (x := .agg [.int .i64 (((f % 256).toNat : Nat) : Int), .int .i64 n]) (resT Tryz.results144) rfl ⟨by unfold arcF arcC; first | (rw [if_pos (by omega), if_pos (by omega)]; done) | (rw [if_neg (by omega), if_neg (by omega), show (((f % 256).toNat : Nat) : Int) = f % 256 by omega]), rfl⟩)
theorem hshift_c (H : AHeap) (f : Int) (c : Int) (n : Int) (ha : arcB f c = true) : ACalls Tryz.prog 75 [.agg [.int .i64 f, .int .i64 c], .int .i64 n] H (fun v H' => v = .tup [.agg [.int .i64 (shF f c n), .int .i64 (arcC c)], .int .i64 0] ∧ H' = H) := by
  have ka := arcB_iff.1 ha
  refine AcT true Tryz.func75 ?_; intro hbel Q hQ
  have g'5 := @ha
  refine runTf g'5 ?_
  refine call_v (by kernel_rfl) (varc_c _ f c) ?_
  refine runTf g'5 ?_
  refine call_d (by kernel_rfl) (mark_c _ n) ?_
  refine runTf g'5 ?_
  refine call_d (by kernel_rfl) (harc_c _ (f + (((n % 256).toNat : Nat) : Int)) c (by omega)) ?_
  refine runTf g'5 ?_
  exact hQ _ _ (end_plain (.inl rfl) hbel (x := .tup [.agg [.int .i64 (arcF (f + (((n % 256).toNat : Nat) : Int)) c), .int .i64 (arcC c)], .int .i64 0]) (resT Tryz.results75) rfl ⟨rfl, rfl⟩)
theorem rshift_c (H : AHeap) (f : Int) (c : Int) (n : Int) (ha : arcB f c = true) : ACalls Tryz.prog 81 [.agg [.int .i64 f, .int .i64 c], .int .i64 n] H (fun v H' => v = .tup [.agg [.int .i64 (shF f c n), .int .i64 (arcC c)], .int .i64 0] ∧ H' = H) := by
  have ka := arcB_iff.1 ha
  refine AcT true Tryz.func81 ?_; intro hbel Q hQ
  have g'6 := @ha
  refine runTf g'6 ?_
  refine call_v (by kernel_rfl) (r4varc_c _ f c) ?_
  refine runTf g'6 ?_
  refine call_d (by kernel_rfl) (bmod_c _ n 256 (by omega) (by omega)) ?_
  refine runTf g'6 ?_
  refine call_d (by kernel_rfl) (rarc_c _ (f + (((n % 256).toNat : Nat) : Int)) c (by omega)) ?_
  refine runTf g'6 ?_
  exact hQ _ _ (end_plain (.inl rfl) hbel (x := .tup [.agg [.int .i64 (arcF (f + (((n % 256).toNat : Nat) : Int)) c), .int .i64 (arcC c)], .int .i64 0]) (resT Tryz.results81) rfl ⟨rfl, rfl⟩)
theorem hgrow_c (H : AHeap) (f : Int) (c : Int) (n : Int) (ha : arcB f c = true) (hn : 0 ≤ n ∧ n ≤ 256) : ACalls Tryz.prog 76 [.agg [.int .i64 f, .int .i64 c], .int .i64 n] H (fun v H' => v = .tup [.agg [.int .i64 (grF f c n), .int .i64 (grC c n)], .int .i64 0] ∧ H' = H) := by
  have ka := arcB_iff.1 ha
  refine AcT true Tryz.func76 ?_; intro hbel Q hQ
  have g'7 := @ha
  refine runTf g'7 ?_
  refine call_v (by kernel_rfl) (varc_c _ f c) ?_
  refine runTf g'7 ?_
  refine gd_split (fun h1 => ?_) (fun h1 => ?_)
  · have h1d := bsT h1
    have g'8 := (jn @h1 (jn @h1d g'7))
    refine runTf g'8 ?_
    refine cond_split (fun h2 => ?_) (fun h2 => ?_)
    · have h2d := bsT h2
      omega
    · have h2d := bsT h2
      have g'9 := (jn @h2 (jn @h2d g'8))
      refine runTf g'9 ?_
      refine call_v (by kernel_rfl) (harc_c _ (f - n) (c + (2 * n)) (by omega)) ?_
      refine runTf g'9 ?_
      exact hQ _ _ (end_plain (.inl rfl) hbel (x := .tup [.agg [.int .i64 (arcF (f - n) (c + (2 * n))), .int .i64 (arcC (c + (2 * n)))], .int .i64 0]) (resT Tryz.results76) rfl ⟨rfl, rfl⟩)
  · have h1d := bsT h1
    omega
theorem rgrow_c (H : AHeap) (f : Int) (c : Int) (n : Int) (ha : arcB f c = true) (hn : 0 ≤ n ∧ n ≤ 256) : ACalls Tryz.prog 82 [.agg [.int .i64 f, .int .i64 c], .int .i64 n] H (fun v H' => v = .tup [.agg [.int .i64 (grF f c n), .int .i64 (grC c n)], .int .i64 0] ∧ H' = H) := by
  have ka := arcB_iff.1 ha
  refine AcT true Tryz.func82 ?_; intro hbel Q hQ
  have g'10 := @ha
  refine runTf g'10 ?_
  refine call_v (by kernel_rfl) (r4varc_c _ f c) ?_
  refine runTf g'10 ?_
  refine gd_split (fun h1 => ?_) (fun h1 => ?_)
  · have h1d := bsT h1
    have g'11 := (jn @h1 (jn @h1d g'10))
    refine runTf g'11 ?_
    refine cond_split (fun h2 => ?_) (fun h2 => ?_)
    · have h2d := bsT h2
      omega
    · have h2d := bsT h2
      have g'12 := (jn @h2 (jn @h2d g'11))
      refine runTf g'12 ?_
      refine call_v (by kernel_rfl) (rarc_c _ (f - n) (c + (2 * n)) (by omega)) ?_
      refine runTf g'12 ?_
      exact hQ _ _ (end_plain (.inl rfl) hbel (x := .tup [.agg [.int .i64 (arcF (f - n) (c + (2 * n))), .int .i64 (arcC (c + (2 * n)))], .int .i64 0]) (resT Tryz.results82) rfl ⟨rfl, rfl⟩)
  · have h1d := bsT h1
    omega
theorem hlist_c (H : AHeap) (f : Int) (c : Int) (ha : arcB f c = true) : ACalls Tryz.prog 77 [.agg [.int .i64 f, .int .i64 c]] H (fun v H' => v = .sl (some (H.length, 0)) ((mrkL f c.toNat).length) none ∧ H' = H ++ [.cells true 1 (ints .i64 (mrkL f c.toNat))]) := by
  have ka := arcB_iff.1 ha
  have harep := arep_z (k := .i64) (n := c.toNat)
  have hrt : ((c.toNat : Nat) : Int) = c := by omega
  refine AcT true Tryz.func77 ?_; intro hbel Q hQ
  have g'13 := (jn @ha (jn @harep @hrt))
  refine runTf g'13 ?_
  refine call_v (by kernel_rfl) (varc_c _ f c) ?_
  have g'14 := (jn @ints_rep (jn @List.length_replicate.{0} g'13))
  refine runTf g'14 ?_
  refine go_loop try_mixed (by kernel_rfl) (fun k F Hx => ∃ i : Nat, i + k = c.toNat ∧ F = [(1, .ptr (some (H.length, 0))), (3, .sl (some (H.length + 1, 0)) ((lisS f c.toNat i).length) none), (12, .int .i64 ((c.toNat : Nat) : Int)), (13, .int .i64 ((i : Nat) : Int))] ∧ Hx = H ++ [.cells true 0 [.int .i64 f, .int .i64 c], .cells true 1 (ints .i64 (lisS f c.toNat i))]) (c.toNat) ?_ ?_
  · refine ⟨_, _, _, ⟨0, by omega, rfl, rfl⟩, Abs.byG hbel [] rfl [0, 1] (by decide) ?_⟩
    exact absRf (jn @lisS_0 (jn @List.length_replicate.{0} @hrt))
  · rintro k0 F Hx ⟨i, hm0, rfl, rfl⟩ J0 hJ0
    have hln := lisS_len (f := f) (n := c.toNat) (i := i) (by omega)
    have g'15 := (jn @ints_len (jn @ints_ones g'14))
    refine runTf g'15 ?_
    refine cond_split (fun h1 => ?_) (fun h1 => ?_)
    · have h1d := bsT h1
      have hln2 := lisS_len (f := f) (n := c.toNat) (i := i + 1) (by omega)
      have hst : (lisS f c.toNat i).set i ((((f + ((i : Nat) : Int)) % 256).toNat : Nat) : Int) = lisS f c.toNat (i + 1) := by rw [show ((((f + ((i : Nat) : Int)) % 256).toNat : Nat) : Int) = (f + ((i : Nat) : Int)) % 256 by omega]; exact lisS_set (by omega)
      have g'16 := (jn @h1 (jn @h1d g'15))
      refine runTf g'16 ?_
      refine call_v (by kernel_rfl) (mark_c _ (f + ((i : Nat) : Int))) ?_
      have g'17 := (jn @ints_set1 (jn @List.length_set.{0} g'16))
      refine runTf g'17 ?_
      refine hJ0 _ _ ⟨k0 - 1, by omega, _, _, _, ⟨i + 1, by omega, rfl, rfl⟩, Abs.byG hbel [] rfl [0, 1] (by decide) ?_⟩
      exact absRf (jn @hst (jn @List.length_set.{0} (jn @hln (jn @hln2 @hrt))))
    · have h1d := bsT h1
      obtain rfl : i = c.toNat := by omega
      have g'18 := (jn @h1 (jn @h1d g'15))
      refine runTf g'18 ?_
      refine hQ _ _ (end_byG (.inl rfl) hbel (x1 := .sl (some (H.length + 1, 0)) ((lisS f c.toNat c.toNat).length) none) (l2 := [.cells true 1 (ints .i64 (lisS f c.toNat c.toNat))]) (.sl (some (H.length, 0)) ((lisS f c.toNat c.toNat).length) none) (resT Tryz.results77) [] rfl [1] (by decide) ⟨by rw [lisS_n], by rw [lisS_n]⟩ ?_)
      exact absW
theorem hlistq_c (H : AHeap) (bf bc t tu : Int) (ha : arcB bf bc = true) (ht : 0 ≤ tu ∧ tu ≤ 8) : ACalls Tryz.prog 77 [.agg [.int .i64 (grF (shF bf bc t) (arcC bc) tu), .int .i64 (grC (arcC bc) tu)]] H (fun v H' => v = .sl (some (H.length, 0)) (mrkA bf bc t tu).length none ∧ H' = H ++ [.cells (true) 1 (ints .i64 (mrkA bf bc t tu))]) :=
  hlist_c H _ _ (by have k := arcB_iff.1 ha; refine arcF_ok ?_; unfold arcC; split <;> omega)
theorem rlistq_c (H : AHeap) (bf bc t tu : Int) (ha : arcB bf bc = true) (ht : 0 ≤ tu ∧ tu ≤ 8) : ACalls Tryz.prog 83 [.agg [.int .i64 (grF (shF bf bc t) (arcC bc) tu), .int .i64 (grC (arcC bc) tu)]] H (fun v H' => v = .sl (some (H.length, 0)) (mrkA bf bc t tu).length (capG (mrkA bf bc t tu).length) ∧ H' = H ++ [.cells (ownG (mrkA bf bc t tu).length) 1 (ints .i64 (mrkA bf bc t tu))]) :=
  rlist_c H _ _ (by have k := arcB_iff.1 ha; refine arcF_ok ?_; unfold arcC; split <;> omega)
theorem rect_c (H : AHeap) (x0 : Int) (y0 : Int) (x1 : Int) (y1 : Int) (f : Int) (c : Int) (ha : bxB x0 y0 x1 y1 f c = true) : ACalls Tryz.prog 79 [.agg [.int .i64 x0, .int .i64 y0, .int .i64 x1, .int .i64 y1, .int .i64 f, .int .i64 c]] H (fun v H' => v = .agg [.int .i64 x0, .int .i64 y0, .int .i64 x1, .int .i64 y1] ∧ H' = H) := by
  refine AcT true Tryz.func79 ?_; intro hbel Q hQ
  have g'19 := @ha
  refine runTf g'19 ?_
  refine call_v (by kernel_rfl) (bxv_c _ x0 y0 x1 y1 f c) ?_
  refine runTf g'19 ?_
  exact hQ _ _ (end_plain (.inl rfl) hbel (x := .agg [.int .i64 x0, .int .i64 y0, .int .i64 x1, .int .i64 y1]) (resT Tryz.results79) rfl ⟨rfl, rfl⟩)
open Go.RowKit
theorem safe_c (H : AHeap) (W : Int) (Hh : Int) (pp : AV) (xs : List Int) (s : AV) (l : List T6) (t : Int) (f : Int) (tu : Int) (le : Int) (sl : Int) (ra : Int) (hpp : Sl H 1 pp xs.length (ints .u8 xs)) (hs : Sl H 6 s l.length (r6 l)) (hl : l.length ≤ 1000000000) : ACalls Tryz.prog 21 [.agg [.int .i64 W, .int .i64 Hh, pp], s, .agg [.int .i64 t, .int .i64 f], .agg [.int .i64 tu, .int .i64 le, .int .i64 sl, .int .i64 ra]] H (fun v H' => v = .tup [.bool (saB W Hh xs l t f tu le sl ra), .int .i64 (saE W Hh xs l t f tu le sl ra)] ∧ H' = H) := by
  obtain ⟨bpp, opp, cpp, rfl, hbpp⟩ := hpp
  have hblpp := getElem?_lt hbpp
  have hb0pp := fun l => get_app (l := l) hbpp
  obtain ⟨bs, os, cs, rfl, hbs⟩ := hs
  have hbls := getElem?_lt hbs
  have hb0s := fun l => get_app (l := l) hbs
  refine AcT true Tryz.func21 ?_; intro hbel Q hQ
  have g'1 := (jn @hbpp (jn @hb0pp (jn @hbs @hb0s)))
  refine runTf g'1 ?_
  refine call_v (by kernel_rfl) (valid_a _ W Hh _ xs (.inr ⟨_, _, _, rfl, by first | exact hb0pp _ | exact hbpp⟩)) ?_
  refine runTf g'1 ?_
  refine gd_split (fun h1 => ?_) (fun h1 => ?_)
  · have h1d := bsT h1
    have hV := h1d
    have g'2 := (jn @h1 (jn @h1d g'1))
    refine runTf g'2 ?_
    refine call_v (by kernel_rfl) (vset_c _ _ l ⟨_, _, _, rfl, by first | exact hb0s _ | exact hbs⟩ (by omega)) ?_
    refine runTf g'2 ?_
    refine gd_split (fun h2 => ?_) (fun h2 => ?_)
    · have h2d := bsT h2
      have hS := h2d
      have hall := (setB_iff.1 hS).2
      have g'3 := (jn @h2 (jn @h2d g'2))
      refine runTf g'3 ?_
      refine call_v (by kernel_rfl) (vcmd_c _ t f) ?_
      refine runTf g'3 ?_
      refine gd_split (fun h3 => ?_) (fun h3 => ?_)
      · have h3d := bsT h3
        have hC := h3d
        have g'4 := (jn @h3 (jn @h3d g'3))
        refine runTf g'4 ?_
        refine call_v (by kernel_rfl) (vbnd_c _ tu le sl ra) ?_
        refine runTf g'4 ?_
        refine cond_split (fun h4 => ?_) (fun h4 => ?_)
        · have h4d := bsT h4
          have hz := saE_1 (W := W) (Hh := Hh) (xs := xs) (l := l) (t := t) (f := f) (tu := tu) (le := le) (sl := sl) (ra := ra) (fun hh => by simp [hh.1, hh.2.1, hh.2.2.1, hh.2.2.2] at h4d)
          have hfinE := hz.1
          have hfinB := hz.2
          have g'5 := (jn @h4 (jn @h4d g'4))
          refine runTf g'5 ?_
          exact hQ _ _ (end_plain (.inl rfl) hbel (x := .tup [.bool false, .int .i64 1]) (resT Tryz.results21) rfl ⟨by first | (rw [hfinE, hfinB]; done) | (rw [hfinB, hfinE]; done), rfl⟩)
        · have h4d := bsT h4
          have hBd := h4d
          have hfinE : saE W Hh xs l t f tu le sl ra = 0 := saE_0 hV hS hC hBd
          have htu : 0 ≤ tu ∧ tu ≤ 8 := by have hh := hBd; simp only [bndB, Bool.and_eq_true, btw_iff] at hh; omega
          have hff : 0 ≤ f ∧ f ≤ 32 := by have hh := hC; simp only [cmdB, Bool.and_eq_true, btw_iff] at hh; omega
          have g'6 := (jn @h4 (jn @h4d g'4))
          refine runTf g'6 ?_
          refine cond_split (fun h5 => ?_) (fun h5 => ?_)
          · have h5d := bsT h5
            have hfinB : saB W Hh xs l t f tu le sl ra = true := saB_z hfinE h5d
            have g'7 := (jn @h5 (jn @h5d (jn @int_bne (jn @int_beq g'6))))
            refine runTf g'7 ?_
            exact hQ _ _ (end_plain (.inl rfl) hbel (x := .tup [.bool true, .int .i64 0]) (resT Tryz.results21) rfl ⟨by first | (rw [hfinE, hfinB]; done) | (rw [hfinB, hfinE]; done), rfl⟩)
          · have h5d := bsT h5
            have hf0 : ¬ f = 0 := h5d
            have g'8 := (jn @h5 (jn @h5d (jn @int_bne (jn @int_beq g'6))))
            refine runTf g'8 ?_
            refine go_loop try_mixed (by kernel_rfl) (fun k F Hx => ∃ i : Nat, i + k = l.length ∧ (∀ j : Nat, j < i → boxOK W Hh xs t f tu le sl ra (g6 l j) = true) ∧ F = [(4, .ptr (some (H.length, 0))), (6, .ptr (some (H.length + 1, 0))), (7, .ptr (some (H.length + 2, 0))), (37, .sl (some (bs, 0)) l.length cs), (38, .int .i64 ((l.length : Nat) : Int)), (39, .int .i64 ((i : Nat) : Int))] ∧ Hx = H ++ [.cells true 0 [.int .i64 W, .int .i64 Hh, .sl (some (bpp, 0)) xs.length cpp], .cells true 0 [.int .i64 t, .int .i64 f], .cells true 0 [.int .i64 tu, .int .i64 le, .int .i64 sl, .int .i64 ra]]) (l.length) ?_ ?_
            · refine ⟨_, _, _, ⟨0, by omega, fun j h => by omega, rfl, rfl⟩, Abs.byG hbel [] rfl [0, 1, 2] (by decide) ?_⟩
              exact absW
            · rintro k0 F Hx ⟨i, hm0, hout, rfl, rfl⟩ J0 hJ0
              refine runTf g'8 ?_
              refine cond_split (fun h6 => ?_) (fun h6 => ?_)
              · have h6d := bsT h6
                have hbi : bxB (g61 l i) (g62 l i) (g63 l i) (g64 l i) (g65 l i) (g66 l i) = true := hall (g6 l i) (g6_mem (by omega))
                have hai := (bxB_iff.1 hbi).2.2
                have hkai := arcB_iff.1 hai
                have hsai : arcB (shF (g65 l i) (g66 l i) t) (arcC (g66 l i)) = true := arcF_ok (by omega)
                have hmal := mrkA_len (t := t) hai htu
                have q7 := r6_load (l := l) (j := i) (by omega)
                have g'9 := (jn @h6 (jn @h6d (jn @r6_len (jn @q7 g'8))))
                refine runTf g'9 ?_
                refine call_v (by kernel_rfl) (hshift_c _ (g65 l i) (g66 l i) t (by assumption)) ?_
                refine runTf g'9 ?_
                refine call_v (by kernel_rfl) (hgrow_c _ (shF (g65 l i) (g66 l i) t) (arcC (g66 l i)) tu (by assumption) (by omega)) ?_
                refine runTf g'9 ?_
                refine call_v (by kernel_rfl) (hlistq_c _ (g65 l i) (g66 l i) t tu (by assumption) (by assumption)) ?_
                refine runTf g'9 ?_
                refine go_loop try_mixed (by kernel_rfl) (fun k F Hx => ∃ m : Nat, m + k = (mrkA (g65 l i) (g66 l i) t tu).length ∧ (∀ j : Nat, j < m → unhB W Hh xs (g61 l i) (g62 l i) (g63 l i) (g64 l i) (gi (mrkA (g65 l i) (g66 l i) t tu) j) t f tu le sl ra = true) ∧ F = [(4, .ptr (some (H.length, 0))), (6, .ptr (some (H.length + 1, 0))), (7, .ptr (some (H.length + 2, 0))), (11, .ptr (some (H.length + 3, 0))), (37, .sl (some (bs, 0)) l.length cs), (38, .int .i64 ((l.length : Nat) : Int)), (39, .int .i64 ((i : Nat) : Int)), (62, .sl (some (H.length + 4, 0)) ((mrkA (g65 l i) (g66 l i) t tu).length) none), (63, .int .i64 (((mrkA (g65 l i) (g66 l i) t tu).length : Nat) : Int)), (64, .int .i64 ((m : Nat) : Int))] ∧ Hx = H ++ [.cells true 0 [.int .i64 W, .int .i64 Hh, .sl (some (bpp, 0)) xs.length cpp], .cells true 0 [.int .i64 t, .int .i64 f], .cells true 0 [.int .i64 tu, .int .i64 le, .int .i64 sl, .int .i64 ra], .cells true 0 [.int .i64 (g61 l i), .int .i64 (g62 l i), .int .i64 (g63 l i), .int .i64 (g64 l i), .int .i64 (g65 l i), .int .i64 (g66 l i)], .cells true 1 (ints .i64 (mrkA (g65 l i) (g66 l i) t tu))]) ((mrkA (g65 l i) (g66 l i) t tu).length) ?_ ?_
                · refine ⟨_, _, _, ⟨0, by omega, fun j h => by omega, rfl, rfl⟩, Abs.byG hbel [] rfl [0, 1, 2, 3, 5] (by decide) ?_⟩
                  exact absR
                · rintro k1 F Hx ⟨m, hm1, him, rfl, rfl⟩ J1 hJ1
                  have g'10 := (jn @ints_len (jn @ints_ones g'9))
                  refine runTf g'10 ?_
                  refine cond_split (fun h8 => ?_) (fun h8 => ?_)
                  · have h8d := bsT h8
                    have hmL : m < (mrkA (g65 l i) (g66 l i) t tu).length := by omega
                    have q9 := ints_get (k := .i64) (xs := mrkA (g65 l i) (g66 l i) t tu) (j := m) (by omega)
                    have g'11 := (jn @h8 (jn @h8d (jn @q9 g'10)))
                    refine runTf g'11 ?_
                    refine call_d (by kernel_rfl) (rect_c _ (g61 l i) (g62 l i) (g63 l i) (g64 l i) (g65 l i) (g66 l i) (by assumption)) ?_
                    refine runTf g'11 ?_
                    refine call_d (by kernel_rfl) (unh_c _ W Hh _ xs (g61 l i) (g62 l i) (g63 l i) (g64 l i) (gi (mrkA (g65 l i) (g66 l i) t tu) m) t f tu le sl ra ⟨_, _, _, rfl, by first | exact hb0pp _ | exact hbpp⟩ hV) ?_
                    refine runTf g'11 ?_
                    refine cond_split (fun h10 => ?_) (fun h10 => ?_)
                    · have h10d := bsT h10
                      have hfinB : saB W Hh xs l t f tu le sl ra = false := saB_f hf0 (j := i) (by omega) (boxOK_f (m := m) (by exact hmL) h10d)
                      have g'12 := (jn @h10 (jn @h10d g'11))
                      refine runTf g'12 ?_
                      exact hQ _ _ (end_plain (.inl rfl) hbel (x := .tup [.bool false, .int .i64 0]) (resT Tryz.results21) rfl ⟨by first | (rw [hfinE, hfinB]; done) | (rw [hfinB, hfinE]; done), rfl⟩)
                    · have h10d := bsT h10
                      have hua := h10d
                      have g'13 := (jn @h10 (jn @h10d g'11))
                      refine runTf g'13 ?_
                      refine hJ1 _ _ ⟨k1 - 1, by omega, _, _, _, ⟨m + 1, by omega, fun j hj => by
                                  rcases Nat.lt_or_ge j m with hji | hji
                                  · exact him j hji
                                  · rw [show j = m by omega]; exact hua, rfl, rfl⟩, Abs.byG hbel [] rfl [0, 1, 2, 3, 4] (by decide) ?_⟩
                      exact absRf @h5d
                  · have h8d := bsT h8
                    obtain rfl : m = (mrkA (g65 l i) (g66 l i) t tu).length := by omega
                    have hbok : boxOK W Hh xs t f tu le sl ra (g6 l i) = true := boxOK_t him
                    have g'14 := (jn @h8 (jn @h8d g'10))
                    refine runTf g'14 ?_
                    refine hJ0 _ _ ⟨k0 - 1, by omega, _, _, _, ⟨i + 1, by omega, fun j hj => by
                                rcases Nat.lt_or_ge j i with hji | hji
                                · exact hout j hji
                                · rw [show j = i by omega]; exact hbok, rfl, rfl⟩, Abs.byG hbel [] rfl [0, 1, 2] (by decide) ?_⟩
                    exact absWf @h5d
              · have h6d := bsT h6
                obtain rfl : i = l.length := by omega
                have hfinB : saB W Hh xs l t f tu le sl ra = true := saB_t hfinE hout
                have g'15 := (jn @h6 (jn @h6d g'8))
                refine runTf g'15 ?_
                exact hQ _ _ (end_plain (.inl rfl) hbel (x := .tup [.bool true, .int .i64 0]) (resT Tryz.results21) rfl ⟨by first | (rw [hfinE, hfinB]; done) | (rw [hfinB, hfinE]; done), rfl⟩)
      · have h3d := bsT h3
        have hz := saE_1 (W := W) (Hh := Hh) (xs := xs) (l := l) (t := t) (f := f) (tu := tu) (le := le) (sl := sl) (ra := ra) (fun hh => by simp [hh.1, hh.2.1, hh.2.2.1, hh.2.2.2] at h3d)
        have hfinE := hz.1
        have hfinB := hz.2
        have g'16 := (jn @h3 (jn @h3d g'3))
        refine runTf g'16 ?_
        exact hQ _ _ (end_plain (.inl rfl) hbel (x := .tup [.bool false, .int .i64 1]) (resT Tryz.results21) rfl ⟨by first | (rw [hfinE, hfinB]; done) | (rw [hfinB, hfinE]; done), rfl⟩)
    · have h2d := bsT h2
      have hz := saE_1 (W := W) (Hh := Hh) (xs := xs) (l := l) (t := t) (f := f) (tu := tu) (le := le) (sl := sl) (ra := ra) (fun hh => by simp [hh.1, hh.2.1, hh.2.2.1, hh.2.2.2] at h2d)
      have hfinE := hz.1
      have hfinB := hz.2
      have g'17 := (jn @h2 (jn @h2d g'2))
      refine runTf g'17 ?_
      exact hQ _ _ (end_plain (.inl rfl) hbel (x := .tup [.bool false, .int .i64 1]) (resT Tryz.results21) rfl ⟨by first | (rw [hfinE, hfinB]; done) | (rw [hfinB, hfinE]; done), rfl⟩)
  · have h1d := bsT h1
    have hz := saE_1 (W := W) (Hh := Hh) (xs := xs) (l := l) (t := t) (f := f) (tu := tu) (le := le) (sl := sl) (ra := ra) (fun hh => by simp [hh.1, hh.2.1, hh.2.2.1, hh.2.2.2] at h1d)
    have hfinE := hz.1
    have hfinB := hz.2
    have g'18 := (jn @h1 (jn @h1d g'1))
    refine runTf g'18 ?_
    exact hQ _ _ (end_plain (.inl rfl) hbel (x := .tup [.bool false, .int .i64 1]) (resT Tryz.results21) rfl ⟨by first | (rw [hfinE, hfinB]; done) | (rw [hfinB, hfinE]; done), rfl⟩)
open Go.RowKit
theorem rcells_c (H : AHeap) (x0 : Int) (y0 : Int) (x1 : Int) (y1 : Int) : ACalls Tryz.prog 69 [.agg [.int .i64 x0, .int .i64 y0, .int .i64 x1, .int .i64 y1]] H (fun v H' => v = .tup [.sl (some (H.length, 0)) ((cellsR x0 y0 x1 y1).length) (capG (cellsR x0 y0 x1 y1).length), .int .i64 (cellsE x0 y0 x1 y1)] ∧ H' = H ++ [.cells (ownG (cellsR x0 y0 x1 y1).length) 2 (prs (cellsR x0 y0 x1 y1))]) := by
  refine AcT true Tryz.func69 ?_; intro hbel Q hQ
  refine runT ?_
  refine call_v (by kernel_rfl) (r8right_c _ x0 y0 x1 y1) ?_
  refine runT ?_
  refine cond_split (fun h1 => ?_) (fun h1 => ?_)
  · have h1d := bsT h1
    have hfinE : cellsE x0 y0 x1 y1 = 1 := if_neg (by rw [← rgtB_eq]; simp [h1d])
    have hfinR : cellsR x0 y0 x1 y1 = [] := if_neg (by rw [hfinE]; decide)
    have g'1 := (jn @h1 @h1d)
    refine runTf g'1 ?_
    refine hQ _ _ (end_byG (.inl rfl) hbel (x1 := .tup [.sl none 0 (some 0), .int .i64 1]) (l2 := [.cells false 2 []]) (.tup [.sl (some (H.length, 0)) 0 (some 0), .int .i64 1]) (resT Tryz.results69) [.cells false 2 []] rfl [1] (by decide) ⟨by first | (rw [hfinR, hfinE]; done) | (rw [hfinR, hfinE]; rfl) | (rw [hfinR]; done) | (rw [hfinR]; rfl), by first | (rw [hfinR, hfinE]; done) | (rw [hfinR, hfinE]; rfl) | (rw [hfinR]; done) | (rw [hfinR]; rfl)⟩ ?_)
    exact absW
  · have h1d := bsT h1
    have hok : rctB x0 y0 x1 y1 = true := by rw [← rgtB_eq]; exact h1d
    have hrc := rctB_iff.1 hok
    have hc1 := arN_bd hrc.1
    have hc2 := arN_bd hrc.2
    have hce := cells_eq hok
    have hcn := cells_num hok
    have hmm := mul_bd (a := x1 / 64 + 1 - (x0 / 64 - 1) - 2) (b := y1 / 64 + 1 - (y0 / 64 - 1) - 2) (A := 65536) (B := 65536) (by omega) (by omega)
    have g'2 := (jn @h1 @h1d)
    refine runTf g'2 ?_
    refine call_v (by kernel_rfl) (r8around_c _ x0 y0 x1 y1 (by omega) (by omega) (by omega) (by omega)) ?_
    refine runTf g'2 ?_
    refine cond_split (fun h2 => ?_) (fun h2 => ?_)
    · have h2d := bsT h2
      have hfinE : cellsE x0 y0 x1 y1 = 6 := cells_many hok h2d
      have hfinR : cellsR x0 y0 x1 y1 = [] := if_neg (by rw [hfinE]; decide)
      have g'3 := (jn @h2 (jn @h2d g'2))
      refine runTf g'3 ?_
      refine hQ _ _ (end_byG (.inl rfl) hbel (x1 := .tup [.sl none 0 (some 0), .int .i64 6]) (l2 := [.cells false 2 []]) (.tup [.sl (some (H.length, 0)) 0 (some 0), .int .i64 6]) (resT Tryz.results69) [.cells false 2 []] rfl [2] (by decide) ⟨by first | (rw [hfinR, hfinE]; done) | (rw [hfinR, hfinE]; rfl) | (rw [hfinR]; done) | (rw [hfinR]; rfl), by first | (rw [hfinR, hfinE]; done) | (rw [hfinR, hfinE]; rfl) | (rw [hfinR]; done) | (rw [hfinR]; rfl)⟩ ?_)
      exact absW
    · have h2d := bsT h2
      have g'4 := (jn @h2 (jn @h2d g'2))
      refine runTf g'4 ?_
      refine go_loop try_mixed (by kernel_rfl) (fun k F Hx => ∃ n : Nat, n + k = arN y0 y1 ∧ F = [(1, .ptr (some (H.length, 0))), (4, .sl (some (H.length + 2, 0)) ((gridR (ovlP x0 y0 x1 y1) (x0 / 64 - 1) (arN x0 x1) (y0 / 64 - 1) n).length) (capG (gridR (ovlP x0 y0 x1 y1) (x0 / 64 - 1) (arN x0 x1) (y0 / 64 - 1) n).length)), (5, .ptr (some (H.length + 1, 0))), (6, .int .i64 (y0 / 64 - 1 + ((n : Nat) : Int)))] ∧ Hx = H ++ [.cells true 0 [.int .i64 x0, .int .i64 y0, .int .i64 x1, .int .i64 y1], .cells true 0 [.int .i64 (x0 / 64 - 1), .int .i64 (y0 / 64 - 1), .int .i64 (x1 / 64 + 1), .int .i64 (y1 / 64 + 1)], .cells (ownG (gridR (ovlP x0 y0 x1 y1) (x0 / 64 - 1) (arN x0 x1) (y0 / 64 - 1) n).length) 2 (prs (gridR (ovlP x0 y0 x1 y1) (x0 / 64 - 1) (arN x0 x1) (y0 / 64 - 1) n))]) (arN y0 y1) ?_ ?_
      · refine ⟨_, _, _, ⟨0, by omega, rfl, rfl⟩, Abs.byG hbel [.cells false 2 []] rfl [0, 1, 2] (by decide) ?_⟩
        exact absRf (jn @gridR_0 (jn @Int.natCast_zero @Int.add_zero))
      · rintro k0 F Hx ⟨n, hm0, rfl, rfl⟩ J0 hJ0
        have g'5 := (jn @prs_len (jn @prs_one g'4))
        refine runTf g'5 ?_
        refine cond_split (fun h3 => ?_) (fun h3 => ?_)
        · have h3d := bsT h3
          have g'6 := (jn @h3 (jn @h3d g'5))
          refine runTf g'6 ?_
          refine go_loop try_mixed (by kernel_rfl) (fun k F Hx => ∃ m : Nat, m + k = arN x0 x1 ∧ F = [(1, .ptr (some (H.length, 0))), (4, .sl (some (H.length + 2, 0)) ((gridR (ovlP x0 y0 x1 y1) (x0 / 64 - 1) (arN x0 x1) (y0 / 64 - 1) n ++ rowR (ovlP x0 y0 x1 y1) (x0 / 64 - 1) (y0 / 64 - 1 + ((n : Nat) : Int)) m).length) (capG (gridR (ovlP x0 y0 x1 y1) (x0 / 64 - 1) (arN x0 x1) (y0 / 64 - 1) n ++ rowR (ovlP x0 y0 x1 y1) (x0 / 64 - 1) (y0 / 64 - 1 + ((n : Nat) : Int)) m).length)), (5, .ptr (some (H.length + 1, 0))), (6, .int .i64 (y0 / 64 - 1 + ((n : Nat) : Int))), (7, .int .i64 (x0 / 64 - 1 + ((m : Nat) : Int)))] ∧ Hx = H ++ [.cells true 0 [.int .i64 x0, .int .i64 y0, .int .i64 x1, .int .i64 y1], .cells true 0 [.int .i64 (x0 / 64 - 1), .int .i64 (y0 / 64 - 1), .int .i64 (x1 / 64 + 1), .int .i64 (y1 / 64 + 1)], .cells (ownG (gridR (ovlP x0 y0 x1 y1) (x0 / 64 - 1) (arN x0 x1) (y0 / 64 - 1) n ++ rowR (ovlP x0 y0 x1 y1) (x0 / 64 - 1) (y0 / 64 - 1 + ((n : Nat) : Int)) m).length) 2 (prs (gridR (ovlP x0 y0 x1 y1) (x0 / 64 - 1) (arN x0 x1) (y0 / 64 - 1) n ++ rowR (ovlP x0 y0 x1 y1) (x0 / 64 - 1) (y0 / 64 - 1 + ((n : Nat) : Int)) m))]) (arN x0 x1) ?_ ?_
          · refine ⟨_, _, _, ⟨0, by omega, rfl, rfl⟩, Abs.byG hbel [] rfl [0, 1, 2] (by decide) ?_⟩
            exact absRf (jn @rowR_0 (jn @List.append_nil.{0} (jn @Int.natCast_zero @Int.add_zero)))
          · rintro k1 F Hx ⟨m, hm1, rfl, rfl⟩ J1 hJ1
            refine runTf g'6 ?_
            refine cond_split (fun h4 => ?_) (fun h4 => ?_)
            · have h4d := bsT h4
              have hgb := grid_bd (p := ovlP x0 y0 x1 y1) (x0 := x0 / 64 - 1) (y0 := y0 / 64 - 1) (y := y0 / 64 - 1 + ((n : Nat) : Int)) (w := arN x0 x1) (n := n) (m := m) (by omega) (by omega) (by omega)
              have g'7 := (jn @h4 (jn @h4d g'6))
              refine runTf g'7 ?_
              refine call_d (by kernel_rfl) (bsquare_c _ (x0 / 64 - 1 + ((m : Nat) : Int)) (y0 / 64 - 1 + ((n : Nat) : Int)) (by omega) (by omega)) ?_
              refine runTf g'7 ?_
              refine call_d (by kernel_rfl) (r8ovl_c _ ((x0 / 64 - 1 + ((m : Nat) : Int)) * 64) ((y0 / 64 - 1 + ((n : Nat) : Int)) * 64) ((x0 / 64 - 1 + ((m : Nat) : Int)) * 64 + 64) ((y0 / 64 - 1 + ((n : Nat) : Int)) * 64 + 64) x0 y0 x1 y1) ?_
              refine runTf g'7 ?_
              refine cond_split (fun h5 => ?_) (fun h5 => ?_)
              · have h5d := bsT h5
                have hov : ovlP x0 y0 x1 y1 (x0 / 64 - 1 + ((m : Nat) : Int)) (y0 / 64 - 1 + ((n : Nat) : Int)) = true := h5d
                have g'8 := (jn @h5 (jn @h5d (jn @capG_s g'7)))
                refine runTf g'8 ?_
                refine hJ1 _ _ ⟨k1 - 1, by omega, _, _, _, ⟨m + 1, by omega, rfl, rfl⟩, Abs.byG hbel [] rfl [0, 1, 5] (by decide) ?_⟩
                exact absRf (jn @rowR.eq_2 (jn @hov (jn @if_true.{1} (jn @if_false.{1} (jn @Bool.false_eq_true (jn @List.append_nil.{0} (jn @List.append_assoc.{0} (jn @Int.natCast_add (jn @Int.natCast_one @Int.add_assoc)))))))))
              · have h5d := bsT h5
                have hov : ovlP x0 y0 x1 y1 (x0 / 64 - 1 + ((m : Nat) : Int)) (y0 / 64 - 1 + ((n : Nat) : Int)) = false := by simpa [ovlP] using h5d
                have g'9 := (jn @h5 (jn @h5d g'7))
                refine runTf g'9 ?_
                refine hJ1 _ _ ⟨k1 - 1, by omega, _, _, _, ⟨m + 1, by omega, rfl, rfl⟩, Abs.byG hbel [] rfl [0, 1, 2] (by decide) ?_⟩
                exact absRf (jn @rowR.eq_2 (jn @hov (jn @if_true.{1} (jn @if_false.{1} (jn @Bool.false_eq_true (jn @List.append_nil.{0} (jn @List.append_assoc.{0} (jn @Int.natCast_add (jn @Int.natCast_one @Int.add_assoc)))))))))
            · have h4d := bsT h4
              obtain rfl : m = arN x0 x1 := by omega
              have g'10 := (jn @h4 (jn @h4d g'6))
              refine runTf g'10 ?_
              refine hJ0 _ _ ⟨k0 - 1, by omega, _, _, _, ⟨n + 1, by omega, rfl, rfl⟩, Abs.byG hbel [] rfl [0, 1, 2] (by decide) ?_⟩
              exact absRf (jn @gridR_s (jn @Int.natCast_add (jn @Int.natCast_one @Int.add_assoc)))
        · have h3d := bsT h3
          obtain rfl : n = arN y0 y1 := by omega
          have g'11 := (jn @h3 (jn @h3d g'5))
          refine runTf g'11 ?_
          refine cond_split (fun h6 => ?_) (fun h6 => ?_)
          · have h6d := bsT h6
            have hfinE : cellsE x0 y0 x1 y1 = 6 := by have hh := h6d; rw [hce] at hh; unfold cellsE; rw [if_pos hok, if_pos (by omega)]
            have hfinR : cellsR x0 y0 x1 y1 = [] := if_neg (by rw [hfinE]; decide)
            have g'12 := (jn @h6 (jn @h6d g'11))
            refine runTf g'12 ?_
            refine hQ _ _ (end_byG (.inl rfl) hbel (x1 := .tup [.sl none 0 (some 0), .int .i64 6]) (l2 := [.cells false 2 []]) (.tup [.sl (some (H.length, 0)) 0 (some 0), .int .i64 6]) (resT Tryz.results69) [.cells false 2 []] rfl [3] (by decide) ⟨by first | (rw [hfinR, hfinE]; done) | (rw [hfinR, hfinE]; rfl) | (rw [hfinR]; done) | (rw [hfinR]; rfl), by first | (rw [hfinR, hfinE]; done) | (rw [hfinR, hfinE]; rfl) | (rw [hfinR]; done) | (rw [hfinR]; rfl)⟩ ?_)
            exact absW
          · have h6d := bsT h6
            have hfinE : cellsE x0 y0 x1 y1 = 0 := by have hh := h6d; rw [hce] at hh; unfold cellsE; rw [if_pos hok, if_neg (by omega)]
            have hfinR : cellsR x0 y0 x1 y1 = gridR (ovlP x0 y0 x1 y1) (x0 / 64 - 1) (arN x0 x1) (y0 / 64 - 1) (arN y0 y1) := by rw [hce]; exact if_pos hfinE
            have g'13 := (jn @h6 (jn @h6d g'11))
            refine runTf g'13 ?_
            refine hQ _ _ (end_byG (.inl rfl) hbel (x1 := .tup [.sl (some (H.length + 2, 0)) ((gridR (ovlP x0 y0 x1 y1) (x0 / 64 - 1) (arN x0 x1) (y0 / 64 - 1) (arN y0 y1)).length) (capG (gridR (ovlP x0 y0 x1 y1) (x0 / 64 - 1) (arN x0 x1) (y0 / 64 - 1) (arN y0 y1)).length), .int .i64 0]) (l2 := [.cells (ownG (gridR (ovlP x0 y0 x1 y1) (x0 / 64 - 1) (arN x0 x1) (y0 / 64 - 1) (arN y0 y1)).length) 2 (prs (gridR (ovlP x0 y0 x1 y1) (x0 / 64 - 1) (arN x0 x1) (y0 / 64 - 1) (arN y0 y1)))]) (.tup [.sl (some (H.length, 0)) ((gridR (ovlP x0 y0 x1 y1) (x0 / 64 - 1) (arN x0 x1) (y0 / 64 - 1) (arN y0 y1)).length) (capG (gridR (ovlP x0 y0 x1 y1) (x0 / 64 - 1) (arN x0 x1) (y0 / 64 - 1) (arN y0 y1)).length), .int .i64 0]) (resT Tryz.results69) [] rfl [2] (by decide) ⟨by first | (rw [hfinR, hfinE]; done) | (rw [hfinR, hfinE]; rfl) | (rw [hfinR]; done) | (rw [hfinR]; rfl), by first | (rw [hfinR, hfinE]; done) | (rw [hfinR, hfinE]; rfl) | (rw [hfinR]; done) | (rw [hfinR]; rfl)⟩ ?_)
            exact absW
open Go.RowKit
theorem rapart_c (H : AHeap) (x : Int) (y : Int) (s : AV) (l : List (Int × Int)) (x0 : Int) (y0 : Int) (x1 : Int) (y1 : Int) (hs : Sl H 2 s l.length (prs l)) (hl : l.length ≤ 1000000) : ACalls Tryz.prog 70 [.agg [.int .i64 x, .int .i64 y, s], .agg [.int .i64 x0, .int .i64 y0, .int .i64 x1, .int .i64 y1]] H (fun v H' => v = .bool (rapB x y l x0 y0 x1 y1) ∧ H' = H) := by
  obtain ⟨bs, os, cs, rfl, hbs⟩ := hs
  have hbls := getElem?_lt hbs
  have hb0s := fun l => get_app (l := l) hbs
  refine AcT true Tryz.func70 ?_; intro hbel Q hQ
  have g'1 := (jn @hbs @hb0s)
  refine runTf g'1 ?_
  refine call_v (by kernel_rfl) (rvalid_c _ x y _ l (.inr ⟨_, _, _, rfl, by first | exact hb0s _ | exact hbs⟩) (by omega)) ?_
  refine runTf g'1 ?_
  refine gd_split (fun h1 => ?_) (fun h1 => ?_)
  · have h1d := h1
    try simp only [Bool.not_eq_true', Bool.not_eq_false', decide_eq_true_eq, decide_eq_false_iff_not, beq_iff_eq, bne_iff_ne, ne_eq, Bool.not_eq_true, Bool.not_eq_false, beq_eq_false_iff_ne, bne_eq_false_iff_eq, Classical.not_not, Bool.and_eq_true, Bool.and_eq_false_imp] at h1d
    have hxy := valid_bd3 h1d
    have hv0 := h1d
    obtain ⟨hl16, hlB⟩ := valid_bd h1d
    have hB4 : ∀ e ∈ l, Bd 4194304 e := fun e he => by have := hlB e he; unfold Bd at *; omega
    have g'2 := (jn @h1 (jn @h1d g'1))
    refine runTf g'2 ?_
    refine call_v (by kernel_rfl) (ordered_c _ x0 y0 x1 y1) ?_
    refine runTf g'2 ?_
    refine cond_split (fun h2 => ?_) (fun h2 => ?_)
    · have h2d := h2
      try simp only [Bool.not_eq_true', Bool.not_eq_false', decide_eq_true_eq, decide_eq_false_iff_not, beq_iff_eq, bne_iff_ne, ne_eq, Bool.not_eq_true, Bool.not_eq_false, beq_eq_false_iff_ne, bne_eq_false_iff_eq, Classical.not_not, Bool.and_eq_true, Bool.and_eq_false_imp] at h2d
      have g'3 := (jn @h2 (jn @h2d g'2))
      refine runTf g'3 ?_
      exact hQ _ _ (end_plain (.inl rfl) hbel (x := .bool false) (resT Tryz.results70) rfl ⟨by simp [rapB, h1d, h2d], rfl⟩)
    · have h2d := h2
      try simp only [Bool.not_eq_true', Bool.not_eq_false', decide_eq_true_eq, decide_eq_false_iff_not, beq_iff_eq, bne_iff_ne, ne_eq, Bool.not_eq_true, Bool.not_eq_false, beq_eq_false_iff_ne, bne_eq_false_iff_eq, Classical.not_not, Bool.and_eq_true, Bool.and_eq_false_imp] at h2d
      obtain ⟨r1, r2, r3, r4, r5, r6⟩ := rap_facts hv0 h2d
      have hord := h2d
      simp only [ordR, Bool.and_eq_true, decide_eq_true_eq] at hord
      have hfar := far4_bd hord.2.2
      have hfar2 : (-2097152 ≤ 0 - x1 ∧ 0 - x1 ≤ 2097152) ∧ (-2097152 ≤ 0 - y1 ∧ 0 - y1 ≤ 2097152) ∧ (-2097152 ≤ 0 - x0 ∧ 0 - x0 ≤ 2097152) ∧ (-2097152 ≤ 0 - y0 ∧ 0 - y0 ≤ 2097152) := by omega
      have g'4 := (jn @h2 (jn @h2d g'2))
      refine runTf g'4 ?_
      refine call_v (by kernel_rfl) (rrect_c _ (0 - x1) (0 - y1) (0 - x0) (0 - y0) (by assumption)) ?_
      refine runTf g'4 ?_
      refine call_v (by kernel_rfl) (plus_c _ x y ((0 - x1) + (0 - x0)) ((0 - y1) + (0 - y0)) _ _ l (canonL (rR x0 y0 x1 y1)) ⟨_, _, _, rfl, by first | exact hb0s _ | exact hbs⟩ ⟨_, _, _, by first | rfl | (rw [List.length_append]; done) | (rw [List.length_append]; rfl), by first | rfl | (rw [get_newk]; rfl) | (rw [get_new0]; rfl) | (rw [get_newk, prs_append]; rfl) | (rw [get_new0, prs_append]; rfl)⟩ (by omega) (by assumption) (by assumption) (by omega) (by omega)) ?_
      refine runTf g'4 ?_
      refine call_v (by kernel_rfl) (rcorners_c _ (x + ((0 - x1) + (0 - x0))) (y + ((0 - y1) + (0 - y0))) _ (canonL (aA l x0 y0 x1 y1)) ⟨_, _, _, by first | rfl | (rw [List.length_append]; done) | (rw [List.length_append]; rfl), by first | rfl | (rw [get_newk]; rfl) | (rw [get_new0]; rfl) | (rw [get_newk, prs_append]; rfl) | (rw [get_new0, prs_append]; rfl)⟩ (by first | omega | (simp only [List.length_cons, List.length_nil]; omega) | exact Nat.le_trans (mkL_len _ _) (by first | omega | simp) | exact Nat.le_trans (vL_len _ _) (by first | omega | simp) | exact Nat.le_trans corV_len (by omega) | exact Nat.le_trans (canonL_len _) (by first | omega | simp)) (by assumption) (by omega)) ?_
      refine runTf g'4 ?_
      refine call_v (by kernel_rfl) (rin_c _ _ (aC x y l x0 y0 x1 y1) 0 0 ⟨_, _, _, by first | rfl | (rw [List.length_append]; done) | (rw [List.length_append]; rfl), by first | rfl | (rw [get_newk]; rfl) | (rw [get_new0]; rfl) | (rw [get_newk, prs_append]; rfl) | (rw [get_new0, prs_append]; rfl)⟩ (by first | omega | (simp only [List.length_cons, List.length_nil]; omega) | exact Nat.le_trans (mkL_len _ _) (by first | omega | simp) | exact Nat.le_trans (vL_len _ _) (by first | omega | simp) | exact Nat.le_trans corV_len (by omega) | exact Nat.le_trans (canonL_len _) (by first | omega | simp)) (by assumption) (by omega)) ?_
      refine runTf g'4 ?_
      exact hQ _ _ (end_plain (.inl rfl) hbel (x := .bool (!(inR (aC x y l x0 y0 x1 y1) (0, 0) (aC x y l x0 y0 x1 y1).length))) (resT Tryz.results70) rfl ⟨by simp [rapB, h1d, h2d], rfl⟩)
  · have h1d := h1
    try simp only [Bool.not_eq_true', Bool.not_eq_false', decide_eq_true_eq, decide_eq_false_iff_not, beq_iff_eq, bne_iff_ne, ne_eq, Bool.not_eq_true, Bool.not_eq_false, beq_eq_false_iff_ne, bne_eq_false_iff_eq, Classical.not_not, Bool.and_eq_true, Bool.and_eq_false_imp] at h1d
    have g'5 := (jn @h1 (jn @h1d g'1))
    refine runTf g'5 ?_
    exact hQ _ _ (end_plain (.inl rfl) hbel (x := .bool false) (resT Tryz.results70) rfl ⟨by simp [rapB, h1d], rfl⟩)
theorem rapart_a (H : AHeap) (x : Int) (y : Int) (s : AV) (l : List (Int × Int)) (x0 : Int) (y0 : Int) (x1 : Int) (y1 : Int) (hs : Sl H 2 s l.length (prs l)) (hl : l.length ≤ 1000000) : ACalls Tryz.prog 70 [.agg [.int .i64 x, .int .i64 y, s], .agg [.int .i64 x0, .int .i64 y0, .int .i64 x1, .int .i64 y1]] H (fun v H' => v = .bool (apartB x y l x0 y0 x1 y1) ∧ H' = H) := by
  have h := rapart_c H x y s l x0 y0 x1 y1 hs hl
  rwa [rap_eq] at h
open Go.RowKit
open Go.RowKit
theorem corV_len {x y : Int} {l : List Pt} : (corV x y l).length ≤ 32 := by
  unfold corV
  split
  · rename_i hv
    have := (valid_bd hv).1
    have := canonL_len l
    rw [corR_len]; omega
  · simp
theorem rBounds_c (H : AHeap) (x : Int) (y : Int) (s : AV) (l : List (Int × Int)) (hs : Sl H 2 s l.length (prs l)) (hl : l.length ≤ 1000000) : ACalls Tryz.prog 16 [.agg [.int .i64 x, .int .i64 y, s]] H (fun v H' => v = .tup [.agg [.int .i64 (ifv (validB x y l) (x - spr (1, 0) l)), .int .i64 (ifv (validB x y l) (y - spr (0, 1) l)), .int .i64 (ifv (validB x y l) (x + spr (1, 0) l)), .int .i64 (ifv (validB x y l) (y + spr (0, 1) l))], .int .i64 (if (validB x y l) = true then 0 else 1)] ∧ H' = H) := by
  obtain ⟨bs, os, cs, rfl, hbs⟩ := hs
  have hbls := getElem?_lt hbs
  have hb0s := fun l => get_app (l := l) hbs
  refine AcT true Tryz.func16 ?_; intro hbel Q hQ
  have g'1 := (jn @hbs @hb0s)
  refine runTf g'1 ?_
  refine call_v (by kernel_rfl) (rvalid_c _ x y _ l (.inr ⟨_, _, _, rfl, by first | exact hb0s _ | exact hbs⟩) (by omega)) ?_
  refine runTf g'1 ?_
  refine cond_split (fun h1 => ?_) (fun h1 => ?_)
  · have h1d := h1
    try simp only [Bool.not_eq_true', Bool.not_eq_false', decide_eq_true_eq, decide_eq_false_iff_not, beq_iff_eq, bne_iff_ne, ne_eq, Bool.not_eq_true, Bool.not_eq_false, beq_eq_false_iff_ne, bne_eq_false_iff_eq, Classical.not_not, Bool.and_eq_true, Bool.and_eq_false_imp] at h1d
    have g'2 := (jn @h1 (jn @h1d g'1))
    refine runTf g'2 ?_
    exact hQ _ _ (end_plain (.inl rfl) hbel (x := .tup [.agg [.int .i64 0, .int .i64 0, .int .i64 0, .int .i64 0], .int .i64 1]) (resT Tryz.results16) rfl ⟨by first | (simp [ifv, h1d]; done) | (have e1 := spr_negl (1, 0) l; have e2 := spr_negl (0, 1) l; simp at e1 e2; simp [ifv, supI, hw1, hw2, hw3, e1, e2, h1d]; omega), rfl⟩)
  · have h1d := h1
    try simp only [Bool.not_eq_true', Bool.not_eq_false', decide_eq_true_eq, decide_eq_false_iff_not, beq_iff_eq, bne_iff_ne, ne_eq, Bool.not_eq_true, Bool.not_eq_false, beq_eq_false_iff_ne, bne_eq_false_iff_eq, Classical.not_not, Bool.and_eq_true, Bool.and_eq_false_imp] at h1d
    obtain ⟨hl16, hlB⟩ := valid_bd h1d
    have hxy := valid_bd3 h1d
    have hB2 : ∀ e ∈ l, Bd 268435456 e := fun e he => by have := hlB e he; unfold Bd at *; omega
    have hB4 : ∀ e ∈ l, Bd 4194304 e := fun e he => by have := hlB e he; unfold Bd at *; omega
    have hw1 : within (-1) 65536 = true := rfl
    have hw2 : within 0 65536 = true := rfl
    have hw3 : within 1 65536 = true := rfl
    have hs1 := spr_bd (n := (1, 0)) (by unfold Bd; simp) l hB2
    have hs2 := spr_bd (n := (0, 1)) (by unfold Bd; simp) l hB2
    have hs3 := spr_bd (n := (-1, 0)) (by unfold Bd; simp) l hB2
    have hs4 := spr_bd (n := (0, -1)) (by unfold Bd; simp) l hB2
    have hS : ∀ a b, -1 ≤ a ∧ a ≤ 1 → -1 ≤ b ∧ b ≤ 1 → -1152921504606846976 * 3 ≤ supI x y l a b ∧ supI x y l a b ≤ 1152921504606846976 * 3 := fun a b ha hb => by
      have hsa := spr_bd (n := (a, b)) (by unfold Bd; simp only; omega) l hB2
      have p1 := mul_bd (a := a) (b := x) (A := 1) (B := 8388608) (by omega) (by omega)
      have p2 := mul_bd (a := b) (b := y) (A := 1) (B := 8388608) (by omega) (by omega)
      unfold supI
      split <;> omega
    have hSa := hS (-1) 0 (by omega) (by omega)
    have hSb := hS 0 (-1) (by omega) (by omega)
    have g'3 := (jn @h1 (jn @h1d g'1))
    refine runTf g'3 ?_
    refine call_d (by kernel_rfl) (rsupport_c _ x y _ l (-1) 0 ⟨_, _, _, rfl, by first | exact hb0s _ | exact hbs⟩ (by first | omega | (simp only [List.length_cons, List.length_nil]; omega) | exact Nat.le_trans (mkL_len _ _) (by first | omega | simp) | exact Nat.le_trans (vL_len _ _) (by first | omega | simp) | exact Nat.le_trans corV_len (by omega) | exact Nat.le_trans (canonL_len _) (by first | omega | simp))) ?_
    refine runTf g'3 ?_
    refine call_d (by kernel_rfl) (rsupport_c _ x y _ l 0 (-1) ⟨_, _, _, rfl, by first | exact hb0s _ | exact hbs⟩ (by first | omega | (simp only [List.length_cons, List.length_nil]; omega) | exact Nat.le_trans (mkL_len _ _) (by first | omega | simp) | exact Nat.le_trans (vL_len _ _) (by first | omega | simp) | exact Nat.le_trans corV_len (by omega) | exact Nat.le_trans (canonL_len _) (by first | omega | simp))) ?_
    refine runTf g'3 ?_
    refine call_d (by kernel_rfl) (rsupport_c _ x y _ l 1 0 ⟨_, _, _, rfl, by first | exact hb0s _ | exact hbs⟩ (by first | omega | (simp only [List.length_cons, List.length_nil]; omega) | exact Nat.le_trans (mkL_len _ _) (by first | omega | simp) | exact Nat.le_trans (vL_len _ _) (by first | omega | simp) | exact Nat.le_trans corV_len (by omega) | exact Nat.le_trans (canonL_len _) (by first | omega | simp))) ?_
    refine runTf g'3 ?_
    refine call_d (by kernel_rfl) (rsupport_c _ x y _ l 0 1 ⟨_, _, _, rfl, by first | exact hb0s _ | exact hbs⟩ (by first | omega | (simp only [List.length_cons, List.length_nil]; omega) | exact Nat.le_trans (mkL_len _ _) (by first | omega | simp) | exact Nat.le_trans (vL_len _ _) (by first | omega | simp) | exact Nat.le_trans corV_len (by omega) | exact Nat.le_trans (canonL_len _) (by first | omega | simp))) ?_
    refine runTf g'3 ?_
    exact hQ _ _ (end_plain (.inl rfl) hbel (x := .tup [.agg [.int .i64 (0 - (supI x y l (-1) 0)), .int .i64 (0 - (supI x y l 0 (-1))), .int .i64 (supI x y l 1 0), .int .i64 (supI x y l 0 1)], .int .i64 0]) (resT Tryz.results16) rfl ⟨by first | (simp [ifv, h1d]; done) | (have e1 := spr_negl (1, 0) l; have e2 := spr_negl (0, 1) l; simp at e1 e2; simp [ifv, supI, hw1, hw2, hw3, e1, e2, h1d]; omega), rfl⟩)
open Go.RowKit
theorem bfloor2_c (H : AHeap) (a : Int) (hw : -4611686018427387903 ≤ a ∧ a ≤ 4611686018427387903) : ACalls Tryz.prog 30 [.int .i64 (a + 1), .int .i64 2] H (fun v H' => v = .int .i64 (0 - (0 - a) / 2) ∧ H' = H) := by
  have h := bfloor_c H (a + 1) 2 (by omega) (by omega)
  rw [up2] at h
  exact h
theorem rcellsq_c (H : AHeap) (x y : Int) (l : List Pt) : ACalls Tryz.prog 69 [.agg [.int .i64 ((ifv (validB x y l) (x - spr (1, 0) l)) / 2), .int .i64 ((ifv (validB x y l) (y - spr (0, 1) l)) / 2), .int .i64 (0 - ((0 - (ifv (validB x y l) (x + spr (1, 0) l))) / 2)), .int .i64 (0 - ((0 - (ifv (validB x y l) (y + spr (0, 1) l))) / 2))]] H (fun v H' => v = .tup [.sl (some (H.length, 0)) (touQ x y l).length (capG (touQ x y l).length), .int .i64 (touF x y l)] ∧ H' = H ++ [.cells (ownG (touQ x y l).length) 2 (prs (touQ x y l))]) := rcells_c _ _ _ _ _
theorem rtouched_c (H : AHeap) (x : Int) (y : Int) (s : AV) (l : List (Int × Int)) (hs : Sl H 2 s l.length (prs l)) (hl : l.length ≤ 1000000) : ACalls Tryz.prog 18 [.agg [.int .i64 x, .int .i64 y, s]] H (fun v H' => v = .tup [.sl (some (H.length, 0)) ((touL x y l).length) (capG (touL x y l).length), .int .i64 (touE x y l)] ∧ H' = H ++ [.cells (ownG (touL x y l).length) 2 (prs (touL x y l))]) := by
  obtain ⟨bs, os, cs, rfl, hbs⟩ := hs
  have hbls := getElem?_lt hbs
  have hb0s := fun l => get_app (l := l) hbs
  refine AcT false Tryz.func18 ?_; intro hbel Q hQ
  have g'1 := (jn @hbs @hb0s)
  refine runTf g'1 ?_
  refine call_v (by kernel_rfl) (rBounds_c _ x y _ l ⟨_, _, _, rfl, by first | exact hb0s _ | exact hbs⟩ (by first | omega | (simp only [List.length_cons, List.length_nil]; omega) | exact Nat.le_trans (mkL_len _ _) (by first | omega | simp) | exact Nat.le_trans (vL_len _ _) (by first | omega | simp) | exact Nat.le_trans corV_len (by omega) | exact Nat.le_trans (canonL_len _) (by first | omega | simp))) ?_
  refine runTf g'1 ?_
  refine cond_split (fun h1 => ?_) (fun h1 => ?_)
  · have h1d := bsT h1
    have hv0 : ¬ validB x y l = true := by intro hv; simp [hv] at h1d
    have hfinE : touE x y l = 1 := if_neg hv0
    have hfinC : touC x y l = [] := if_neg hv0
    have hfinL : touL x y l = [] := if_neg (by rw [hfinE]; decide)
    have g'2 := (jn @h1 (jn @h1d (jn @int_bne (jn @int_beq g'1))))
    refine runTf g'2 ?_
    refine hQ _ _ (end_byG (.inl rfl) hbel (x1 := .tup [.sl none 0 (some 0), .int .i64 (if (validB x y l) = true then 0 else 1)]) (l2 := [.cells false 2 []]) (.tup [.sl (some (H.length, 0)) 0 (some 0), .int .i64 (if (validB x y l) = true then 0 else 1)]) (resT Tryz.results18) [.cells false 2 []] rfl [2] (by decide) ⟨by first | (rw [hfinL, hfinE, if_neg hv0]; rfl) | (rw [hfinL, hfinE]; rfl) | (rw [hfinT, hfinE]; done) | (rw [hfinT, hfinE]; rfl), by first | (rw [hfinT]; done) | (rw [hfinT]; rfl) | (rw [hfinL]; rfl)⟩ ?_)
    exact absW
  · have h1d := bsT h1
    have hv0 : validB x y l = true := by simpa using h1d
    have hbb := bnd_bd hv0
    have hfinC : touC x y l = touQ x y l := if_pos hv0
    have hEE : touE x y l = touF x y l := if_pos hv0
    have g'3 := (jn @h1 (jn @h1d (jn @int_bne (jn @int_beq g'1))))
    refine runTf g'3 ?_
    refine call_d (by kernel_rfl) (bfloor_c _ (ifv (validB x y l) (x - spr (1, 0) l)) 2 (by omega) (by omega)) ?_
    refine runTf g'3 ?_
    refine call_d (by kernel_rfl) (bfloor_c _ (ifv (validB x y l) (y - spr (0, 1) l)) 2 (by omega) (by omega)) ?_
    refine runTf g'3 ?_
    refine call_d (by kernel_rfl) (bfloor2_c _ (ifv (validB x y l) (x + spr (1, 0) l)) (by omega)) ?_
    refine runTf g'3 ?_
    refine call_d (by kernel_rfl) (bfloor2_c _ (ifv (validB x y l) (y + spr (0, 1) l)) (by omega)) ?_
    refine runTf g'3 ?_
    refine call_x (by kernel_rfl) (by simp) (rcellsq_c _ x y l) ?_
    refine runTf g'3 ?_
    refine cond_split (fun h2 => ?_) (fun h2 => ?_)
    · have h2d := bsT h2
      have hne : ¬ touE x y l = 0 := by rw [hEE]; simpa using h2d
      have hfinE := hEE
      have hfinC2 : touC x y l = [] := by rw [hfinC]; exact if_neg (show ¬ touF x y l = 0 by rw [← hEE]; exact hne)
      have hfinL : touL x y l = [] := if_neg hne
      have g'4 := (jn @h2 (jn @h2d g'3))
      refine runTf g'4 ?_
      refine hQ _ _ (end_byG (.inl rfl) hbel (x1 := .tup [.sl none 0 (some 0), .int .i64 (touF x y l)]) (l2 := [.cells false 2 []]) (.tup [.sl (some (H.length, 0)) 0 (some 0), .int .i64 (touF x y l)]) (resT Tryz.results18) [.cells false 2 []] rfl [3] (by decide) ⟨by first | (rw [hfinL, hfinE, if_neg hv0]; rfl) | (rw [hfinL, hfinE]; rfl) | (rw [hfinT, hfinE]; done) | (rw [hfinT, hfinE]; rfl), by first | (rw [hfinT]; done) | (rw [hfinT]; rfl) | (rw [hfinL]; rfl)⟩ ?_)
      exact absW
    · have h2d := bsT h2
      have hfinE : touE x y l = 0 := by rw [hEE]; simpa using h2d
      have hfinL : touL x y l = delL (apP x y l) (touC x y l) := if_pos hfinE
      have g'5 := (jn @h2 (jn @h2d g'3))
      refine runTf g'5 ?_
      refine go_loop try_mixed (by kernel_rfl) (fun k F Hx => ∃ i : Nat, i + k = (touQ x y l).length ∧ F = [(1, .ptr (some (H.length, 0))), (6, .sl (some (H.length + 1, 0)) ((touQ x y l).length) (capG (touQ x y l).length)), (7, .sl (some (H.length + 2, 0)) ((delL (apP x y l) ((touQ x y l).take i)).length) (capG (delL (apP x y l) ((touQ x y l).take i)).length)), (8, .int .i64 ((i : Nat) : Int))] ∧ Hx = H ++ [.cells true 0 [.int .i64 x, .int .i64 y, .sl (some (bs, 0)) l.length cs], .cells (ownG (touQ x y l).length) 2 (prs (touQ x y l)), .cells (ownG (delL (apP x y l) ((touQ x y l).take i)).length) 2 (prs (delL (apP x y l) ((touQ x y l).take i)))]) ((touQ x y l).length) ?_ ?_
      · refine ⟨_, _, _, ⟨0, by omega, rfl, rfl⟩, Abs.byG hbel [.cells false 2 []] rfl [0, 2, 3] (by decide) ?_⟩
        exact absRf (jn @List.take_zero.{0} @delL_nil)
      · rintro k0 F Hx ⟨i, hm0, rfl, rfl⟩ J0 hJ0
        have g'6 := (jn @prs_len (jn @prs_one g'5))
        refine runTf g'6 ?_
        refine cond_split (fun h3 => ?_) (fun h3 => ?_)
        · have h3d := bsT h3
          have hlt : i < (touQ x y l).length := by omega
          have hpr := pr_eq hlt
          have hst := delL_step (p := apP x y l) hlt
          have hcb := touQ_bd _ (List.getElem_mem hlt)
          rw [← hpr] at hcb
          have hll := touQ_len x y l
          have hdl := delL_tk (p := apP x y l) (l := touQ x y l) (j := i) (by omega)
          have q4 := prs_load (l := touQ x y l) (j := i) (by omega)
          have g'7 := (jn @h3 (jn @h3d (jn @q4 g'6)))
          refine runTf g'7 ?_
          refine call_d (by kernel_rfl) (bsquare_c _ (g1 (touQ x y l) i) (g2 (touQ x y l) i) (by omega) (by omega)) ?_
          refine runTf g'7 ?_
          refine call_d (by kernel_rfl) (rapart_a _ x y _ l ((g1 (touQ x y l) i) * 64) ((g2 (touQ x y l) i) * 64) ((g1 (touQ x y l) i) * 64 + 64) ((g2 (touQ x y l) i) * 64 + 64) ⟨_, _, _, rfl, by first | exact hb0s _ | exact hbs⟩ (by omega)) ?_
          refine runTf g'7 ?_
          refine cond_split (fun h5 => ?_) (fun h5 => ?_)
          · have h5d := bsT h5
            have hap := h5d
            rw [ap_eq, hpr] at hap
            rw [if_neg (by rw [hap]; decide), ← hpr] at hst
            have q6 := prs_load (l := touQ x y l) (j := i) (by omega)
            have g'8 := (jn @h5 (jn @h5d (jn @q6 (jn @capG_s g'7))))
            refine runTf g'8 ?_
            refine hJ0 _ _ ⟨k0 - 1, by omega, _, _, _, ⟨i + 1, by omega, rfl, rfl⟩, Abs.byG hbel [] rfl [0, 1, 4] (by decide) ?_⟩
            exact absRf (jn @hst (jn @h1d @h2d))
          · have h5d := bsT h5
            have hap := h5d
            rw [ap_eq, hpr] at hap
            rw [if_pos hap, List.append_nil] at hst
            have g'9 := (jn @h5 (jn @h5d g'7))
            refine runTf g'9 ?_
            refine hJ0 _ _ ⟨k0 - 1, by omega, _, _, _, ⟨i + 1, by omega, rfl, rfl⟩, Abs.byG hbel [] rfl [0, 1, 2] (by decide) ?_⟩
            exact absRf (jn @hst (jn @h1d @h2d))
        · have h3d := bsT h3
          obtain rfl : i = (touQ x y l).length := by omega
          have hfinT : delL (apP x y l) ((touQ x y l).take (touQ x y l).length) = touL x y l := by rw [hfinL, hfinC, List.take_length]
          have g'10 := (jn @h3 (jn @h3d g'6))
          refine runTf g'10 ?_
          refine hQ _ _ (end_byG (.inl rfl) hbel (x1 := .tup [.sl (some (H.length + 2, 0)) ((delL (apP x y l) ((touQ x y l).take (touQ x y l).length)).length) (capG (delL (apP x y l) ((touQ x y l).take (touQ x y l).length)).length), .int .i64 0]) (l2 := [.cells (ownG (delL (apP x y l) ((touQ x y l).take (touQ x y l).length)).length) 2 (prs (delL (apP x y l) ((touQ x y l).take (touQ x y l).length)))]) (.tup [.sl (some (H.length, 0)) ((delL (apP x y l) ((touQ x y l).take (touQ x y l).length)).length) (capG (delL (apP x y l) ((touQ x y l).take (touQ x y l).length)).length), .int .i64 0]) (resT Tryz.results18) [] rfl [2] (by decide) ⟨by first | (rw [hfinL, hfinE, if_neg hv0]; rfl) | (rw [hfinL, hfinE]; rfl) | (rw [hfinT, hfinE]; done) | (rw [hfinT, hfinE]; rfl), by first | (rw [hfinT]; done) | (rw [hfinT]; rfl) | (rw [hfinL]; rfl)⟩ ?_)
          exact absW
open Go.RowKit
theorem rofsq_0 (H : AHeap) (a : Int) (ha : 0 ≤ a ∧ a ≤ 1000) : ACalls Tryz.prog 58 [.agg [.int .i64 (0 - a), .int .i64 (0 - a), .int .i64 a, .int .i64 a]] H (fun v H' => v = .tup [.agg [.int .i64 0, .int .i64 0, .sl (some (H.length, 0)) (canonL (sqrL a)).length (capG (canonL (sqrL a)).length)], .int .i64 0] ∧ H' = H ++ [.cells (ownG (canonL (sqrL a)).length) 2 (prs (canonL (sqrL a)))]) := by
  have k := rofrect_0 H (0 - a) (0 - a) a a (if_pos ⟨by unfold far4; simp only [Bool.and_eq_true, within_iff]; omega, by omega, by omega, by omega, by omega⟩)
  rw [show (0 : Int) - a + a = 0 by omega] at k
  exact k
theorem rect4_c (H : AHeap) (x0 : Int) (y0 : Int) (x1 : Int) (y1 : Int) : ACalls Tryz.prog 56 [.agg [.int .i64 x0, .int .i64 y0, .int .i64 x1, .int .i64 y1]] H (fun v H' => v = .bool (recB x0 y0 x1 y1) ∧ H' = H) := by
  refine AcT true Tryz.func56 ?_; intro hbel Q hQ
  refine runT ?_
  refine call_v (by kernel_rfl) (bpoint_c _ x0 y0) ?_
  refine runT ?_
  refine gd_split (fun h1 => ?_) (fun h1 => ?_)
  · have h1d := bsT h1
    have hwa := h1d
    simp only [within_iff] at hwa
    have g'1 := (jn @h1 @h1d)
    refine runTf g'1 ?_
    refine call_v (by kernel_rfl) (bpoint_c _ x1 y1) ?_
    refine runTf g'1 ?_
    refine gd_split (fun h2 => ?_) (fun h2 => ?_)
    · have h2d := bsT h2
      have hwb := h2d
      simp only [within_iff] at hwb
      have g'2 := (jn @h2 (jn @h2d g'1))
      refine runTf g'2 ?_
      refine gd_split (fun h3 => ?_) (fun h3 => ?_)
      · have h3d := bsT h3
        have g'3 := (jn @h3 (jn @h3d g'2))
        refine runTf g'3 ?_
        refine gd_split (fun h4 => ?_) (fun h4 => ?_)
        · have h4d := bsT h4
          have g'4 := (jn @h4 (jn @h4d g'3))
          refine runTf g'4 ?_
          refine gd_split (fun h5 => ?_) (fun h5 => ?_)
          · have h5d := bsT h5
            have g'5 := (jn @h5 (jn @h5d g'4))
            refine runTf g'5 ?_
            exact hQ _ _ (end_plain (.inl rfl) hbel (x := .bool (decide ((y1 - y0) ≤ 32768))) (resT Tryz.results56) rfl ⟨by first | (simp [recB, h1d, h2d, h3d, h4d, h5d]; done) | (simp [recB, h1d, h2d, h3d, h4d, h5d]; intros; simp_all; done) | (simp [recB, h1d, h2d, h3d, h4d, h5d]; intros; simp_all; omega), rfl⟩)
          · have h5d := bsT h5
            have g'6 := (jn @h5 (jn @h5d g'4))
            refine runTf g'6 ?_
            exact hQ _ _ (end_plain (.inl rfl) hbel (x := .bool false) (resT Tryz.results56) rfl ⟨by first | (simp [recB, h1d, h2d, h3d, h4d, h5d]; done) | (simp [recB, h1d, h2d, h3d, h4d, h5d]; intros; simp_all; done) | (simp [recB, h1d, h2d, h3d, h4d, h5d]; intros; simp_all; omega), rfl⟩)
        · have h4d := bsT h4
          have g'7 := (jn @h4 (jn @h4d g'3))
          refine runTf g'7 ?_
          exact hQ _ _ (end_plain (.inl rfl) hbel (x := .bool false) (resT Tryz.results56) rfl ⟨by first | (simp [recB, h1d, h2d, h3d, h4d]; done) | (simp [recB, h1d, h2d, h3d, h4d]; intros; simp_all; done) | (simp [recB, h1d, h2d, h3d, h4d]; intros; simp_all; omega), rfl⟩)
      · have h3d := bsT h3
        have g'8 := (jn @h3 (jn @h3d g'2))
        refine runTf g'8 ?_
        exact hQ _ _ (end_plain (.inl rfl) hbel (x := .bool false) (resT Tryz.results56) rfl ⟨by first | (simp [recB, h1d, h2d, h3d]; done) | (simp [recB, h1d, h2d, h3d]; intros; simp_all; done) | (simp [recB, h1d, h2d, h3d]; intros; simp_all; omega), rfl⟩)
    · have h2d := bsT h2
      have g'9 := (jn @h2 (jn @h2d g'1))
      refine runTf g'9 ?_
      exact hQ _ _ (end_plain (.inl rfl) hbel (x := .bool false) (resT Tryz.results56) rfl ⟨by first | (simp [recB, h1d, h2d]; done) | (simp [recB, h1d, h2d]; intros; simp_all; done) | (simp [recB, h1d, h2d]; intros; simp_all; omega), rfl⟩)
  · have h1d := bsT h1
    have g'10 := (jn @h1 @h1d)
    refine runTf g'10 ?_
    exact hQ _ _ (end_plain (.inl rfl) hbel (x := .bool false) (resT Tryz.results56) rfl ⟨by first | (simp [recB, h1d]; done) | (simp [recB, h1d]; intros; simp_all; done) | (simp [recB, h1d]; intros; simp_all; omega), rfl⟩)
theorem rsweep_c (H : AHeap) (x0 : Int) (y0 : Int) (x1 : Int) (y1 : Int) (h : Int) (t : Int) (f : Int) (tu : Int) (le : Int) (sl : Int) (ra : Int) : ACalls Tryz.prog 14 [.agg [.int .i64 x0, .int .i64 y0, .int .i64 x1, .int .i64 y1], .int .i64 h, .agg [.int .i64 t, .int .i64 f], .agg [.int .i64 tu, .int .i64 le, .int .i64 sl, .int .i64 ra]] H (fun v H' => v = .tup [.agg [.int .i64 (mkX (sweE x0 y0 x1 y1 h t f tu le sl ra) (sweX x0 x1 h f le)), .int .i64 (mkX (sweE x0 y0 x1 y1 h t f tu le sl ra) (sweY y0 y1 h f le)), .sl (some (H.length, 0)) ((mkL (sweE x0 y0 x1 y1 h t f tu le sl ra) (sweL x0 y0 x1 y1 h f le sl)).length) (capG (mkL (sweE x0 y0 x1 y1 h t f tu le sl ra) (sweL x0 y0 x1 y1 h f le sl)).length)], .int .i64 (sweE x0 y0 x1 y1 h t f tu le sl ra)] ∧ H' = H ++ [.cells (ownG (mkL (sweE x0 y0 x1 y1 h t f tu le sl ra) (sweL x0 y0 x1 y1 h f le sl)).length) 2 (prs (mkL (sweE x0 y0 x1 y1 h t f tu le sl ra) (sweL x0 y0 x1 y1 h f le sl)))]) := by
  have hwx : (f + le) * (dirV h).1 / (dirV h).2.2 = wayX h (f + le) := rfl
  have hwy : (f + le) * (dirV h).2.1 / (dirV h).2.2 = wayY h (f + le) := rfl
  refine AcT false Tryz.func14 ?_; intro hbel Q hQ
  have g'11 := (jn @hwx @hwy)
  refine runTf g'11 ?_
  refine call_v (by kernel_rfl) (rect4_c _ x0 y0 x1 y1) ?_
  refine runTf g'11 ?_
  refine gd_split (fun h1 => ?_) (fun h1 => ?_)
  · have h1d := bsT h1
    have g'12 := (jn @h1 (jn @h1d g'11))
    refine runTf g'12 ?_
    refine call_v (by kernel_rfl) (bcmd_c _ t f) ?_
    refine runTf g'12 ?_
    refine gd_split (fun h2 => ?_) (fun h2 => ?_)
    · have h2d := bsT h2
      have g'13 := (jn @h2 (jn @h2d g'12))
      refine runTf g'13 ?_
      refine call_v (by kernel_rfl) (bbnd_c _ tu le sl ra) ?_
      refine runTf g'13 ?_
      refine cond_split (fun h3 => ?_) (fun h3 => ?_)
      · have h3d := bsT h3
        have g'14 := (jn @h3 (jn @h3d g'13))
        refine runTf g'14 ?_
        refine hQ _ _ (end_byG (.inl rfl) hbel (x1 := .tup [.agg [.int .i64 0, .int .i64 0, .sl none 0 (some 0)], .int .i64 1]) (l2 := [.cells false 2 []]) (.tup [.agg [.int .i64 0, .int .i64 0, .sl (some (H.length, 0)) 0 (some 0)], .int .i64 1]) (resT Tryz.results14) [.cells false 2 []] rfl [4] (by decide) ⟨by first | (simp [mkX, mkL, sweE, sweB_eq, capG_0, ownG_0, prs_nil, h1d, h2d, h3d]; done) | (simp [mkX, mkL, sweE, hok, btw_h, capG_0, ownG_0, prs_nil, h1d, h2d, h3d]; done) | (rw [hfinE]; simp only [mkX_0, mkL_0, sweX, sweY, sweL, wayL, hlf, hfinF, if_true, if_false, sw_eq00, Int.add_zero]; done) | (rw [hfinE]; simp only [mkX_0, mkL_0, sweX, sweY, sweL, wayL, hlf, hfinF, if_true, if_false, sw_eq, Int.add_zero]; done), by first | (simp [mkX, mkL, sweE, sweB_eq, capG_0, ownG_0, prs_nil, h1d, h2d, h3d]; done) | (simp [mkX, mkL, sweE, hok, btw_h, capG_0, ownG_0, prs_nil, h1d, h2d, h3d]; done) | (rw [hfinE]; simp only [mkX_0, mkL_0, sweX, sweY, sweL, wayL, hlf, hfinF, if_true, if_false, sw_eq00, Int.add_zero]; done) | (rw [hfinE]; simp only [mkX_0, mkL_0, sweX, sweY, sweL, wayL, hlf, hfinF, if_true, if_false, sw_eq, Int.add_zero]; done)⟩ ?_)
        exact absW
      · have h3d := bsT h3
        have hok : sweB x0 y0 x1 y1 t f tu le sl ra = true := by rw [sweB_eq]; simp [*]
        have hbd := swe_bd hok
        have hre : rectE x0 y0 x1 y1 = 0 := if_pos ⟨by unfold far4; simp only [Bool.and_eq_true, within_iff]; omega, by omega, by omega, by omega, by omega⟩
        have hrs := rec_spr (x0 := x0) (y0 := y0) (x1 := x1) (y1 := y1) (by omega) (by omega)
        have hq1 := sqr_spr (a := 20) (by omega)
        have hq2 := sqr_spr (a := sl + 21) (by omega)
        have hl1 := canonL_len (recL x0 y0 x1 y1)
        have hl2 : (recL x0 y0 x1 y1).length = 2 := rfl
        have g'15 := (jn @h3 (jn @h3d g'13))
        refine runTf g'15 ?_
        refine gd_split (fun h4 => ?_) (fun h4 => ?_)
        · have h4d := bsT h4
          have g'16 := (jn @h4 (jn @h4d g'15))
          refine runTf g'16 ?_
          refine cond_split (fun h5 => ?_) (fun h5 => ?_)
          · have h5d := bsT h5
            have g'17 := (jn @h5 (jn @h5d g'16))
            refine runTf g'17 ?_
            refine hQ _ _ (end_byG (.inl rfl) hbel (x1 := .tup [.agg [.int .i64 0, .int .i64 0, .sl none 0 (some 0)], .int .i64 2]) (l2 := [.cells false 2 []]) (.tup [.agg [.int .i64 0, .int .i64 0, .sl (some (H.length, 0)) 0 (some 0)], .int .i64 2]) (resT Tryz.results14) [.cells false 2 []] rfl [4] (by decide) ⟨by first | (simp [mkX, mkL, sweE, sweB_eq, capG_0, ownG_0, prs_nil, h1d, h2d, h3d, h4d, h5d]; done) | (simp [mkX, mkL, sweE, hok, btw_h, capG_0, ownG_0, prs_nil, h1d, h2d, h3d, h4d, h5d]; done) | (rw [hfinE]; simp only [mkX_0, mkL_0, sweX, sweY, sweL, wayL, hlf, hfinF, if_true, if_false, sw_eq00, Int.add_zero]; done) | (rw [hfinE]; simp only [mkX_0, mkL_0, sweX, sweY, sweL, wayL, hlf, hfinF, if_true, if_false, sw_eq, Int.add_zero]; done), by first | (simp [mkX, mkL, sweE, sweB_eq, capG_0, ownG_0, prs_nil, h1d, h2d, h3d, h4d, h5d]; done) | (simp [mkX, mkL, sweE, hok, btw_h, capG_0, ownG_0, prs_nil, h1d, h2d, h3d, h4d, h5d]; done) | (rw [hfinE]; simp only [mkX_0, mkL_0, sweX, sweY, sweL, wayL, hlf, hfinF, if_true, if_false, sw_eq00, Int.add_zero]; done) | (rw [hfinE]; simp only [mkX_0, mkL_0, sweX, sweY, sweL, wayL, hlf, hfinF, if_true, if_false, sw_eq, Int.add_zero]; done)⟩ ?_)
            exact absW
          · have h5d := bsT h5
            have hfinE : sweE x0 y0 x1 y1 h t f tu le sl ra = 0 := by unfold sweE; rw [hok, show btw h 0 255 = true from btw_iff.2 (by omega)]; rfl
            have g'18 := (jn @h5 (jn @h5d g'16))
            refine runTf g'18 ?_
            refine cond_split (fun h6 => ?_) (fun h6 => ?_)
            · have h6d := bsT h6
              have hfinF : f = 0 := h6d
              have hs00 : spr (1, 0) [(0, 0)] = 0 ∧ spr (0, 1) [(0, 0)] = 0 := ⟨rfl, rfl⟩
              have hwe : segE 0 0 0 0 = 0 := rfl
              have hz1 : sumE (x0 + x1) (y0 + y1) (canonL (recL x0 y0 x1 y1)) 0 0 (canonL [(0, 0)]) = 0 := sum_ok (by omega) (by omega) (by omega) (by omega) (by simp [recL]) (by omega) (by omega)
              have hz2 : sumE (x0 + x1 + 0) (y0 + y1 + 0) (canonL (canonL (recL x0 y0 x1 y1) ++ canonL [(0, 0)])) 0 0 (canonL (sqrL 20)) = 0 := sum_ok (by omega) (by omega) (by omega) (by omega) (by have a1 := canonL_len (recL x0 y0 x1 y1); have a2 := canonL_len [(0, 0)]; have a3 : (recL x0 y0 x1 y1).length = 2 := rfl; have a4 : (sqrL 20).length = 2 := rfl; rw [List.length_append]; simp only [List.length_cons, List.length_nil] at a2; omega) (by rw [spr_app, spr_canon, spr_canon]; omega) (by rw [spr_app, spr_canon, spr_canon]; omega)
              have hl3 := canonL_len [(0, 0)]
              simp only [List.length_cons, List.length_nil] at hl3
              have hl4 := canonL_len (canonL (recL x0 y0 x1 y1) ++ canonL [(0, 0)])
              rw [List.length_append] at hl4
              have hl5 := canonL_len (sqrL 20)
              have hl6 : (sqrL 20).length = 2 := rfl
              have g'19 := (jn @h6 (jn @h6d (jn @int_bne (jn @int_beq g'18))))
              refine runTf g'19 ?_
              refine call_v (by kernel_rfl) (rofrect_0 _ x0 y0 x1 y1 (by assumption)) ?_
              refine runTf g'19 ?_
              refine call_v (by kernel_rfl) (rofway_0 _ 0 0 (by assumption)) ?_
              refine runTf g'19 ?_
              refine call_v (by kernel_rfl) (rofsq_0 _ 20 (by omega)) ?_
              refine runTf g'19 ?_
              refine call_v (by kernel_rfl) (rSum_0 _ (x0 + x1) (y0 + y1) _ (canonL (recL x0 y0 x1 y1)) 0 0 _ (canonL [(0, 0)]) ⟨_, _, _, by first | rfl | (rw [List.length_append]; done) | (rw [List.length_append]; rfl), by first | rfl | (rw [get_newk]; rfl) | (rw [get_new0]; rfl) | (rw [get_newk, prs_append]; rfl) | (rw [get_new0, prs_append]; rfl)⟩ ⟨_, _, _, by first | rfl | (rw [List.length_append]; done) | (rw [List.length_append]; rfl), by first | rfl | (rw [get_newk]; rfl) | (rw [get_new0]; rfl) | (rw [get_newk, prs_append]; rfl) | (rw [get_new0, prs_append]; rfl)⟩ (by omega) (by omega) (by assumption)) ?_
              refine runTf g'19 ?_
              refine call_v (by kernel_rfl) (rSum_0 _ ((x0 + x1) + 0) ((y0 + y1) + 0) _ (canonL ((canonL (recL x0 y0 x1 y1)) ++ (canonL [(0, 0)]))) 0 0 _ (canonL (sqrL 20)) ⟨_, _, _, by first | rfl | (rw [List.length_append]; done) | (rw [List.length_append]; rfl), by first | rfl | (rw [get_newk]; rfl) | (rw [get_new0]; rfl) | (rw [get_newk, prs_append]; rfl) | (rw [get_new0, prs_append]; rfl)⟩ ⟨_, _, _, by first | rfl | (rw [List.length_append]; done) | (rw [List.length_append]; rfl), by first | rfl | (rw [get_newk]; rfl) | (rw [get_new0]; rfl) | (rw [get_newk, prs_append]; rfl) | (rw [get_new0, prs_append]; rfl)⟩ (by omega) (by omega) (by assumption)) ?_
              refine runTf g'19 ?_
              refine hQ _ _ (end_byG (.inl rfl) hbel (x1 := .tup [.agg [.int .i64 (((x0 + x1) + 0) + 0), .int .i64 (((y0 + y1) + 0) + 0), .sl (some (H.length + 12, 0)) ((canonL ((canonL ((canonL (recL x0 y0 x1 y1)) ++ (canonL [(0, 0)]))) ++ (canonL (sqrL 20)))).length) (capG (canonL ((canonL ((canonL (recL x0 y0 x1 y1)) ++ (canonL [(0, 0)]))) ++ (canonL (sqrL 20)))).length)], .int .i64 0]) (l2 := [.cells (ownG (canonL ((canonL ((canonL (recL x0 y0 x1 y1)) ++ (canonL [(0, 0)]))) ++ (canonL (sqrL 20)))).length) 2 (prs (canonL ((canonL ((canonL (recL x0 y0 x1 y1)) ++ (canonL [(0, 0)]))) ++ (canonL (sqrL 20)))))]) (.tup [.agg [.int .i64 (((x0 + x1) + 0) + 0), .int .i64 (((y0 + y1) + 0) + 0), .sl (some (H.length, 0)) ((canonL ((canonL ((canonL (recL x0 y0 x1 y1)) ++ (canonL [(0, 0)]))) ++ (canonL (sqrL 20)))).length) (capG (canonL ((canonL ((canonL (recL x0 y0 x1 y1)) ++ (canonL [(0, 0)]))) ++ (canonL (sqrL 20)))).length)], .int .i64 0]) (resT Tryz.results14) [] rfl [12] (by decide) ⟨by first | (simp [mkX, mkL, sweE, sweB_eq, capG_0, ownG_0, prs_nil, h1d, h2d, h3d, h4d, h5d, h6d, hfinE, hfinF]; done) | (simp [mkX, mkL, sweE, hok, btw_h, capG_0, ownG_0, prs_nil, h1d, h2d, h3d, h4d, h5d, h6d, hfinE, hfinF]; done) | (rw [hfinE]; simp only [mkX_0, mkL_0, sweX, sweY, sweL, wayL, hlf, hfinF, if_true, if_false, sw_eq00, Int.add_zero]; done) | (rw [hfinE]; simp only [mkX_0, mkL_0, sweX, sweY, sweL, wayL, hlf, hfinF, if_true, if_false, sw_eq, Int.add_zero]; done), by first | (simp [mkX, mkL, sweE, sweB_eq, capG_0, ownG_0, prs_nil, h1d, h2d, h3d, h4d, h5d, h6d, hfinE, hfinF]; done) | (simp [mkX, mkL, sweE, hok, btw_h, capG_0, ownG_0, prs_nil, h1d, h2d, h3d, h4d, h5d, h6d, hfinE, hfinF]; done) | (rw [hfinE]; simp only [mkX_0, mkL_0, sweX, sweY, sweL, wayL, hlf, hfinF, if_true, if_false, sw_eq00, Int.add_zero]; done) | (rw [hfinE]; simp only [mkX_0, mkL_0, sweX, sweY, sweL, wayL, hlf, hfinF, if_true, if_false, sw_eq, Int.add_zero]; done)⟩ ?_)
              exact absW
            · have h6d := bsT h6
              have hfinF : ¬ f = 0 := h6d
              have hdv := vecOK_iff.1 (dirV_ok h)
              have hpx := mul_bd (a := f + le) (b := (dirV h).1) (A := 48) (B := 8065) (by omega) (by omega)
              have hpy := mul_bd (a := f + le) (b := (dirV h).2.1) (A := 48) (B := 8065) (by omega) (by omega)
              have hwb := way_bd h (m := f + le) (by omega)
              have hws := way_spr (h := h) (m := f + le) (by omega)
              have hwe : segE 0 0 (wayX h (f + le)) (wayY h (f + le)) = 0 := if_pos ⟨by unfold far4; simp only [Bool.and_eq_true, within_iff]; omega, by rw [within_iff]; omega, by rw [within_iff]; omega⟩
              have hz1 : sumE (x0 + x1) (y0 + y1) (canonL (recL x0 y0 x1 y1)) (wayX h (f + le)) (wayY h (f + le)) (canonL [(wayX h (f + le), wayY h (f + le))]) = 0 := sum_ok (by omega) (by omega) (by omega) (by omega) (by simp [recL]) (by omega) (by omega)
              have hz2 : sumE (x0 + x1 + wayX h (f + le)) (y0 + y1 + wayY h (f + le)) (canonL (canonL (recL x0 y0 x1 y1) ++ canonL [(wayX h (f + le), wayY h (f + le))])) 0 0 (canonL (sqrL (sl + 21))) = 0 := sum_ok (by omega) (by omega) (by omega) (by omega) (by have a1 := canonL_len (recL x0 y0 x1 y1); have a2 := canonL_len [(wayX h (f + le), wayY h (f + le))]; have a3 : (recL x0 y0 x1 y1).length = 2 := rfl; have a4 : (sqrL (sl + 21)).length = 2 := rfl; rw [List.length_append]; simp only [List.length_cons, List.length_nil] at a2; omega) (by rw [spr_app, spr_canon, spr_canon]; omega) (by rw [spr_app, spr_canon, spr_canon]; omega)
              have hl3 := canonL_len [(wayX h (f + le), wayY h (f + le))]
              simp only [List.length_cons, List.length_nil] at hl3
              have hl4 := canonL_len (canonL (recL x0 y0 x1 y1) ++ canonL [(wayX h (f + le), wayY h (f + le))])
              rw [List.length_append] at hl4
              have hl5 := canonL_len (sqrL (sl + 21))
              have hl6 : (sqrL (sl + 21)).length = 2 := rfl
              have g'20 := (jn @h6 (jn @h6d (jn @int_bne (jn @int_beq g'18))))
              refine runTf g'20 ?_
              refine call_v (by kernel_rfl) (rdir_c _ h) ?_
              refine runTf g'20 ?_
              refine call_d (by kernel_rfl) (bfloor_c _ ((f + le) * ((dirV h).1)) ((dirV h).2.2) (by omega) (by omega)) ?_
              refine runTf g'20 ?_
              refine call_d (by kernel_rfl) (bfloor_c _ ((f + le) * ((dirV h).2.1)) ((dirV h).2.2) (by omega) (by omega)) ?_
              refine runTf g'20 ?_
              refine call_v (by kernel_rfl) (rofrect_0 _ x0 y0 x1 y1 (by assumption)) ?_
              refine runTf g'20 ?_
              refine call_v (by kernel_rfl) (rofway_0 _ (wayX h (f + le)) (wayY h (f + le)) (by assumption)) ?_
              refine runTf g'20 ?_
              refine call_v (by kernel_rfl) (rofsq_0 _ (sl + 21) (by omega)) ?_
              refine runTf g'20 ?_
              refine call_v (by kernel_rfl) (rSum_0 _ (x0 + x1) (y0 + y1) _ (canonL (recL x0 y0 x1 y1)) (wayX h (f + le)) (wayY h (f + le)) _ (canonL [((wayX h (f + le)), (wayY h (f + le)))]) ⟨_, _, _, by first | rfl | (rw [List.length_append]; done) | (rw [List.length_append]; rfl), by first | rfl | (rw [get_newk]; rfl) | (rw [get_new0]; rfl) | (rw [get_newk, prs_append]; rfl) | (rw [get_new0, prs_append]; rfl)⟩ ⟨_, _, _, by first | rfl | (rw [List.length_append]; done) | (rw [List.length_append]; rfl), by first | rfl | (rw [get_newk]; rfl) | (rw [get_new0]; rfl) | (rw [get_newk, prs_append]; rfl) | (rw [get_new0, prs_append]; rfl)⟩ (by omega) (by omega) (by assumption)) ?_
              refine runTf g'20 ?_
              refine call_v (by kernel_rfl) (rSum_0 _ ((x0 + x1) + (wayX h (f + le))) ((y0 + y1) + (wayY h (f + le))) _ (canonL ((canonL (recL x0 y0 x1 y1)) ++ (canonL [((wayX h (f + le)), (wayY h (f + le)))]))) 0 0 _ (canonL (sqrL (sl + 21))) ⟨_, _, _, by first | rfl | (rw [List.length_append]; done) | (rw [List.length_append]; rfl), by first | rfl | (rw [get_newk]; rfl) | (rw [get_new0]; rfl) | (rw [get_newk, prs_append]; rfl) | (rw [get_new0, prs_append]; rfl)⟩ ⟨_, _, _, by first | rfl | (rw [List.length_append]; done) | (rw [List.length_append]; rfl), by first | rfl | (rw [get_newk]; rfl) | (rw [get_new0]; rfl) | (rw [get_newk, prs_append]; rfl) | (rw [get_new0, prs_append]; rfl)⟩ (by omega) (by omega) (by assumption)) ?_
              refine runTf g'20 ?_
              refine hQ _ _ (end_byG (.inl rfl) hbel (x1 := .tup [.agg [.int .i64 (((x0 + x1) + (wayX h (f + le))) + 0), .int .i64 (((y0 + y1) + (wayY h (f + le))) + 0), .sl (some (H.length + 13, 0)) ((canonL ((canonL ((canonL (recL x0 y0 x1 y1)) ++ (canonL [((wayX h (f + le)), (wayY h (f + le)))]))) ++ (canonL (sqrL (sl + 21))))).length) (capG (canonL ((canonL ((canonL (recL x0 y0 x1 y1)) ++ (canonL [((wayX h (f + le)), (wayY h (f + le)))]))) ++ (canonL (sqrL (sl + 21))))).length)], .int .i64 0]) (l2 := [.cells (ownG (canonL ((canonL ((canonL (recL x0 y0 x1 y1)) ++ (canonL [((wayX h (f + le)), (wayY h (f + le)))]))) ++ (canonL (sqrL (sl + 21))))).length) 2 (prs (canonL ((canonL ((canonL (recL x0 y0 x1 y1)) ++ (canonL [((wayX h (f + le)), (wayY h (f + le)))]))) ++ (canonL (sqrL (sl + 21))))))]) (.tup [.agg [.int .i64 (((x0 + x1) + (wayX h (f + le))) + 0), .int .i64 (((y0 + y1) + (wayY h (f + le))) + 0), .sl (some (H.length, 0)) ((canonL ((canonL ((canonL (recL x0 y0 x1 y1)) ++ (canonL [((wayX h (f + le)), (wayY h (f + le)))]))) ++ (canonL (sqrL (sl + 21))))).length) (capG (canonL ((canonL ((canonL (recL x0 y0 x1 y1)) ++ (canonL [((wayX h (f + le)), (wayY h (f + le)))]))) ++ (canonL (sqrL (sl + 21))))).length)], .int .i64 0]) (resT Tryz.results14) [] rfl [13] (by decide) ⟨by first | (simp [mkX, mkL, sweE, sweB_eq, capG_0, ownG_0, prs_nil, h1d, h2d, h3d, h4d, h5d, h6d, hfinE, hfinF]; done) | (simp [mkX, mkL, sweE, hok, btw_h, capG_0, ownG_0, prs_nil, h1d, h2d, h3d, h4d, h5d, h6d, hfinE, hfinF]; done) | (rw [hfinE]; simp only [mkX_0, mkL_0, sweX, sweY, sweL, wayL, hlf, hfinF, if_true, if_false, sw_eq00, Int.add_zero]; done) | (rw [hfinE]; simp only [mkX_0, mkL_0, sweX, sweY, sweL, wayL, hlf, hfinF, if_true, if_false, sw_eq, Int.add_zero]; done), by first | (simp [mkX, mkL, sweE, sweB_eq, capG_0, ownG_0, prs_nil, h1d, h2d, h3d, h4d, h5d, h6d, hfinE, hfinF]; done) | (simp [mkX, mkL, sweE, hok, btw_h, capG_0, ownG_0, prs_nil, h1d, h2d, h3d, h4d, h5d, h6d, hfinE, hfinF]; done) | (rw [hfinE]; simp only [mkX_0, mkL_0, sweX, sweY, sweL, wayL, hlf, hfinF, if_true, if_false, sw_eq00, Int.add_zero]; done) | (rw [hfinE]; simp only [mkX_0, mkL_0, sweX, sweY, sweL, wayL, hlf, hfinF, if_true, if_false, sw_eq, Int.add_zero]; done)⟩ ?_)
              exact absW
        · have h4d := bsT h4
          have g'21 := (jn @h4 (jn @h4d g'15))
          refine runTf g'21 ?_
          refine hQ _ _ (end_byG (.inl rfl) hbel (x1 := .tup [.agg [.int .i64 0, .int .i64 0, .sl none 0 (some 0)], .int .i64 2]) (l2 := [.cells false 2 []]) (.tup [.agg [.int .i64 0, .int .i64 0, .sl (some (H.length, 0)) 0 (some 0)], .int .i64 2]) (resT Tryz.results14) [.cells false 2 []] rfl [4] (by decide) ⟨by first | (simp [mkX, mkL, sweE, sweB_eq, capG_0, ownG_0, prs_nil, h1d, h2d, h3d, h4d]; done) | (simp [mkX, mkL, sweE, hok, btw_h, capG_0, ownG_0, prs_nil, h1d, h2d, h3d, h4d]; done) | (rw [hfinE]; simp only [mkX_0, mkL_0, sweX, sweY, sweL, wayL, hlf, hfinF, if_true, if_false, sw_eq00, Int.add_zero]; done) | (rw [hfinE]; simp only [mkX_0, mkL_0, sweX, sweY, sweL, wayL, hlf, hfinF, if_true, if_false, sw_eq, Int.add_zero]; done), by first | (simp [mkX, mkL, sweE, sweB_eq, capG_0, ownG_0, prs_nil, h1d, h2d, h3d, h4d]; done) | (simp [mkX, mkL, sweE, hok, btw_h, capG_0, ownG_0, prs_nil, h1d, h2d, h3d, h4d]; done) | (rw [hfinE]; simp only [mkX_0, mkL_0, sweX, sweY, sweL, wayL, hlf, hfinF, if_true, if_false, sw_eq00, Int.add_zero]; done) | (rw [hfinE]; simp only [mkX_0, mkL_0, sweX, sweY, sweL, wayL, hlf, hfinF, if_true, if_false, sw_eq, Int.add_zero]; done)⟩ ?_)
          exact absW
    · have h2d := bsT h2
      have g'22 := (jn @h2 (jn @h2d g'12))
      refine runTf g'22 ?_
      refine hQ _ _ (end_byG (.inl rfl) hbel (x1 := .tup [.agg [.int .i64 0, .int .i64 0, .sl none 0 (some 0)], .int .i64 1]) (l2 := [.cells false 2 []]) (.tup [.agg [.int .i64 0, .int .i64 0, .sl (some (H.length, 0)) 0 (some 0)], .int .i64 1]) (resT Tryz.results14) [.cells false 2 []] rfl [4] (by decide) ⟨by first | (simp [mkX, mkL, sweE, sweB_eq, capG_0, ownG_0, prs_nil, h1d, h2d]; done) | (simp [mkX, mkL, sweE, hok, btw_h, capG_0, ownG_0, prs_nil, h1d, h2d]; done) | (rw [hfinE]; simp only [mkX_0, mkL_0, sweX, sweY, sweL, wayL, hlf, hfinF, if_true, if_false, sw_eq00, Int.add_zero]; done) | (rw [hfinE]; simp only [mkX_0, mkL_0, sweX, sweY, sweL, wayL, hlf, hfinF, if_true, if_false, sw_eq, Int.add_zero]; done), by first | (simp [mkX, mkL, sweE, sweB_eq, capG_0, ownG_0, prs_nil, h1d, h2d]; done) | (simp [mkX, mkL, sweE, hok, btw_h, capG_0, ownG_0, prs_nil, h1d, h2d]; done) | (rw [hfinE]; simp only [mkX_0, mkL_0, sweX, sweY, sweL, wayL, hlf, hfinF, if_true, if_false, sw_eq00, Int.add_zero]; done) | (rw [hfinE]; simp only [mkX_0, mkL_0, sweX, sweY, sweL, wayL, hlf, hfinF, if_true, if_false, sw_eq, Int.add_zero]; done)⟩ ?_)
      exact absW
  · have h1d := bsT h1
    have g'23 := (jn @h1 (jn @h1d g'11))
    refine runTf g'23 ?_
    refine hQ _ _ (end_byG (.inl rfl) hbel (x1 := .tup [.agg [.int .i64 0, .int .i64 0, .sl none 0 (some 0)], .int .i64 1]) (l2 := [.cells false 2 []]) (.tup [.agg [.int .i64 0, .int .i64 0, .sl (some (H.length, 0)) 0 (some 0)], .int .i64 1]) (resT Tryz.results14) [.cells false 2 []] rfl [4] (by decide) ⟨by first | (simp [mkX, mkL, sweE, sweB_eq, capG_0, ownG_0, prs_nil, h1d]; done) | (simp [mkX, mkL, sweE, hok, btw_h, capG_0, ownG_0, prs_nil, h1d]; done) | (rw [hfinE]; simp only [mkX_0, mkL_0, sweX, sweY, sweL, wayL, hlf, hfinF, if_true, if_false, sw_eq00, Int.add_zero]; done) | (rw [hfinE]; simp only [mkX_0, mkL_0, sweX, sweY, sweL, wayL, hlf, hfinF, if_true, if_false, sw_eq, Int.add_zero]; done), by first | (simp [mkX, mkL, sweE, sweB_eq, capG_0, ownG_0, prs_nil, h1d]; done) | (simp [mkX, mkL, sweE, hok, btw_h, capG_0, ownG_0, prs_nil, h1d]; done) | (rw [hfinE]; simp only [mkX_0, mkL_0, sweX, sweY, sweL, wayL, hlf, hfinF, if_true, if_false, sw_eq00, Int.add_zero]; done) | (rw [hfinE]; simp only [mkX_0, mkL_0, sweX, sweY, sweL, wayL, hlf, hfinF, if_true, if_false, sw_eq, Int.add_zero]; done)⟩ ?_)
    exact absW
open Go.RowKit
theorem rsweepq_c (H : AHeap) (x0 y0 x1 y1 h t f tu le sl ra : Int) : ACalls Tryz.prog 14 [.agg [.int .i64 x0, .int .i64 y0, .int .i64 x1, .int .i64 y1], .int .i64 h, .agg [.int .i64 t, .int .i64 f], .agg [.int .i64 tu, .int .i64 le, .int .i64 sl, .int .i64 ra]] H (fun v H' => v = .tup [.agg [.int .i64 (swX x0 y0 x1 y1 h t f tu le sl ra), .int .i64 (swY x0 y0 x1 y1 h t f tu le sl ra), .sl (some (H.length, 0)) (swL x0 y0 x1 y1 h t f tu le sl ra).length (capG (swL x0 y0 x1 y1 h t f tu le sl ra).length)], .int .i64 (sweE x0 y0 x1 y1 h t f tu le sl ra)] ∧ H' = H ++ [.cells (ownG (swL x0 y0 x1 y1 h t f tu le sl ra).length) 2 (prs (swL x0 y0 x1 y1 h t f tu le sl ra))]) := rsweep_c H x0 y0 x1 y1 h t f tu le sl ra
theorem rtouchq_c (H : AHeap) (x0 y0 x1 y1 h t f tu le sl ra : Int) (s : AV) (hs : Sl H 2 s (swL x0 y0 x1 y1 h t f tu le sl ra).length (prs (swL x0 y0 x1 y1 h t f tu le sl ra))) : ACalls Tryz.prog 18 [.agg [.int .i64 (swX x0 y0 x1 y1 h t f tu le sl ra), .int .i64 (swY x0 y0 x1 y1 h t f tu le sl ra), s]] H (fun v H' => v = .tup [.sl (some (H.length, 0)) (stL x0 y0 x1 y1 h t f tu le sl ra).length (capG (stL x0 y0 x1 y1 h t f tu le sl ra).length), .int .i64 (stE x0 y0 x1 y1 h t f tu le sl ra)] ∧ H' = H ++ [.cells (ownG (stL x0 y0 x1 y1 h t f tu le sl ra).length) 2 (prs (stL x0 y0 x1 y1 h t f tu le sl ra))]) := rtouched_c H _ _ _ _ hs swL_le
theorem runh_c (H : AHeap) (W : Int) (Hh : Int) (pp : AV) (xs : List Int) (x0 : Int) (y0 : Int) (x1 : Int) (y1 : Int) (bf : Int) (bc : Int) (h : Int) (t : Int) (f : Int) (tu : Int) (le : Int) (sl : Int) (ra : Int) (hpp : Sl H 1 pp xs.length (ints .u8 xs)) (hV : vldB W Hh xs = true) : ACalls Tryz.prog 84 [.agg [.int .i64 W, .int .i64 Hh, pp], .agg [.int .i64 x0, .int .i64 y0, .int .i64 x1, .int .i64 y1, .int .i64 bf, .int .i64 bc], .int .i64 h, .agg [.int .i64 t, .int .i64 f], .agg [.int .i64 tu, .int .i64 le, .int .i64 sl, .int .i64 ra]] H (fun v H' => v = .bool (unhB W Hh xs x0 y0 x1 y1 h t f tu le sl ra) ∧ H' = H) := by
  obtain ⟨bpp, opp, cpp, rfl, hbpp⟩ := hpp
  have hblpp := getElem?_lt hbpp
  have hb0pp := fun l => get_app (l := l) hbpp
  refine AcT true Tryz.func84 ?_; intro hbel Q hQ
  have g'1 := (jn @hbpp @hb0pp)
  refine runTf g'1 ?_
  refine call_v (by kernel_rfl) (rsweepq_c _ x0 y0 x1 y1 h t f tu le sl ra) ?_
  refine runTf g'1 ?_
  refine cond_split (fun h1 => ?_) (fun h1 => ?_)
  · have h1d := bsT h1
    have h1n := bnT h1
    have hfinU : unhB W Hh xs x0 y0 x1 y1 h t f tu le sl ra = false := by unfold unhB; rw [decide_eq_false (by simpa using h1d)]; rfl
    have g'2 := (jn @h1 (jn @h1n (jn @int_bne (jn @int_beq g'1))))
    refine runTf g'2 ?_
    exact hQ _ _ (end_plain (.inl rfl) hbel (x := .bool false) (resT Tryz.results84) rfl ⟨by first | (rw [hfinU]; done) | (rw [hfinV]), rfl⟩)
  · have h1d := bsT h1
    have h1n := bnT h1
    have hsw : sweE x0 y0 x1 y1 h t f tu le sl ra = 0 := by simpa using h1d
    have g'3 := (jn @h1 (jn @h1n (jn @int_bne (jn @int_beq g'1))))
    refine runTf g'3 ?_
    refine call_v (by kernel_rfl) (rtouchq_c _ x0 y0 x1 y1 h t f tu le sl ra _ ⟨_, _, _, by first | rfl | (rw [List.length_append]; done) | (rw [List.length_append]; rfl), by first | rfl | (rw [get_newk]; rfl) | (rw [get_new0]; rfl) | (rw [get_newk, prs_append]; rfl) | (rw [get_new0, prs_append]; rfl)⟩) ?_
    refine runTf g'3 ?_
    refine go_loop try_mixed (by kernel_rfl) (fun k F Hx => ∃ i : Nat, i + k = (stL x0 y0 x1 y1 h t f tu le sl ra).length ∧ (∀ j : Nat, j < i → atI W Hh xs (g1 (stL x0 y0 x1 y1 h t f tu le sl ra) j) (g2 (stL x0 y0 x1 y1 h t f tu le sl ra) j) = 1) ∧ F = [(5, .ptr (some (H.length, 0))), (12, .int .i64 (stE x0 y0 x1 y1 h t f tu le sl ra)), (13, .sl (some (H.length + 1, 0)) ((stL x0 y0 x1 y1 h t f tu le sl ra).length) (capG (stL x0 y0 x1 y1 h t f tu le sl ra).length)), (14, .int .i64 ((i : Nat) : Int))] ∧ Hx = H ++ [.cells true 0 [.int .i64 W, .int .i64 Hh, .sl (some (bpp, 0)) xs.length cpp], .cells (ownG (stL x0 y0 x1 y1 h t f tu le sl ra).length) 2 (prs (stL x0 y0 x1 y1 h t f tu le sl ra))]) ((stL x0 y0 x1 y1 h t f tu le sl ra).length) ?_ ?_
    · refine ⟨_, _, _, ⟨0, by omega, fun j h => by omega, rfl, rfl⟩, Abs.byG hbel [] rfl [0, 6] (by decide) ?_⟩
      exact absR
    · rintro k0 F Hx ⟨i, hm0, hal, rfl, rfl⟩ J0 hJ0
      have hstl := stL_len (x0 := x0) (y0 := y0) (x1 := x1) (y1 := y1) (h := h) (t := t) (f := f) (tu := tu) (le := le) (sl := sl) (ra := ra)
      have g'4 := (jn @prs_len (jn @prs_one g'3))
      refine runTf g'4 ?_
      refine cond_split (fun h2 => ?_) (fun h2 => ?_)
      · have h2d := bsT h2
        have hlt : i < (stL x0 y0 x1 y1 h t f tu le sl ra).length := by omega
        have q3 := prs_load (l := stL x0 y0 x1 y1 h t f tu le sl ra) (j := i) (by omega)
        have g'5 := (jn @h2 (jn @h2d (jn @q3 g'4)))
        refine runTf g'5 ?_
        refine call_d (by kernel_rfl) (at_c (x := (g1 (stL x0 y0 x1 y1 h t f tu le sl ra) i)) (y := (g2 (stL x0 y0 x1 y1 h t f tu le sl ra) i)) (vld_iff.1 hV) (by first | exact hb0pp _ | exact hbpp) rfl) ?_
        refine runTf g'5 ?_
        refine cond_split (fun h4 => ?_) (fun h4 => ?_)
        · have h4d := bsT h4
          have h4n := bnT h4
          have hfinU : unhB W Hh xs x0 y0 x1 y1 h t f tu le sl ra = false := by
            have hne : ¬ stE x0 y0 x1 y1 h t f tu le sl ra = 0 ∨ stE x0 y0 x1 y1 h t f tu le sl ra = 0 := by omega
            rcases hne with hne | hst0
            · unfold unhB; rw [decide_eq_false hne]; simp
            · unfold unhB; rw [List.any_eq_true.2 ⟨(stL x0 y0 x1 y1 h t f tu le sl ra)[i], List.getElem_mem hlt, by rw [← pr_eq hlt]; simpa using h4d⟩]; simp
          have g'6 := (jn @h4 (jn @h4n g'5))
          refine runTf g'6 ?_
          exact hQ _ _ (end_plain (.inl rfl) hbel (x := .bool false) (resT Tryz.results84) rfl ⟨by first | (rw [hfinU]; done) | (rw [hfinV]), rfl⟩)
        · have h4d := bsT h4
          have h4n := bnT h4
          have hai : atI W Hh xs (g1 (stL x0 y0 x1 y1 h t f tu le sl ra) i) (g2 (stL x0 y0 x1 y1 h t f tu le sl ra) i) = 1 := by simpa using h4d
          have g'7 := (jn @h4 (jn @h4n g'5))
          refine runTf g'7 ?_
          refine hJ0 _ _ ⟨k0 - 1, by omega, _, _, _, ⟨i + 1, by omega, fun j hj => by
                      rcases Nat.lt_or_ge j i with hji | hji
                      · exact hal j hji
                      · rw [show j = i by omega]; exact hai, rfl, rfl⟩, Abs.byG hbel [] rfl [0, 1] (by decide) ?_⟩
          exact absR
      · have h2d := bsT h2
        have hany : ((stL x0 y0 x1 y1 h t f tu le sl ra).any (fun c => atI W Hh xs c.1 c.2 != 1)) = false := List.any_eq_false.2 fun c hc => by
          obtain ⟨j, hj, rfl⟩ := List.mem_iff_getElem.1 hc
          rw [← pr_eq hj]; simp only; rw [hal j (by omega)]; decide
        have hfinV : unhB W Hh xs x0 y0 x1 y1 h t f tu le sl ra = (stE x0 y0 x1 y1 h t f tu le sl ra == 0) := by unfold unhB; rw [decide_eq_true hsw, hany]; simp; rfl
        have g'8 := (jn @h2 (jn @h2d g'4))
        refine runTf g'8 ?_
        exact hQ _ _ (end_plain (.inl rfl) hbel (x := .bool ((stE x0 y0 x1 y1 h t f tu le sl ra) == 0)) (resTf (jn @int_beq @int_bne) Tryz.results84) rfl ⟨by first | (rw [hfinU]; done) | (rw [hfinV]), rfl⟩)
open Go.RowKit
theorem rsafe_c (H : AHeap) (W : Int) (Hh : Int) (pp : AV) (xs : List Int) (s : AV) (l : List T6) (t : Int) (f : Int) (tu : Int) (le : Int) (sl : Int) (ra : Int) (hpp : Sl H 1 pp xs.length (ints .u8 xs)) (hs : Sl H 6 s l.length (r6 l)) (hl : l.length ≤ 1000000000) : ACalls Tryz.prog 23 [.agg [.int .i64 W, .int .i64 Hh, pp], s, .agg [.int .i64 t, .int .i64 f], .agg [.int .i64 tu, .int .i64 le, .int .i64 sl, .int .i64 ra]] H (fun v H' => v = .tup [.bool (saB W Hh xs l t f tu le sl ra), .int .i64 (saE W Hh xs l t f tu le sl ra)] ∧ H' = H) := by
  obtain ⟨bpp, opp, cpp, rfl, hbpp⟩ := hpp
  have hblpp := getElem?_lt hbpp
  have hb0pp := fun l => get_app (l := l) hbpp
  obtain ⟨bs, os, cs, rfl, hbs⟩ := hs
  have hbls := getElem?_lt hbs
  have hb0s := fun l => get_app (l := l) hbs
  refine AcL true Tryz.func23 ?_; intro hbel Q hQ
  have g'1 := (jn @hbpp (jn @hb0pp (jn @hbs @hb0s)))
  refine runTf g'1 ?_
  refine call_v (by kernel_rfl) (rplan_a _ W Hh _ xs (.inr ⟨_, _, _, rfl, by first | exact hb0pp _ | exact hbpp⟩)) ?_
  refine runTf g'1 ?_
  refine gd_split (fun h1 => ?_) (fun h1 => ?_)
  · have h1d := bsT h1
    have hV := h1d
    have g'2 := (jn @h1 (jn @h1d g'1))
    refine runTf g'2 ?_
    refine call_v (by kernel_rfl) (bset_c _ _ l ⟨_, _, _, rfl, by first | exact hb0s _ | exact hbs⟩ (by omega)) ?_
    refine runTf g'2 ?_
    refine gd_split (fun h2 => ?_) (fun h2 => ?_)
    · have h2d := bsT h2
      have hS := h2d
      have hall := (setB_iff.1 hS).2
      have g'3 := (jn @h2 (jn @h2d g'2))
      refine runTf g'3 ?_
      refine call_v (by kernel_rfl) (bcmd_c _ t f) ?_
      refine runTf g'3 ?_
      refine gd_split (fun h3 => ?_) (fun h3 => ?_)
      · have h3d := bsT h3
        have hC := h3d
        have g'4 := (jn @h3 (jn @h3d g'3))
        refine runTf g'4 ?_
        refine call_v (by kernel_rfl) (bbnd_c _ tu le sl ra) ?_
        refine runTf g'4 ?_
        refine cond_split (fun h4 => ?_) (fun h4 => ?_)
        · have h4d := bsT h4
          have hz := saE_1 (W := W) (Hh := Hh) (xs := xs) (l := l) (t := t) (f := f) (tu := tu) (le := le) (sl := sl) (ra := ra) (fun hh => by simp [hh.1, hh.2.1, hh.2.2.1, hh.2.2.2] at h4d)
          have hfinE := hz.1
          have hfinB := hz.2
          have g'5 := (jn @h4 (jn @h4d g'4))
          refine runTf g'5 ?_
          exact hQ _ _ (end_plain (.inl rfl) hbel (x := .tup [.bool false, .int .i64 1]) (resT Tryz.results23) rfl ⟨by first | (rw [hfinE, hfinB]; done) | (rw [hfinB, hfinE]; done), rfl⟩)
        · have h4d := bsT h4
          have hBd := h4d
          have hfinE : saE W Hh xs l t f tu le sl ra = 0 := saE_0 hV hS hC hBd
          have htu : 0 ≤ tu ∧ tu ≤ 8 := by have hh := hBd; simp only [bndB, Bool.and_eq_true, btw_iff] at hh; omega
          have hff : 0 ≤ f ∧ f ≤ 32 := by have hh := hC; simp only [cmdB, Bool.and_eq_true, btw_iff] at hh; omega
          have g'6 := (jn @h4 (jn @h4d g'4))
          refine runTf g'6 ?_
          refine go_loopA (fun k F Hx => ∃ i : Nat, i + k = l.length ∧ (∀ j : Nat, j < i → boxOK W Hh xs t f tu le sl ra (g6 l j) = true) ∧ F = [(1, .sl (some (bs, 0)) l.length cs), (4, .ptr (some (H.length, 0))), (6, .ptr (some (H.length + 1, 0))), (7, .ptr (some (H.length + 2, 0))), (10, .int .i64 ((i : Nat) : Int))] ∧ Hx = H ++ [.cells true 0 [.int .i64 W, .int .i64 Hh, .sl (some (bpp, 0)) xs.length cpp], .cells true 0 [.int .i64 t, .int .i64 f], .cells true 0 [.int .i64 tu, .int .i64 le, .int .i64 sl, .int .i64 ra]]) (l.length) ?_ ?_
          · refine ⟨_, _, _, ⟨0, by omega, fun j h => by omega, rfl, rfl⟩, Abs.byG hbel [] rfl [0, 1, 2] (by decide) ?_⟩
            exact absW
          · rintro k0 F Hx ⟨i, hm0, hout, rfl, rfl⟩ Q1 hJ0 hr1 he1
            have hQ1 := fun F H' h => hr1 F H' (hQ F H' h)
            refine AW_seqQ fun Q2 hn2 hr2 he2 => ?_
            have hQ2 := fun F H' h => hr2 F H' (hQ1 F H' h)
            refine AW_fin true try_mixed (by kernel_rfl) ?_
            refine runTf g'6 ?_
            refine gd_split (fun h5 => ?_) (fun h5 => ?_)
            · have h5d := bsT h5
              have g'7 := (jn @h5 (jn @h5d g'6))
              refine runTf g'7 ?_
              refine cond_split (fun h6 => ?_) (fun h6 => ?_)
              · have h6d := bsT h6
                have hf0 : ¬ f = 0 := by omega
                have hbi : bxB (g61 l i) (g62 l i) (g63 l i) (g64 l i) (g65 l i) (g66 l i) = true := hall (g6 l i) (g6_mem (by omega))
                have hai := (bxB_iff.1 hbi).2.2
                have hkai := arcB_iff.1 hai
                have hsai : arcB (shF (g65 l i) (g66 l i) t) (arcC (g66 l i)) = true := arcF_ok (by omega)
                have hmal := mrkA_len (t := t) hai htu
                have g'8 := (jn @h6 (jn @h6d g'7))
                refine runTf g'8 ?_
                refine hn2 _ _ ?_
                refine AW_seqQ fun Q3 hn3 hr3 he3 => ?_
                have hQ3 := fun F H' h => hr3 F H' (hQ1 F H' h)
                refine AW_blockQ fun Q4 hn4 hr4 he4 hb4 => ?_
                have hQ4 := fun F H' h => hr4 F H' (hQ3 F H' h)
                refine AW_special true try_mixed [[0, 1, 2, 3, 4, 5, 6, 7, 8, 9, 10, 11, 12, 13, 14, 15, 16, 17, 18, 19], [0, 1, 2, 3, 4, 5, 6, 7, 8, 9, 10, 11, 12, 17, 13, 14, 15, 16, 18, 19]] (by kernel_rfl) (fun F2 H2 => F2 = [(1, .sl (some (bs, 0)) l.length cs), (4, .ptr (some (H.length, 0))), (6, .ptr (some (H.length + 1, 0))), (7, .ptr (some (H.length + 2, 0))), (10, .int .i64 ((i : Nat) : Int)), (11, .ptr (some (H.length + 3, 0)))] ∧ H2 = H ++ [.cells true 0 [.int .i64 W, .int .i64 Hh, .sl (some (bpp, 0)) xs.length cpp], .cells true 0 [.int .i64 t, .int .i64 f], .cells true 0 [.int .i64 tu, .int .i64 le, .int .i64 sl, .int .i64 ra], .cells true 0 [.int .i64 (shF (g65 l i) (g66 l i) t), .int .i64 (arcC (g66 l i))]]) ?_ ?_
                · refine reps_cons ?_ (reps_cons ?_ (reps_nil)) <;> intro J hJ
                  · skip
                    have q7 := r6_at4 (l := l) (j := i) (by omega)
                    have q8 := r6_at5 (l := l) (j := i) (by omega)
                    have g'9 := (jn @r6_len (jn @q7 (jn @q8 g'8)))
                    refine runDf g'9 ?_
                    refine call_d (by kernel_rfl) (rshift_c _ (g65 l i) (g66 l i) t (by assumption)) ?_
                    refine runDf g'9 ?_
                    refine inv_of (hJ _ _ ⟨_, _, _, ⟨rfl, rfl⟩, Abs.byG hbel [] rfl [0, 1, 2, 3] (by decide) ?_⟩)
                    exact absW
                  · skip
                    have q9 := r6_at4 (l := l) (j := i) (by omega)
                    have q10 := r6_at5 (l := l) (j := i) (by omega)
                    have g'10 := (jn @r6_len (jn @q9 (jn @q10 g'8)))
                    refine runDf g'10 ?_
                    refine call_d (by kernel_rfl) (rshift_c _ (g65 l i) (g66 l i) t (by assumption)) ?_
                    refine runDf g'10 ?_
                    refine inv_of (hJ _ _ ⟨_, _, _, ⟨rfl, rfl⟩, Abs.byG hbel [] rfl [0, 1, 2, 3] (by decide) ?_⟩)
                    exact absW
                rintro F2 H2 ⟨rfl, rfl⟩
                refine AW_fin true try_mixed (by kernel_rfl) ?_
                refine runTf g'8 ?_
                refine call_v (by kernel_rfl) (rgrow_c _ (shF (g65 l i) (g66 l i) t) (arcC (g66 l i)) tu (by assumption) (by omega)) ?_
                refine runTf g'8 ?_
                refine call_v (by kernel_rfl) (rlistq_c _ (g65 l i) (g66 l i) t tu (by assumption) (by assumption)) ?_
                refine runTf g'8 ?_
                refine go_loop try_mixed (by kernel_rfl) (fun k F Hx => ∃ m : Nat, m + k = (mrkA (g65 l i) (g66 l i) t tu).length ∧ (∀ j : Nat, j < m → unhB W Hh xs (g61 l i) (g62 l i) (g63 l i) (g64 l i) (gi (mrkA (g65 l i) (g66 l i) t tu) j) t f tu le sl ra = true) ∧ F = [(1, .sl (some (bs, 0)) l.length cs), (4, .ptr (some (H.length, 0))), (6, .ptr (some (H.length + 1, 0))), (7, .ptr (some (H.length + 2, 0))), (10, .int .i64 ((i : Nat) : Int)), (13, .sl (some (H.length + 3, 0)) ((mrkA (g65 l i) (g66 l i) t tu).length) (capG (mrkA (g65 l i) (g66 l i) t tu).length)), (14, .int .i64 ((m : Nat) : Int))] ∧ Hx = H ++ [.cells true 0 [.int .i64 W, .int .i64 Hh, .sl (some (bpp, 0)) xs.length cpp], .cells true 0 [.int .i64 t, .int .i64 f], .cells true 0 [.int .i64 tu, .int .i64 le, .int .i64 sl, .int .i64 ra], .cells (ownG (mrkA (g65 l i) (g66 l i) t tu).length) 1 (ints .i64 (mrkA (g65 l i) (g66 l i) t tu))]) ((mrkA (g65 l i) (g66 l i) t tu).length) ?_ ?_
                · refine ⟨_, _, _, ⟨0, by omega, fun j h => by omega, rfl, rfl⟩, Abs.byG hbel [] rfl [0, 1, 2, 4] (by decide) ?_⟩
                  exact absR
                · rintro k1 F Hx ⟨m, hm1, him, rfl, rfl⟩ J1 hJ1
                  have g'11 := (jn @ints_len (jn @ints_ones g'8))
                  refine runTf g'11 ?_
                  refine cond_split (fun h11 => ?_) (fun h11 => ?_)
                  · have h11d := bsT h11
                    have hmL : m < (mrkA (g65 l i) (g66 l i) t tu).length := by omega
                    have q12 := r6_load (l := l) (j := i) (by omega)
                    have q13 := ints_get (k := .i64) (xs := mrkA (g65 l i) (g66 l i) t tu) (j := m) (by omega)
                    have g'12 := (jn @h11 (jn @h11d (jn @r6_len (jn @q12 (jn @q13 g'11)))))
                    refine runTf g'12 ?_
                    refine call_d (by kernel_rfl) (runh_c _ W Hh _ xs (g61 l i) (g62 l i) (g63 l i) (g64 l i) (g65 l i) (g66 l i) (gi (mrkA (g65 l i) (g66 l i) t tu) m) t f tu le sl ra ⟨_, _, _, rfl, by first | exact hb0pp _ | exact hbpp⟩ hV) ?_
                    refine runTf g'12 ?_
                    refine cond_split (fun h14 => ?_) (fun h14 => ?_)
                    · have h14d := bsT h14
                      have hfinB : saB W Hh xs l t f tu le sl ra = false := saB_f hf0 (j := i) (by omega) (boxOK_f (m := m) (by exact hmL) h14d)
                      have g'13 := (jn @h14 (jn @h14d g'12))
                      refine runTf g'13 ?_
                      exact hQ4 _ _ (end_plain (.inl rfl) hbel (x := .tup [.bool false, .int .i64 0]) (resT Tryz.results23) rfl ⟨by first | (rw [hfinE, hfinB]; done) | (rw [hfinB, hfinE]; done), rfl⟩)
                    · have h14d := bsT h14
                      have hua := h14d
                      have g'14 := (jn @h14 (jn @h14d g'12))
                      refine runTf g'14 ?_
                      refine hJ1 _ _ ⟨k1 - 1, by omega, _, _, _, ⟨m + 1, by omega, fun j hj => by
                                  rcases Nat.lt_or_ge j m with hji | hji
                                  · exact him j hji
                                  · rw [show j = m by omega]; exact hua, rfl, rfl⟩, Abs.byG hbel [] rfl [0, 1, 2, 3] (by decide) ?_⟩
                      exact absR
                  · have h11d := bsT h11
                    obtain rfl : m = (mrkA (g65 l i) (g66 l i) t tu).length := by omega
                    have hbok : boxOK W Hh xs t f tu le sl ra (g6 l i) = true := boxOK_t him
                    have g'15 := (jn @h11 (jn @h11d g'11))
                    refine runTf g'15 ?_
                    refine hn4 _ _ ?_
                    refine hn3 _ _ ?_
                    refine AW_fin true try_mixed (by kernel_rfl) ?_
                    refine runTf g'15 ?_
                    refine hJ0 _ _ ⟨k0 - 1, by omega, _, _, _, ⟨i + 1, by omega, fun j hj => by
                                rcases Nat.lt_or_ge j i with hji | hji
                                · exact hout j hji
                                · rw [show j = i by omega]; exact hbok, rfl, rfl⟩, Abs.byG hbel [] rfl [0, 1, 2] (by decide) ?_⟩
                    exact absW
              · have h6d := bsT h6
                have hfinB : saB W Hh xs l t f tu le sl ra = true := saB_z hfinE (by omega)
                have g'16 := (jn @h6 (jn @h6d g'7))
                refine runTf g'16 ?_
                refine he2 _ _ _ ?_
                refine he1 _ _ _ ?_
                refine runTf g'16 ?_
                exact hQ _ _ (end_plain (.inl rfl) hbel (x := .tup [.bool true, .int .i64 0]) (resT Tryz.results23) rfl ⟨by first | (rw [hfinE, hfinB]; done) | (rw [hfinB, hfinE]; done), rfl⟩)
            · have h5d := bsT h5
              obtain rfl : i = l.length := by omega
              have hfinB : saB W Hh xs l t f tu le sl ra = true := saB_t hfinE hout
              have g'17 := (jn @h5 (jn @h5d g'6))
              refine runTf g'17 ?_
              refine he2 _ _ _ ?_
              refine he1 _ _ _ ?_
              refine runTf g'17 ?_
              exact hQ _ _ (end_plain (.inl rfl) hbel (x := .tup [.bool true, .int .i64 0]) (resT Tryz.results23) rfl ⟨by first | (rw [hfinE, hfinB]; done) | (rw [hfinB, hfinE]; done), rfl⟩)
      · have h3d := bsT h3
        have hz := saE_1 (W := W) (Hh := Hh) (xs := xs) (l := l) (t := t) (f := f) (tu := tu) (le := le) (sl := sl) (ra := ra) (fun hh => by simp [hh.1, hh.2.1, hh.2.2.1, hh.2.2.2] at h3d)
        have hfinE := hz.1
        have hfinB := hz.2
        have g'18 := (jn @h3 (jn @h3d g'3))
        refine runTf g'18 ?_
        exact hQ _ _ (end_plain (.inl rfl) hbel (x := .tup [.bool false, .int .i64 1]) (resT Tryz.results23) rfl ⟨by first | (rw [hfinE, hfinB]; done) | (rw [hfinB, hfinE]; done), rfl⟩)
    · have h2d := bsT h2
      have hz := saE_1 (W := W) (Hh := Hh) (xs := xs) (l := l) (t := t) (f := f) (tu := tu) (le := le) (sl := sl) (ra := ra) (fun hh => by simp [hh.1, hh.2.1, hh.2.2.1, hh.2.2.2] at h2d)
      have hfinE := hz.1
      have hfinB := hz.2
      have g'19 := (jn @h2 (jn @h2d g'2))
      refine runTf g'19 ?_
      exact hQ _ _ (end_plain (.inl rfl) hbel (x := .tup [.bool false, .int .i64 1]) (resT Tryz.results23) rfl ⟨by first | (rw [hfinE, hfinB]; done) | (rw [hfinB, hfinE]; done), rfl⟩)
  · have h1d := bsT h1
    have hz := saE_1 (W := W) (Hh := Hh) (xs := xs) (l := l) (t := t) (f := f) (tu := tu) (le := le) (sl := sl) (ra := ra) (fun hh => by simp [hh.1, hh.2.1, hh.2.2.1, hh.2.2.2] at h1d)
    have hfinE := hz.1
    have hfinB := hz.2
    have g'20 := (jn @h1 (jn @h1d g'1))
    refine runTf g'20 ?_
    exact hQ _ _ (end_plain (.inl rfl) hbel (x := .tup [.bool false, .int .i64 1]) (resT Tryz.results23) rfl ⟨by first | (rw [hfinE, hfinB]; done) | (rw [hfinB, hfinE]; done), rfl⟩)
open Go.RowKit
/-- The pose in the middle. -/
def estX (l : List T6) : Int := if setB l = true ∧ 0 < l.length then ((estH l (l.length - 1)).1 + (estH l (l.length - 1)).2.2.1) / 2 else 0
def estY (l : List T6) : Int := if setB l = true ∧ 0 < l.length then ((estH l (l.length - 1)).2.1 + (estH l (l.length - 1)).2.2.2.1) / 2 else 0
def estG (l : List T6) : Int := if setB l = true ∧ 0 < l.length then ((estH l (l.length - 1)).2.2.2.2.1 + ((estH l (l.length - 1)).2.2.2.2.2 - 1) / 2) % 256 else 0
def estO (l : List T6) : Bool := decide (setB l = true ∧ 0 < l.length)
theorem est_c (H : AHeap) (s : AV) (l : List T6) (hs : Sl H 6 s l.length (r6 l)) (hl : l.length ≤ 1000000) : ACalls Tryz.prog 42 [s] H (fun v H' => v = .tup [.agg [.int .i64 (estX l), .int .i64 (estY l), .int .i64 (estG l)], .bool (estO l)] ∧ H' = H) := by
  obtain ⟨bs, os, cs, rfl, hbs⟩ := hs
  have hbls := getElem?_lt hbs
  have hb0s := fun l => get_app (l := l) hbs
  have htq : ∀ z : Int, 0 ≤ z → Int.tdiv z 2 = z / 2 := fun z h => Int.tdiv_eq_ediv_of_nonneg h
  have htm : ∀ z : Int, 0 ≤ z → Int.tmod z 256 = z % 256 := fun z h => Int.tmod_eq_emod_of_nonneg h
  refine AcT true Tryz.func42 ?_; intro hbel Q hQ
  have g'1 := (jn @hbs (jn @hb0s (jn @htq @htm)))
  refine runTf g'1 ?_
  refine gd_split (fun h1 => ?_) (fun h1 => ?_)
  · have h1d := bsT h1
    have h1n := bnT h1
    have hz1 : 0 < l.length := Nat.pos_of_ne_zero (by simpa using h1d)
    have g'2 := (jn @h1 (jn @h1n (jn @int_bne (jn @int_beq g'1))))
    refine runTf g'2 ?_
    refine call_v (by kernel_rfl) (vset_c _ _ l ⟨_, _, _, rfl, by first | exact hb0s _ | exact hbs⟩ (by omega)) ?_
    refine runTf g'2 ?_
    refine cond_split (fun h2 => ?_) (fun h2 => ?_)
    · have h2d := bsT h2
      have hneg : ¬ (setB l = true ∧ 0 < l.length) := fun hh => by first | (rw [hh.1] at h2d; exact absurd h2d (by decide)) | (have := hh.2; omega)
      have hfinX : estX l = 0 := if_neg hneg
      have hfinY : estY l = 0 := if_neg hneg
      have hfinG : estG l = 0 := if_neg hneg
      have hfinO : estO l = false := decide_eq_false hneg
      have g'3 := (jn @h2 (jn @h2d g'2))
      refine runTf g'3 ?_
      exact hQ _ _ (end_plain (.inl rfl) hbel (x := .tup [.agg [.int .i64 0, .int .i64 0, .int .i64 0], .bool false]) (resT Tryz.results42) rfl ⟨by first | (rw [hfinX, hfinY, hfinG, hfinO]; done) | (rw [hfinX, hfinY, hfinG, hfinO]; rfl), rfl⟩)
    · have h2d := bsT h2
      have hsv : setB l = true := h2d
      have hpos : setB l = true ∧ 0 < l.length := ⟨hsv, by omega⟩
      have hok := fun n hn => estH_ok (setB_iff.1 hsv).2 n hn
      have hfinX : estX l = ((estH l (l.length - 1)).1 + (estH l (l.length - 1)).2.2.1) / 2 := if_pos hpos
      have hfinY : estY l = ((estH l (l.length - 1)).2.1 + (estH l (l.length - 1)).2.2.2.1) / 2 := if_pos hpos
      have hfinG : estG l = ((estH l (l.length - 1)).2.2.2.2.1 + ((estH l (l.length - 1)).2.2.2.2.2 - 1) / 2) % 256 := if_pos hpos
      have hfinO : estO l = true := decide_eq_true hpos
      have q3 := r6_load0 (l := l) (by omega)
      have g'4 := (jn @h2 (jn @h2d (jn @r6_len (jn @q3 g'2))))
      refine runTf g'4 ?_
      refine go_loop try_mixed (by kernel_rfl) (fun k F Hx => ∃ i : Nat, i + k = l.length - 1 ∧ F = [(2, .ptr (some (H.length, 0))), (4, .ptr (some (H.length + 1, 0))), (20, .sl (some (bs, 6)) (l.length - 1) none), (21, .int .i64 ((l.length - 1 : Nat) : Int)), (22, .int .i64 ((i : Nat) : Int))] ∧ Hx = H ++ [.cells true 0 [.int .i64 0, .int .i64 0, .int .i64 0], .cells true 0 [.int .i64 ((estH l i).1), .int .i64 ((estH l i).2.1), .int .i64 ((estH l i).2.2.1), .int .i64 ((estH l i).2.2.2.1), .int .i64 ((estH l i).2.2.2.2.1), .int .i64 ((estH l i).2.2.2.2.2)]]) (l.length - 1) ?_ ?_
      · refine ⟨_, _, _, ⟨0, by omega, rfl, rfl⟩, Abs.byG hbel [] rfl [0, 1] (by decide) ?_⟩
        exact absWf @estH.eq_1
      · rintro k0 F Hx ⟨i, hm0, rfl, rfl⟩ J0 hJ0
        refine runTf g'4 ?_
        refine cond_split (fun h4 => ?_) (fun h4 => ?_)
        · have h4d := bsT h4
          have hb1 : bxB (estH l i).1 (estH l i).2.1 (estH l i).2.2.1 (estH l i).2.2.2.1 (estH l i).2.2.2.2.1 (estH l i).2.2.2.2.2 = true := hok i (by omega)
          have hb2 : bxB (g61 l (i + 1)) (g62 l (i + 1)) (g63 l (i + 1)) (g64 l (i + 1)) (g65 l (i + 1)) (g66 l (i + 1)) = true := (setB_iff.1 hsv).2 (g6 l (i + 1)) (g6_mem (by omega))
          have q5 := r6_load1 (l := l) (j := i) (by omega)
          have g'5 := (jn @h4 (jn @h4d (jn @q5 g'4)))
          refine runTf g'5 ?_
          refine call_v (by kernel_rfl) (bhull_c _ ((estH l i).1) ((estH l i).2.1) ((estH l i).2.2.1) ((estH l i).2.2.2.1) ((estH l i).2.2.2.2.1) ((estH l i).2.2.2.2.2) (g61 l (i + 1)) (g62 l (i + 1)) (g63 l (i + 1)) (g64 l (i + 1)) (g65 l (i + 1)) (g66 l (i + 1)) (by assumption) (by assumption)) ?_
          refine runTf g'5 ?_
          refine hJ0 _ _ ⟨k0 - 1, by omega, _, _, _, ⟨i + 1, by omega, rfl, rfl⟩, Abs.byG hbel [] rfl [0, 1] (by decide) ?_⟩
          exact absWf @estH.eq_2
        · have h4d := bsT h4
          obtain rfl : i = l.length - 1 := by omega
          have hlast := bxB_iff.1 (hok (l.length - 1) (by omega))
          have hla := arcB_iff.1 hlast.2.2
          have g'6 := (jn @h4 (jn @h4d g'4))
          refine runTf g'6 ?_
          refine call_d (by kernel_rfl) (mfloor_c _ (((estH l (l.length - 1)).1) + ((estH l (l.length - 1)).2.2.1)) 2 (by omega) (by omega)) ?_
          refine runTf g'6 ?_
          refine call_d (by kernel_rfl) (mfloor_c _ (((estH l (l.length - 1)).2.1) + ((estH l (l.length - 1)).2.2.2.1)) 2 (by omega) (by omega)) ?_
          refine runTf g'6 ?_
          exact hQ _ _ (end_plain (.inl rfl) hbel (x := .tup [.agg [.int .i64 ((((estH l (l.length - 1)).1) + ((estH l (l.length - 1)).2.2.1)) / 2), .int .i64 ((((estH l (l.length - 1)).2.1) + ((estH l (l.length - 1)).2.2.2.1)) / 2), .int .i64 ((((estH l (l.length - 1)).2.2.2.2.1) + ((((estH l (l.length - 1)).2.2.2.2.2) - 1) / 2)) % 256)], .bool true]) (resT Tryz.results42) rfl ⟨by first | (rw [hfinX, hfinY, hfinG, hfinO]; done) | (rw [hfinX, hfinY, hfinG, hfinO]; rfl), rfl⟩)
  · have h1d := bsT h1
    have h1n := bnT h1
    have hz0 : l.length = 0 := by simpa using h1d
    have hneg : ¬ (setB l = true ∧ 0 < l.length) := fun hh => by first | (rw [hh.1] at hz0; exact absurd hz0 (by decide)) | (have := hh.2; omega)
    have hfinX : estX l = 0 := if_neg hneg
    have hfinY : estY l = 0 := if_neg hneg
    have hfinG : estG l = 0 := if_neg hneg
    have hfinO : estO l = false := decide_eq_false hneg
    have g'7 := (jn @h1 (jn @h1n (jn @int_bne (jn @int_beq g'1))))
    refine runTf g'7 ?_
    exact hQ _ _ (end_plain (.inl rfl) hbel (x := .tup [.agg [.int .i64 0, .int .i64 0, .int .i64 0], .bool false]) (resT Tryz.results42) rfl ⟨by first | (rw [hfinX, hfinY, hfinG, hfinO]; done) | (rw [hfinX, hfinY, hfinG, hfinO]; rfl), rfl⟩)
theorem rest_c (H : AHeap) (s : AV) (l : List T6) (hs : Sl H 6 s l.length (r6 l)) (hl : l.length ≤ 1000000) : ACalls Tryz.prog 43 [s] H (fun v H' => v = .tup [.agg [.int .i64 (estX l), .int .i64 (estY l), .int .i64 (estG l)], .bool (estO l)] ∧ H' = H) := by
  obtain ⟨bs, os, cs, rfl, hbs⟩ := hs
  have hbls := getElem?_lt hbs
  have hb0s := fun l => get_app (l := l) hbs
  have htq : ∀ z : Int, 0 ≤ z → Int.tdiv z 2 = z / 2 := fun z h => Int.tdiv_eq_ediv_of_nonneg h
  have htm : ∀ z : Int, 0 ≤ z → Int.tmod z 256 = z % 256 := fun z h => Int.tmod_eq_emod_of_nonneg h
  refine AcT true Tryz.func43 ?_; intro hbel Q hQ
  have g'8 := (jn @hbs (jn @hb0s (jn @htq @htm)))
  refine runTf g'8 ?_
  refine call_v (by kernel_rfl) (bset_c _ _ l ⟨_, _, _, rfl, by first | exact hb0s _ | exact hbs⟩ (by omega)) ?_
  refine runTf g'8 ?_
  refine gd_split (fun h1 => ?_) (fun h1 => ?_)
  · have h1d := bsT h1
    have hsv : setB l = true := h1d
    have g'9 := (jn @h1 (jn @h1d g'8))
    refine runTf g'9 ?_
    refine cond_split (fun h2 => ?_) (fun h2 => ?_)
    · have h2d := bsT h2
      have h2n := bnT h2
      have hz0 : l.length = 0 := by simpa using h2d
      have hneg : ¬ (setB l = true ∧ 0 < l.length) := fun hh => by first | (rw [hh.1] at hz0; exact absurd hz0 (by decide)) | (have := hh.2; omega)
      have hfinX : estX l = 0 := if_neg hneg
      have hfinY : estY l = 0 := if_neg hneg
      have hfinG : estG l = 0 := if_neg hneg
      have hfinO : estO l = false := decide_eq_false hneg
      have g'10 := (jn @h2 (jn @h2n (jn @int_bne (jn @int_beq g'9))))
      refine runTf g'10 ?_
      exact hQ _ _ (end_plain (.inl rfl) hbel (x := .tup [.agg [.int .i64 0, .int .i64 0, .int .i64 0], .bool false]) (resT Tryz.results43) rfl ⟨by first | (rw [hfinX, hfinY, hfinG, hfinO]; done) | (rw [hfinX, hfinY, hfinG, hfinO]; rfl), rfl⟩)
    · have h2d := bsT h2
      have h2n := bnT h2
      have hz1 : 0 < l.length := Nat.pos_of_ne_zero (by simpa using h2d)
      have hpos : setB l = true ∧ 0 < l.length := ⟨hsv, by omega⟩
      have hok := fun n hn => estH_ok (setB_iff.1 hsv).2 n hn
      have hfinX : estX l = ((estH l (l.length - 1)).1 + (estH l (l.length - 1)).2.2.1) / 2 := if_pos hpos
      have hfinY : estY l = ((estH l (l.length - 1)).2.1 + (estH l (l.length - 1)).2.2.2.1) / 2 := if_pos hpos
      have hfinG : estG l = ((estH l (l.length - 1)).2.2.2.2.1 + ((estH l (l.length - 1)).2.2.2.2.2 - 1) / 2) % 256 := if_pos hpos
      have hfinO : estO l = true := decide_eq_true hpos
      have q3 := r6_load0 (l := l) (by omega)
      have g'11 := (jn @h2 (jn @h2n (jn @int_bne (jn @int_beq (jn @r6_len (jn @q3 g'9))))))
      refine runTf g'11 ?_
      refine go_loop try_mixed (by kernel_rfl) (fun k F Hx => ∃ i : Nat, i + k = l.length - 1 ∧ F = [(0, .sl (some (bs, 0)) l.length cs), (2, .ptr (some (H.length, 0))), (4, .ptr (some (H.length + 1, 0))), (5, .int .i64 ((i + 1 : Nat) : Int))] ∧ Hx = H ++ [.cells true 0 [.int .i64 0, .int .i64 0, .int .i64 0], .cells true 0 [.int .i64 ((estH l i).1), .int .i64 ((estH l i).2.1), .int .i64 ((estH l i).2.2.1), .int .i64 ((estH l i).2.2.2.1), .int .i64 ((estH l i).2.2.2.2.1), .int .i64 ((estH l i).2.2.2.2.2)]]) (l.length - 1) ?_ ?_
      · refine ⟨_, _, _, ⟨0, by omega, rfl, rfl⟩, Abs.byG hbel [] rfl [0, 1] (by decide) ?_⟩
        exact absWf @estH.eq_1
      · rintro k0 F Hx ⟨i, hm0, rfl, rfl⟩ J0 hJ0
        refine runTf g'11 ?_
        refine cond_split (fun h4 => ?_) (fun h4 => ?_)
        · have h4d := bsT h4
          have hb1 : bxB (estH l i).1 (estH l i).2.1 (estH l i).2.2.1 (estH l i).2.2.2.1 (estH l i).2.2.2.2.1 (estH l i).2.2.2.2.2 = true := hok i (by omega)
          have hb2 : bxB (g61 l (i + 1)) (g62 l (i + 1)) (g63 l (i + 1)) (g64 l (i + 1)) (g65 l (i + 1)) (g66 l (i + 1)) = true := (setB_iff.1 hsv).2 (g6 l (i + 1)) (g6_mem (by omega))
          have q5 := r6_load (l := l) (j := i + 1) (by omega)
          have g'12 := (jn @h4 (jn @h4d (jn @q5 g'11)))
          refine runTf g'12 ?_
          refine call_d (by kernel_rfl) (r6hull_c _ ((estH l i).1) ((estH l i).2.1) ((estH l i).2.2.1) ((estH l i).2.2.2.1) ((estH l i).2.2.2.2.1) ((estH l i).2.2.2.2.2) (g61 l (i + 1)) (g62 l (i + 1)) (g63 l (i + 1)) (g64 l (i + 1)) (g65 l (i + 1)) (g66 l (i + 1)) (by assumption) (by assumption)) ?_
          refine runTf g'12 ?_
          refine hJ0 _ _ ⟨k0 - 1, by omega, _, _, _, ⟨i + 1, by omega, rfl, rfl⟩, Abs.byG hbel [] rfl [0, 1] (by decide) ?_⟩
          exact absWf @estH.eq_2
        · have h4d := bsT h4
          obtain rfl : i = l.length - 1 := by omega
          have hlast := bxB_iff.1 (hok (l.length - 1) (by omega))
          have hla := arcB_iff.1 hlast.2.2
          have g'13 := (jn @h4 (jn @h4d g'11))
          refine runTf g'13 ?_
          refine call_d (by kernel_rfl) (bfloor_c _ (((estH l (l.length - 1)).1) + ((estH l (l.length - 1)).2.2.1)) 2 (by omega) (by omega)) ?_
          refine runTf g'13 ?_
          refine call_d (by kernel_rfl) (bfloor_c _ (((estH l (l.length - 1)).2.1) + ((estH l (l.length - 1)).2.2.2.1)) 2 (by omega) (by omega)) ?_
          refine runTf g'13 ?_
          exact hQ _ _ (end_plain (.inl rfl) hbel (x := .tup [.agg [.int .i64 ((((estH l (l.length - 1)).1) + ((estH l (l.length - 1)).2.2.1)) / 2), .int .i64 ((((estH l (l.length - 1)).2.1) + ((estH l (l.length - 1)).2.2.2.1)) / 2), .int .i64 ((((estH l (l.length - 1)).2.2.2.2.1) + ((((estH l (l.length - 1)).2.2.2.2.2) - 1) / 2)) % 256)], .bool true]) (resT Tryz.results43) rfl ⟨by first | (rw [hfinX, hfinY, hfinG, hfinO]; done) | (rw [hfinX, hfinY, hfinG, hfinO]; rfl), rfl⟩)
  · have h1d := bsT h1
    have hneg : ¬ (setB l = true ∧ 0 < l.length) := fun hh => by first | (rw [hh.1] at h1d; exact absurd h1d (by decide)) | (have := hh.2; omega)
    have hfinX : estX l = 0 := if_neg hneg
    have hfinY : estY l = 0 := if_neg hneg
    have hfinG : estG l = 0 := if_neg hneg
    have hfinO : estO l = false := decide_eq_false hneg
    have g'14 := (jn @h1 (jn @h1d g'8))
    refine runTf g'14 ?_
    exact hQ _ _ (end_plain (.inl rfl) hbel (x := .tup [.agg [.int .i64 0, .int .i64 0, .int .i64 0], .bool false]) (resT Tryz.results43) rfl ⟨by first | (rw [hfinX, hfinY, hfinG, hfinO]; done) | (rw [hfinX, hfinY, hfinG, hfinO]; rfl), rfl⟩)
open Go.RowKit
def clipI (d : Int) : Int := if d < -32 then -32 else if 32 < d then 32 else d
theorem delta_c (H : AHeap) (a : Int) (b : Int) (ka : -1152921504606846976 ≤ a ∧ a ≤ 1152921504606846976) (kb : -1152921504606846976 ≤ b ∧ b ≤ 1152921504606846976) : ACalls Tryz.prog 99 [.int .i64 a, .int .i64 b] H (fun v H' => v = .int .i64 (delI a b) ∧ H' = H) := by
  refine AcT true Tryz.func99 ?_; intro hbel Q hQ
  refine runT ?_
  refine call_v (by kernel_rfl) (mark_c _ (b - a)) ?_
  refine runT ?_
  refine cond_split (fun h1 => ?_) (fun h1 => ?_)
  · have h1d := bsT h1
    have g'1 := (jn @h1 @h1d)
    refine runTf g'1 ?_
    exact hQ _ _ (end_plain0 (.inl rfl) hbel (x := .int .i64 (((((b - a) % 256).toNat : Nat) : Int) - 256)) (resT Tryz.results99) rfl ⟨congrArg (AV.int .i64) (by unfold delI; split <;> omega), rfl⟩)
  · have h1d := bsT h1
    have g'2 := (jn @h1 @h1d)
    refine runTf g'2 ?_
    exact hQ _ _ (end_plain0 (.inl rfl) hbel (x := .int .i64 ((((b - a) % 256).toNat : Nat) : Int)) (resT Tryz.results99) rfl ⟨congrArg (AV.int .i64) (by unfold delI; split <;> omega), rfl⟩)
theorem rdelta_c (H : AHeap) (a : Int) (b : Int) (ka : -1152921504606846976 ≤ a ∧ a ≤ 1152921504606846976) (kb : -1152921504606846976 ≤ b ∧ b ≤ 1152921504606846976) : ACalls Tryz.prog 100 [.int .i64 a, .int .i64 b] H (fun v H' => v = .int .i64 (delI a b) ∧ H' = H) := by
  refine AcT true Tryz.func100 ?_; intro hbel Q hQ
  refine runT ?_
  refine call_v (by kernel_rfl) (bmod_c _ b 256 (by omega) (by omega)) ?_
  refine runT ?_
  refine call_v (by kernel_rfl) (bmod_c _ a 256 (by omega) (by omega)) ?_
  refine runT ?_
  refine call_v (by kernel_rfl) (bmod_c _ ((((b % 256).toNat : Nat) : Int) - (((a % 256).toNat : Nat) : Int)) 256 (by omega) (by omega)) ?_
  refine runT ?_
  refine cond_split (fun h1 => ?_) (fun h1 => ?_)
  · have h1d := bsT h1
    have g'3 := (jn @h1 @h1d)
    refine runTf g'3 ?_
    exact hQ _ _ (end_plain0 (.inl rfl) hbel (x := .int .i64 ((((((((b % 256).toNat : Nat) : Int) - (((a % 256).toNat : Nat) : Int)) % 256).toNat : Nat) : Int) - 256)) (resT Tryz.results100) rfl ⟨congrArg (AV.int .i64) (by unfold delI; split <;> omega), rfl⟩)
  · have h1d := bsT h1
    have g'4 := (jn @h1 @h1d)
    refine runTf g'4 ?_
    exact hQ _ _ (end_plain0 (.inl rfl) hbel (x := .int .i64 (((((((b % 256).toNat : Nat) : Int) - (((a % 256).toNat : Nat) : Int)) % 256).toNat : Nat) : Int)) (resT Tryz.results100) rfl ⟨congrArg (AV.int .i64) (by unfold delI; split <;> omega), rfl⟩)
open Go.RowKit
theorem rtoward_c (H : AHeap) (fx : Int) (fy : Int) (tx : Int) (ty : Int) : ACalls Tryz.prog 37 [.agg [.int .i64 fx, .int .i64 fy], .agg [.int .i64 tx, .int .i64 ty]] H (fun v H' => v = .tup [.int .i64 (towI fx fy tx ty), .int .i64 (towE fx fy tx ty)] ∧ H' = H) := by
  refine AcT true Tryz.func37 ?_; intro hbel Q hQ
  refine runT ?_
  refine call_v (by kernel_rfl) (bpt_c _ fx fy) ?_
  refine runT ?_
  refine gd_split (fun h1 => ?_) (fun h1 => ?_)
  · have h1d := bsT h1
    have hp1 := h1d
    simp only [ptB, Bool.and_eq_true, within_iff] at hp1
    have g'1 := (jn @h1 @h1d)
    refine runTf g'1 ?_
    refine call_v (by kernel_rfl) (bpt_c _ tx ty) ?_
    refine runTf g'1 ?_
    refine cond_split (fun h2 => ?_) (fun h2 => ?_)
    · have h2d := bsT h2
      have g'2 := (jn @h2 (jn @h2d g'1))
      refine runTf g'2 ?_
      exact hQ _ _ (end_plain (.inl rfl) hbel (x := .tup [.int .i64 0, .int .i64 1]) (resT Tryz.results37) rfl ⟨by first | (simp [towI, towE, h1d, h2d]; done) | (rw [show towI fx fy tx ty = ((towN (tx - fx) (ty - fy) 256 : Nat) : Int) from if_pos hfinE, hfinE, hfinT]), rfl⟩)
    · have h2d := bsT h2
      have hp2 := h2d
      simp only [ptB, Bool.and_eq_true, within_iff] at hp2
      have g'3 := (jn @h2 (jn @h2d g'1))
      refine runTf g'3 ?_
      refine cond_split (fun h3 => ?_) (fun h3 => ?_)
      · have h3d := bsT h3
        have h3n := h3
        try simp only [int_bne, int_beq] at h3n
        have g'4 := (jn @h3 (jn @h3d (jn @h3n (jn @int_bne (jn @int_beq g'3)))))
        refine runTf g'4 ?_
        exact hQ _ _ (end_plain (.inl rfl) hbel (x := .tup [.int .i64 0, .int .i64 9]) (resT Tryz.results37) rfl ⟨by first | (simp [towI, towE, h1d, h2d, h3d]; done) | (rw [show towI fx fy tx ty = ((towN (tx - fx) (ty - fy) 256 : Nat) : Int) from if_pos hfinE, hfinE, hfinT]), rfl⟩)
      · have h3d := bsT h3
        have h3n := h3
        try simp only [int_bne, int_beq] at h3n
        have hfinE : towE fx fy tx ty = 0 := by unfold towE; simp_all
        have hd : ¬ ((tx - fx) = 0 ∧ (ty - fy) = 0) := fun hh => by
          have e1 : fx = tx := by omega
          have e2 : fy = ty := by omega
          simp_all
        have g'5 := (jn @h3 (jn @h3d (jn @h3n (jn @int_bne (jn @int_beq g'3)))))
        refine runTf g'5 ?_
        refine go_loop try_mixed (by kernel_rfl) (fun k F Hx => ∃ n : Nat, n + k = 255 ∧ (∀ j : Nat, j ≤ n → beyB (dirN j) (tx - fx) (ty - fy) = false) ∧ F = [(2, .ptr (some (H.length, 0))), (3, .ptr (some (H.length + 1, 0))), (6, .int .i64 ((n : Nat) : Int))] ∧ Hx = H ++ [.cells true 0 [.int .i64 fx, .int .i64 fy], .cells true 0 [.int .i64 tx, .int .i64 ty]]) (255) ?_ ?_
        · refine ⟨_, _, _, ⟨0, by omega, fun j hj => by rw [show j = 0 by omega]; exact bey_0 hd, rfl, rfl⟩, Abs.byG hbel [] rfl [0, 1] (by decide) ?_⟩
          exact absW
        · rintro k0 F Hx ⟨n, hm0, hbn, rfl, rfl⟩ J0 hJ0
          refine runTf g'5 ?_
          refine gd_split (fun h4 => ?_) (fun h4 => ?_)
          · have h4d := bsT h4
            have hdv := vecOK_iff.1 (dirV_ok ((n + 1 : Nat) : Int))
            have hdn := dirV_nat (n := n + 1) (by omega)
            have g'6 := (jn @h4 (jn @h4d g'5))
            refine runTf g'6 ?_
            refine call_d (by kernel_rfl) (rdir_c _ ((n + 1 : Nat) : Int)) ?_
            refine runTf g'6 ?_
            refine call_d (by kernel_rfl) (beyond_c _ ((dirV ((n + 1 : Nat) : Int)).1) ((dirV ((n + 1 : Nat) : Int)).2.1) ((dirV ((n + 1 : Nat) : Int)).2.2) (tx - fx) (ty - fy) (by omega) (by omega) (by omega) (by omega)) ?_
            refine runTf g'6 ?_
            refine cond_split (fun h5 => ?_) (fun h5 => ?_)
            · have h5d := bsT h5
              have hbF : beyB (dirN (n + 1)) (tx - fx) (ty - fy) = false := by rw [← hdn, ← beyR_eq (dirV_ok _) hd]; exact h5d
              have g'7 := (jn @h5 (jn @h5d g'6))
              refine runTf g'7 ?_
              refine hJ0 _ _ ⟨k0 - 1, by omega, _, _, _, ⟨n + 1, by omega, fun j hj => by
                            rcases Nat.lt_or_ge n j with hjn | hjn
                            · rw [show j = n + 1 by omega]; exact hbF
                            · exact hbn j hjn, rfl, rfl⟩, Abs.byG hbel [] rfl [0, 1] (by decide) ?_⟩
              exact absWf @h3d
            · have h5d := bsT h5
              have hbT : beyB (dirN (n + 1)) (tx - fx) (ty - fy) = true := by rw [← hdn, ← beyR_eq (dirV_ok _) hd]; exact h5d
              have hfinT : towN (tx - fx) (ty - fy) 256 = n := towN_all hd hbn hbT 256 (by omega) (Nat.le_refl _)
              have g'8 := (jn @h5 (jn @h5d g'6))
              refine runTf g'8 ?_
              exact hQ _ _ (end_plain (.inl rfl) hbel (x := .tup [.int .i64 ((n : Nat) : Int), .int .i64 0]) (resT Tryz.results37) rfl ⟨by first | (simp [towI, towE, h1d, h2d, h3d, h4d, h5d, hfinE, hfinT]; done) | (rw [show towI fx fy tx ty = ((towN (tx - fx) (ty - fy) 256 : Nat) : Int) from if_pos hfinE, hfinE, hfinT]), rfl⟩)
          · have h4d := bsT h4
            have hn255 : n = 255 := by omega
            have hfinT : towN (tx - fx) (ty - fy) 256 = n := by rw [hn255]; exact towN_last (hbn 255 (by omega))
            have g'9 := (jn @h4 (jn @h4d g'5))
            refine runTf g'9 ?_
            exact hQ _ _ (end_plain (.inl rfl) hbel (x := .tup [.int .i64 ((n : Nat) : Int), .int .i64 0]) (resT Tryz.results37) rfl ⟨by first | (simp [towI, towE, h1d, h2d, h3d, h4d, hfinE, hfinT]; done) | (rw [show towI fx fy tx ty = ((towN (tx - fx) (ty - fy) 256 : Nat) : Int) from if_pos hfinE, hfinE, hfinT]), rfl⟩)
  · have h1d := bsT h1
    have g'10 := (jn @h1 @h1d)
    refine runTf g'10 ?_
    exact hQ _ _ (end_plain (.inl rfl) hbel (x := .tup [.int .i64 0, .int .i64 1]) (resT Tryz.results37) rfl ⟨by first | (simp [towI, towE, h1d]; done) | (rw [show towI fx fy tx ty = ((towN (tx - fx) (ty - fy) 256 : Nat) : Int) from if_pos hfinE, hfinE, hfinT]), rfl⟩)
open Go.RowKit
theorem tow_spec {x y : Int} (hd : ¬ (x = 0 ∧ y = 0)) : ∀ n : Nat, 1 ≤ n → towN x y n < n ∧ beyB (dirN (towN x y n)) x y = false ∧ ∀ j : Nat, towN x y n < j → j < n → beyB (dirN j) x y = true
  | 0, h => by omega
  | n + 1, _ => by
    rw [towN]
    cases hb : beyB (dirN n) x y with
    | false => simp only [Bool.false_eq_true, if_false]; exact ⟨Nat.lt_succ_self n, hb, fun j h1 h2 => by omega⟩
    | true =>
      simp only [if_true]
      rcases Nat.eq_zero_or_pos n with rfl | h0
      · rw [bey_0 hd] at hb; cases hb
      · obtain ⟨h1, h2, h3⟩ := tow_spec hd n h0
        exact ⟨by omega, h2, fun j k1 k2 => by
          rcases Nat.lt_or_ge j n with h | h
          · exact h3 j k1 h
          · rw [show j = n by omega]; exact hb⟩
theorem towE0 {fx fy tx ty : Int} (h : towE fx fy tx ty = 0) : ((-1048576 ≤ fx ∧ fx ≤ 1048576) ∧ -1048576 ≤ fy ∧ fy ≤ 1048576) ∧ ((-1048576 ≤ tx ∧ tx ≤ 1048576) ∧ -1048576 ≤ ty ∧ ty ≤ 1048576) ∧ ¬ (tx - fx = 0 ∧ ty - fy = 0) ∧ towI fx fy tx ty = ((towN (tx - fx) (ty - fy) 256 : Nat) : Int) := by
  have hI : towI fx fy tx ty = ((towN (tx - fx) (ty - fy) 256 : Nat) : Int) := if_pos h
  unfold towE at h
  split at h
  · rename_i h1
    simp only [ptB, Bool.and_eq_true, within_iff] at h1
    split at h
    · omega
    · rename_i h2; exact ⟨by omega, by omega, by omega, hI⟩
  · omega
theorem tow_bey {fx fy tx ty : Int} (h : towE fx fy tx ty = 0) : (0 ≤ towI fx fy tx ty ∧ towI fx fy tx ty ≤ 255) ∧ beyR (dirV (towI fx fy tx ty)).1 (dirV (towI fx fy tx ty)).2.1 (tx - fx) (ty - fy) = false ∧ (¬ towI fx fy tx ty = 255 → beyR (dirV (towI fx fy tx ty + 1)).1 (dirV (towI fx fy tx ty + 1)).2.1 (tx - fx) (ty - fy) = true) := by
  obtain ⟨-, -, hd, hI⟩ := towE0 h
  obtain ⟨s1, s2, s3⟩ := tow_spec hd 256 (by decide)
  rw [hI, beyR_eq (dirV_ok _) hd, dirV_nat s1]
  refine ⟨by omega, s2, fun hn => ?_⟩
  rw [beyR_eq (dirV_ok _) hd]
  have e : ((towN (tx - fx) (ty - fy) 256 : Nat) : Int) + 1 = ((towN (tx - fx) (ty - fy) 256 + 1 : Nat) : Int) := by omega
  rw [e, dirV_nat (by omega)]
  exact s3 _ (by omega) (by omega)
open Go.RowKit
/-- The steps of a forward motion: at most k more than n. -/
def fwM (q : Int) : Nat → Nat → Nat
  | 0, n => n
  | k + 1, n => if ((n : Int) + 1) * ((n : Int) + 1) ≤ q then fwM q k (n + 1) else n
theorem fwM_le (q : Int) : ∀ k n : Nat, n ≤ fwM q k n ∧ fwM q k n ≤ n + k
  | 0, n => ⟨Nat.le_refl _, Nat.le_refl _⟩
  | k + 1, n => by
    rw [fwM]; split
    · have := fwM_le q k (n + 1); omega
    · omega
theorem fwM_go {q : Int} {k n : Nat} (hk : 0 < k) (h : ((n : Int) + 1) * ((n : Int) + 1) ≤ q) : fwM q k n = fwM q (k - 1) (n + 1) := by
  obtain ⟨j, rfl⟩ : ∃ j, k = j + 1 := ⟨k - 1, by omega⟩
  rw [fwM, if_pos h, Nat.add_sub_cancel]
theorem fwM_stop {q : Int} {k n : Nat} (h : ¬ ((n : Int) + 1) * ((n : Int) + 1) ≤ q) : fwM q k n = n := by
  cases k with
  | zero => rfl
  | succ j => rw [fwM, if_neg h]
def aimE (x y h tx ty : Int) : Int := if btw h 0 255 = true then towE x y tx ty else 1
def aimT (x y h tx ty : Int) : Int := if aimE x y h tx ty = 0 then clipI (delI h (towI x y tx ty)) else 0
def aimF (x y h tx ty : Int) : Int := if aimE x y h tx ty = 0 ∧ btw (delI h (towI x y tx ty)) (-8) 8 = true then ((fwM (((tx - x) * (tx - x)) + ((ty - y) * (ty - y))) 32 0 : Nat) : Int) else 0
theorem aim_cmd (x y h tx ty : Int) : cmdB (aimT x y h tx ty) (aimF x y h tx ty) = true := by
  unfold cmdB
  rw [Bool.and_eq_true, within_iff, btw_iff]
  constructor
  · unfold aimT clipI; split
    · split
      · omega
      · split <;> omega
    · omega
  · unfold aimF; split
    · have := fwM_le (((tx - x) * (tx - x)) + ((ty - y) * (ty - y))) 32 0; omega
    · omega
theorem within8 (d : Int) : within d 8 = btw d (-8) 8 := by rw [Bool.eq_iff_iff, within_iff, btw_iff]
def poseB (x y h : Int) : Bool := within x 1048576 && (within y 1048576 && (decide (0 ≤ h) && decide (h < 256)))
theorem poseB_iff {x y h : Int} : poseB x y h = true ↔ (ptB x y = true ∧ btw h 0 255 = true) := by
  unfold poseB ptB; simp only [Bool.and_eq_true, within_iff, btw_iff, decide_eq_true_eq]; omega
theorem aimE_eq (x y h tx ty : Int) : aimE x y h tx ty = if poseB x y h = true ∧ ptB tx ty = true then towE x y tx ty else 1 := by
  unfold aimE
  by_cases hb : btw h 0 255 = true
  · rw [if_pos hb]
    by_cases h1 : ptB x y = true
    · by_cases h2 : ptB tx ty = true
      · rw [if_pos ⟨poseB_iff.2 ⟨h1, hb⟩, h2⟩]
      · rw [if_neg (fun h => h2 h.2)]; unfold towE; rw [if_neg (by simp [h2])]
    · rw [if_neg (fun h => h1 (poseB_iff.1 h.1).1)]; unfold towE; rw [if_neg (by simp [h1])]
  · rw [if_neg hb, if_neg (fun h => hb (poseB_iff.1 h.1).2)]
theorem clip_r (d : Int) : (if (-32) < (if 32 < d then 32 else d) then (if 32 < d then 32 else d) else (-32)) = clipI d := by
  unfold clipI; repeat' split
  all_goals omega
theorem bclip_c (H : AHeap) (d : Int) : ACalls Tryz.prog 101 [.int .i64 d, .int .i64 (-32), .int .i64 32] H (fun v H' => v = .int .i64 (clipI d) ∧ H' = H) := by
  have hcl := clip_r d
  refine AcT true Tryz.func101 ?_; intro hbel Q hQ
  have g'1 := @hcl
  refine runTf g'1 ?_
  exact hQ _ _ (end_plain0 (.inl rfl) hbel (x := .int .i64 (clipI d)) (resT Tryz.results101) rfl ⟨rfl, rfl⟩)
theorem bpose_c (H : AHeap) (x : Int) (y : Int) (h : Int) : ACalls Tryz.prog 24 [.agg [.int .i64 x, .int .i64 y, .int .i64 h]] H (fun v H' => v = .bool (poseB x y h) ∧ H' = H) := by
  refine AcT true Tryz.func24 ?_; intro hbel Q hQ
  refine runT ?_
  refine call_v (by kernel_rfl) (bsize_c _ _ _ (by decide)) ?_
  refine runT ?_
  refine gd_split (fun h1 => ?_) (fun h1 => ?_)
  · have h1d := bsT h1
    have g'2 := (jn @h1 @h1d)
    refine runTf g'2 ?_
    refine call_v (by kernel_rfl) (bsize_c _ _ _ (by decide)) ?_
    refine runTf g'2 ?_
    refine gd_split (fun h2 => ?_) (fun h2 => ?_)
    · have h2d := bsT h2
      have g'3 := (jn @h2 (jn @h2d g'2))
      refine runTf g'3 ?_
      refine gd_split (fun h3 => ?_) (fun h3 => ?_)
      · have h3d := bsT h3
        have g'4 := (jn @h3 (jn @h3d g'3))
        refine runTf g'4 ?_
        exact hQ _ _ (end_plain (.inl rfl) hbel (x := .bool (decide (h < 256))) (resT Tryz.results24) rfl ⟨by simp [poseB, h1d, h2d, h3d], rfl⟩)
      · have h3d := bsT h3
        have g'5 := (jn @h3 (jn @h3d g'3))
        refine runTf g'5 ?_
        exact hQ _ _ (end_plain (.inl rfl) hbel (x := .bool false) (resT Tryz.results24) rfl ⟨by simp [poseB, h1d, h2d, h3d], rfl⟩)
    · have h2d := bsT h2
      have g'6 := (jn @h2 (jn @h2d g'2))
      refine runTf g'6 ?_
      exact hQ _ _ (end_plain (.inl rfl) hbel (x := .bool false) (resT Tryz.results24) rfl ⟨by simp [poseB, h1d, h2d], rfl⟩)
  · have h1d := bsT h1
    have g'7 := (jn @h1 @h1d)
    refine runTf g'7 ?_
    exact hQ _ _ (end_plain (.inl rfl) hbel (x := .bool false) (resT Tryz.results24) rfl ⟨by simp [poseB, h1d], rfl⟩)
theorem aim_c (H : AHeap) (x : Int) (y : Int) (h : Int) (tx : Int) (ty : Int) : ACalls Tryz.prog 40 [.agg [.int .i64 x, .int .i64 y, .int .i64 h], .agg [.int .i64 tx, .int .i64 ty]] H (fun v H' => v = .tup [.agg [.int .i64 (aimT x y h tx ty), .int .i64 (aimF x y h tx ty)], .int .i64 (aimE x y h tx ty)] ∧ H' = H) := by
  have hcl := clip_r (delI h (towI x y tx ty))
  refine AcT true Tryz.func40 ?_; intro hbel Q hQ
  have g'8 := @hcl
  refine runTf g'8 ?_
  refine call_v (by kernel_rfl) (mwithin_c _ h 0 255) ?_
  refine runTf g'8 ?_
  refine cond_split (fun h1 => ?_) (fun h1 => ?_)
  · have h1d := bsT h1
    have hfinE0 : aimE x y h tx ty = 1 := if_neg (by simp [h1d])
    have hfinT0 : aimT x y h tx ty = 0 := if_neg (by rw [hfinE0]; decide)
    have hfinF0 : aimF x y h tx ty = 0 := if_neg (fun hh => by rw [hfinE0] at hh; exact absurd hh.1 (by decide))
    have g'9 := (jn @h1 (jn @h1d g'8))
    refine runTf g'9 ?_
    exact hQ _ _ (end_plain (.inl rfl) hbel (x := .tup [.agg [.int .i64 0, .int .i64 0], .int .i64 1]) (resT Tryz.results40) rfl ⟨by first | (rw [hfinE0, hfinT0, hfinF0]; done) | (rw [hfinE, hfinT, hfinF0]; done) | (rw [hfinE, hfinT, hfinF, hfinN]; first | done | rfl), rfl⟩)
  · have h1d := bsT h1
    have hbt : btw h 0 255 = true := h1d
    have hbi := btw_iff.1 hbt
    have hae : aimE x y h tx ty = towE x y tx ty := if_pos hbt
    have g'10 := (jn @h1 (jn @h1d g'8))
    refine runTf g'10 ?_
    refine call_v (by kernel_rfl) (toward_c _ x y tx ty) ?_
    refine runTf g'10 ?_
    refine cond_split (fun h2 => ?_) (fun h2 => ?_)
    · have h2d := bsT h2
      have h2n := bnT h2
      have hne : ¬ towE x y tx ty = 0 := by simpa using h2d
      have hfinE0 := hae
      have hfinT0 : aimT x y h tx ty = 0 := if_neg (by rw [hae]; exact hne)
      have hfinF0 : aimF x y h tx ty = 0 := if_neg (fun hh => hne (by rw [← hae]; exact hh.1))
      have g'11 := (jn @h2 (jn @h2n (jn @int_bne (jn @int_beq g'10))))
      refine runTf g'11 ?_
      exact hQ _ _ (end_plain (.inl rfl) hbel (x := .tup [.agg [.int .i64 0, .int .i64 0], .int .i64 (towE x y tx ty)]) (resT Tryz.results40) rfl ⟨by first | (rw [hfinE0, hfinT0, hfinF0]; done) | (rw [hfinE, hfinT, hfinF0]; done) | (rw [hfinE, hfinT, hfinF, hfinN]; first | done | rfl), rfl⟩)
    · have h2d := bsT h2
      have h2n := bnT h2
      have he0 : towE x y tx ty = 0 := by simpa using h2d
      obtain ⟨hp1, hp2, hpd, -⟩ := towE0 he0
      obtain ⟨hm, -, -⟩ := tow_bey he0
      have hq1 := mul_bd (a := tx - x) (b := tx - x) (A := 2097152) (B := 2097152) (by omega) (by omega)
      have hq2 := mul_bd (a := ty - y) (b := ty - y) (A := 2097152) (B := 2097152) (by omega) (by omega)
      have hfinE : aimE x y h tx ty = 0 := by rw [hae]; exact he0
      have hfinT : aimT x y h tx ty = clipI (delI h (towI x y tx ty)) := if_pos hfinE
      have g'12 := (jn @h2 (jn @h2n (jn @int_bne (jn @int_beq g'10))))
      refine runTf g'12 ?_
      refine call_v (by kernel_rfl) (delta_c _ h (towI x y tx ty) (by omega) (by omega)) ?_
      refine runTf g'12 ?_
      refine call_v (by kernel_rfl) (mwithin_c _ (delI h (towI x y tx ty)) (-8) 8) ?_
      refine runTf g'12 ?_
      refine cond_split (fun h3 => ?_) (fun h3 => ?_)
      · have h3d := bsT h3
        have hfinF0 : aimF x y h tx ty = 0 := if_neg (fun hh => by rw [hh.2] at h3d; exact absurd h3d (by decide))
        have g'13 := (jn @h3 (jn @h3d g'12))
        refine runTf g'13 ?_
        exact hQ _ _ (end_plain (.inl rfl) hbel (x := .tup [.agg [.int .i64 (clipI (delI h (towI x y tx ty))), .int .i64 0], .int .i64 0]) (resT Tryz.results40) rfl ⟨by first | (rw [hfinE0, hfinT0, hfinF0]; done) | (rw [hfinE, hfinT, hfinF0]; done) | (rw [hfinE, hfinT, hfinF, hfinN]; first | done | rfl), rfl⟩)
      · have h3d := bsT h3
        have hfinF : aimF x y h tx ty = ((fwM (((tx - x) * (tx - x)) + ((ty - y) * (ty - y))) 32 0 : Nat) : Int) := if_pos ⟨hfinE, h3d⟩
        have g'14 := (jn @h3 (jn @h3d g'12))
        refine runTf g'14 ?_
        refine go_loop try_mixed (by kernel_rfl) (fun k F Hx => ∃ n : Nat, n + k = 32 ∧ fwM (((tx - x) * (tx - x)) + ((ty - y) * (ty - y))) k n = fwM (((tx - x) * (tx - x)) + ((ty - y) * (ty - y))) 32 0 ∧ F = [(4, .ptr (some (H.length, 0))), (10, .ptr (some (H.length + 1, 0))), (11, .int .i64 (tx - x)), (12, .int .i64 (ty - y))] ∧ Hx = H ++ [.cells true 0 [.int .i64 0, .int .i64 0], .cells true 0 [.int .i64 (clipI (delI h (towI x y tx ty))), .int .i64 ((n : Nat) : Int)]]) (32) ?_ ?_
        · refine ⟨_, _, _, ⟨0, by omega, rfl, rfl, rfl⟩, Abs.byG hbel [] rfl [2, 4] (by decide) ?_⟩
          exact absWf @Int.natCast_zero
        · rintro k0 F Hx ⟨n, hm0, hf, rfl, rfl⟩ J0 hJ0
          refine runTf g'14 ?_
          refine gd_split (fun h4 => ?_) (fun h4 => ?_)
          · have h4d := bsT h4
            have hnn := mul_bd (a := ((n : Nat) : Int) + 1) (b := ((n : Nat) : Int) + 1) (A := 33) (B := 33) (by omega) (by omega)
            have g'15 := (jn @h4 (jn @h4d g'14))
            refine runTf g'15 ?_
            refine cond_split (fun h5 => ?_) (fun h5 => ?_)
            · have h5d := bsT h5
              have hgo := h5d
              have g'16 := (jn @h5 (jn @h5d g'15))
              refine runTf g'16 ?_
              refine hJ0 _ _ ⟨k0 - 1, by omega, _, _, _, ⟨n + 1, by omega, by rw [← hf]; exact (fwM_go (by omega) hgo).symm, rfl, rfl⟩, Abs.byG hbel [] rfl [0, 1] (by decide) ?_⟩
              exact absWf (jn @Int.natCast_add @Int.natCast_one)
            · have h5d := bsT h5
              have hfinN : fwM (((tx - x) * (tx - x)) + ((ty - y) * (ty - y))) 32 0 = n := by rw [← hf]; exact fwM_stop (by omega)
              have g'17 := (jn @h5 (jn @h5d g'15))
              refine runTf g'17 ?_
              exact hQ _ _ (end_plain (.inl rfl) hbel (x := .tup [.agg [.int .i64 (clipI (delI h (towI x y tx ty))), .int .i64 ((n : Nat) : Int)], .int .i64 0]) (resT Tryz.results40) rfl ⟨by first | (rw [hfinE0, hfinT0, hfinF0]; done) | (rw [hfinE, hfinT, hfinF0]; done) | (rw [hfinE, hfinT, hfinF, hfinN]; first | done | rfl), rfl⟩)
          · have h4d := bsT h4
            obtain rfl : n = 32 := by omega
            have hfinN : fwM (((tx - x) * (tx - x)) + ((ty - y) * (ty - y))) 32 0 = 32 := by rw [← hf, show k0 = 0 by omega]; rfl
            have g'18 := (jn @h4 (jn @h4d g'14))
            refine runTf g'18 ?_
            exact hQ _ _ (end_plain (.inl rfl) hbel (x := .tup [.agg [.int .i64 (clipI (delI h (towI x y tx ty))), .int .i64 32], .int .i64 0]) (resT Tryz.results40) rfl ⟨by first | (rw [hfinE0, hfinT0, hfinF0]; done) | (rw [hfinE, hfinT, hfinF0]; done) | (rw [hfinE, hfinT, hfinF, hfinN]; first | done | rfl), rfl⟩)
theorem raim_c (H : AHeap) (x : Int) (y : Int) (h : Int) (tx : Int) (ty : Int) : ACalls Tryz.prog 41 [.agg [.int .i64 x, .int .i64 y, .int .i64 h], .agg [.int .i64 tx, .int .i64 ty]] H (fun v H' => v = .tup [.agg [.int .i64 (aimT x y h tx ty), .int .i64 (aimF x y h tx ty)], .int .i64 (aimE x y h tx ty)] ∧ H' = H) := by
  refine AcT true Tryz.func41 ?_; intro hbel Q hQ
  refine runT ?_
  refine call_v (by kernel_rfl) (bpose_c _ x y h) ?_
  refine runT ?_
  refine gd_split (fun h1 => ?_) (fun h1 => ?_)
  · have h1d := bsT h1
    have hps : poseB x y h = true := h1d
    have hbi := btw_iff.1 (poseB_iff.1 hps).2
    have g'19 := (jn @h1 @h1d)
    refine runTf g'19 ?_
    refine call_v (by kernel_rfl) (bpt_c _ tx ty) ?_
    refine runTf g'19 ?_
    refine cond_split (fun h2 => ?_) (fun h2 => ?_)
    · have h2d := bsT h2
      have hfinE0 : aimE x y h tx ty = 1 := by rw [aimE_eq]; exact if_neg (fun hh => by rw [hh.2] at h2d; exact absurd h2d (by decide))
      have hfinT0 : aimT x y h tx ty = 0 := if_neg (by rw [hfinE0]; decide)
      have hfinF0 : aimF x y h tx ty = 0 := if_neg (fun hh => by rw [hfinE0] at hh; exact absurd hh.1 (by decide))
      have g'20 := (jn @h2 (jn @h2d g'19))
      refine runTf g'20 ?_
      exact hQ _ _ (end_plain (.inl rfl) hbel (x := .tup [.agg [.int .i64 0, .int .i64 0], .int .i64 1]) (resT Tryz.results41) rfl ⟨by first | (rw [hfinE0, hfinT0, hfinF0]; done) | (rw [hfinE, hfinT, hfinF0]; done) | (rw [hfinE, hfinT, hfinF, hfinN]; first | done | rfl), rfl⟩)
    · have h2d := bsT h2
      have hae : aimE x y h tx ty = towE x y tx ty := by rw [aimE_eq]; exact if_pos ⟨hps, h2d⟩
      have g'21 := (jn @h2 (jn @h2d g'19))
      refine runTf g'21 ?_
      refine call_v (by kernel_rfl) (rtoward_c _ x y tx ty) ?_
      refine runTf g'21 ?_
      refine cond_split (fun h3 => ?_) (fun h3 => ?_)
      · have h3d := bsT h3
        have h3n := bnT h3
        have hne : ¬ towE x y tx ty = 0 := by simpa using h3d
        have hfinE0 := hae
        have hfinT0 : aimT x y h tx ty = 0 := if_neg (by rw [hae]; exact hne)
        have hfinF0 : aimF x y h tx ty = 0 := if_neg (fun hh => hne (by rw [← hae]; exact hh.1))
        have g'22 := (jn @h3 (jn @h3n (jn @int_bne (jn @int_beq g'21))))
        refine runTf g'22 ?_
        exact hQ _ _ (end_plain (.inl rfl) hbel (x := .tup [.agg [.int .i64 0, .int .i64 0], .int .i64 (towE x y tx ty)]) (resT Tryz.results41) rfl ⟨by first | (rw [hfinE0, hfinT0, hfinF0]; done) | (rw [hfinE, hfinT, hfinF0]; done) | (rw [hfinE, hfinT, hfinF, hfinN]; first | done | rfl), rfl⟩)
      · have h3d := bsT h3
        have h3n := bnT h3
        have he0 : towE x y tx ty = 0 := by simpa using h3d
        obtain ⟨hp1, hp2, hpd, -⟩ := towE0 he0
        obtain ⟨hm, -, -⟩ := tow_bey he0
        have hq1 := mul_bd (a := tx - x) (b := tx - x) (A := 2097152) (B := 2097152) (by omega) (by omega)
        have hq2 := mul_bd (a := ty - y) (b := ty - y) (A := 2097152) (B := 2097152) (by omega) (by omega)
        have hfinE : aimE x y h tx ty = 0 := by rw [hae]; exact he0
        have hfinT : aimT x y h tx ty = clipI (delI h (towI x y tx ty)) := if_pos hfinE
        have g'23 := (jn @h3 (jn @h3n (jn @int_bne (jn @int_beq g'21))))
        refine runTf g'23 ?_
        refine call_v (by kernel_rfl) (rdelta_c _ h (towI x y tx ty) (by omega) (by omega)) ?_
        refine runTf g'23 ?_
        refine call_v (by kernel_rfl) (bclip_c _ (delI h (towI x y tx ty))) ?_
        refine runTf g'23 ?_
        refine go_loop try_mixed (by kernel_rfl) (fun k F Hx => ∃ n : Nat, n + k = 32 ∧ fwM (((tx - x) * (tx - x)) + ((ty - y) * (ty - y))) k n = fwM (((tx - x) * (tx - x)) + ((ty - y) * (ty - y))) 32 0 ∧ (n = 0 ∨ within (delI h (towI x y tx ty)) 8 = true) ∧ F = [(2, .ptr (some (H.length, 0))), (3, .ptr (some (H.length + 1, 0))), (4, .ptr (some (H.length + 2, 0))), (8, .int .i64 (delI h (towI x y tx ty))), (9, .ptr (some (H.length + 3, 0)))] ∧ Hx = H ++ [.cells true 0 [.int .i64 x, .int .i64 y, .int .i64 h], .cells true 0 [.int .i64 tx, .int .i64 ty], .cells true 0 [.int .i64 0, .int .i64 0], .cells true 0 [.int .i64 (clipI (delI h (towI x y tx ty))), .int .i64 ((n : Nat) : Int)]]) (32) ?_ ?_
        · refine ⟨_, _, _, ⟨0, by omega, rfl, Or.inl rfl, rfl, rfl⟩, Abs.byG hbel [] rfl [0, 1, 2, 3] (by decide) ?_⟩
          exact absWf @Int.natCast_zero
        · rintro k0 F Hx ⟨n, hm0, hf, hw, rfl, rfl⟩ J0 hJ0
          have hnn := mul_bd (a := ((n : Nat) : Int) + 1) (b := ((n : Nat) : Int) + 1) (A := 33) (B := 33) (by omega) (by omega)
          refine runTf g'23 ?_
          refine call_v (by kernel_rfl) (bsize_c _ _ _ (by decide)) ?_
          refine runTf g'23 ?_
          refine gd_split (fun h4 => ?_) (fun h4 => ?_)
          · have h4d := bsT h4
            have hw1 := h4d
            have hfinF : aimF x y h tx ty = ((fwM (((tx - x) * (tx - x)) + ((ty - y) * (ty - y))) 32 0 : Nat) : Int) := if_pos ⟨hfinE, by rw [← within8]; exact h4d⟩
            have g'24 := (jn @h4 (jn @h4d g'23))
            refine runTf g'24 ?_
            refine gd_split (fun h5 => ?_) (fun h5 => ?_)
            · have h5d := bsT h5
              have g'25 := (jn @h5 (jn @h5d g'24))
              refine runTf g'25 ?_
              refine cond_split (fun h6 => ?_) (fun h6 => ?_)
              · have h6d := bsT h6
                have hgo := h6d
                have g'26 := (jn @h6 (jn @h6d g'25))
                refine runTf g'26 ?_
                refine hJ0 _ _ ⟨k0 - 1, by omega, _, _, _, ⟨n + 1, by omega, by rw [← hf]; exact (fwM_go (by omega) hgo).symm, Or.inr hw1, rfl, rfl⟩, Abs.byG hbel [] rfl [0, 1, 2, 3] (by decide) ?_⟩
                exact absWf (jn @Int.natCast_add @Int.natCast_one)
              · have h6d := bsT h6
                have hfinN : fwM (((tx - x) * (tx - x)) + ((ty - y) * (ty - y))) 32 0 = n := by rw [← hf]; exact fwM_stop (by omega)
                have g'27 := (jn @h6 (jn @h6d g'25))
                refine runTf g'27 ?_
                exact hQ _ _ (end_plain (.inl rfl) hbel (x := .tup [.agg [.int .i64 (clipI (delI h (towI x y tx ty))), .int .i64 ((n : Nat) : Int)], .int .i64 0]) (resT Tryz.results41) rfl ⟨by first | (rw [hfinE0, hfinT0, hfinF0]; done) | (rw [hfinE, hfinT, hfinF0]; done) | (rw [hfinE, hfinT, hfinF, hfinN]; first | done | rfl), rfl⟩)
            · have h5d := bsT h5
              have hn32 : n = 32 := by omega
              have hfinN : fwM (((tx - x) * (tx - x)) + ((ty - y) * (ty - y))) 32 0 = n := by rw [← hf, show k0 = 0 by omega]; rfl
              have g'28 := (jn @h5 (jn @h5d g'24))
              refine runTf g'28 ?_
              exact hQ _ _ (end_plain (.inl rfl) hbel (x := .tup [.agg [.int .i64 (clipI (delI h (towI x y tx ty))), .int .i64 ((n : Nat) : Int)], .int .i64 0]) (resT Tryz.results41) rfl ⟨by first | (rw [hfinE0, hfinT0, hfinF0]; done) | (rw [hfinE, hfinT, hfinF0]; done) | (rw [hfinE, hfinT, hfinF, hfinN]; first | done | rfl), rfl⟩)
          · have h4d := bsT h4
            have hfinF0 : aimF x y h tx ty = ((n : Nat) : Int) := by
              have hn0 : n = 0 := by rcases hw with hh | hh; exact hh; rw [hh] at h4d; exact absurd h4d (by decide)
              rw [hn0]; exact if_neg (fun hh => by rw [within8, hh.2] at h4d; exact absurd h4d (by decide))
            have g'29 := (jn @h4 (jn @h4d g'23))
            refine runTf g'29 ?_
            exact hQ _ _ (end_plain (.inl rfl) hbel (x := .tup [.agg [.int .i64 (clipI (delI h (towI x y tx ty))), .int .i64 ((n : Nat) : Int)], .int .i64 0]) (resT Tryz.results41) rfl ⟨by first | (rw [hfinE0, hfinT0, hfinF0]; done) | (rw [hfinE, hfinT, hfinF0]; done) | (rw [hfinE, hfinT, hfinF, hfinN]; first | done | rfl), rfl⟩)
  · have h1d := bsT h1
    have hfinE0 : aimE x y h tx ty = 1 := by rw [aimE_eq]; exact if_neg (fun hh => by rw [hh.1] at h1d; exact absurd h1d (by decide))
    have hfinT0 : aimT x y h tx ty = 0 := if_neg (by rw [hfinE0]; decide)
    have hfinF0 : aimF x y h tx ty = 0 := if_neg (fun hh => by rw [hfinE0] at hh; exact absurd hh.1 (by decide))
    have g'30 := (jn @h1 @h1d)
    refine runTf g'30 ?_
    exact hQ _ _ (end_plain (.inl rfl) hbel (x := .tup [.agg [.int .i64 0, .int .i64 0], .int .i64 1]) (resT Tryz.results41) rfl ⟨by first | (rw [hfinE0, hfinT0, hfinF0]; done) | (rw [hfinE, hfinT, hfinF0]; done) | (rw [hfinE, hfinT, hfinF, hfinN]; first | done | rfl), rfl⟩)
open Go.RowKit
def prsOf : List AV → Option (List Pt)
  | [] => some []
  | .int .i64 x :: .int .i64 y :: r => (prsOf r).map ((x, y) :: ·)
  | _ => none
theorem prsOf_eq : ∀ (xs : List AV) (l : List Pt), prsOf xs = some l → xs = prs l
  | [], l, h => by simp [prsOf] at h; subst h; rfl
  | .int .i64 x :: .int .i64 y :: r, l, h => by
    simp only [prsOf, Option.map_eq_some_iff] at h
    obtain ⟨m, hm, rfl⟩ := h
    rw [prsOf_eq r m hm]; rfl
  | [x], l, h => by unfold prsOf at h; split at h <;> simp_all
  | x :: y :: r, l, h => by
    unfold prsOf at h
    split at h
    · simp_all
    · rename_i e
      injection e with e1 e2
      injection e2 with e2 e3
      subst e1 e2 e3
      simp only [Option.map_eq_some_iff] at h
      obtain ⟨m, hm, rfl⟩ := h
      rw [prsOf_eq _ m hm]; rfl
    · cases h
/-- The generators of a zonogon's slice. -/
def gensOf (H : AHeap) (s : AV) : Option (List Pt) :=
  match s with
  | .sl (some (b, 0)) n _ => match H[b]? with
    | some (.cells _ 2 xs) => (prsOf xs).bind fun l => bif Nat.beq l.length n then some l else none
    | _ => none
  | _ => none
theorem gensOf_isP {H : AHeap} {s : AV} {l : List Pt} (h : gensOf H s = some l) : SlP H s l := by
  unfold gensOf at h
  split at h
  · rename_i b n c
    split at h
    · rename_i own xs hb
      cases hp : prsOf xs with
      | none => rw [hp] at h; cases h
      | some m =>
        rw [hp, Option.bind_some] at h
        cases hn : Nat.beq m.length n
        · rw [hn] at h; cases h
        · rw [hn, cond_true] at h
          injection h with h
          subst h
          have := Nat.eq_of_beq_eq_true hn
          subst this
          exact ⟨b, own, c, rfl, by rw [hb, prsOf_eq _ _ hp]⟩
    · cases h
  · cases h
theorem TbOk.filter {P : Program} (p : Nat × Bool × Func → Bool) : ∀ {tb : List (Nat × Bool × Func)}, TbOk P tb → TbOk P (tb.filter p)
  | _, .nil => .nil
  | _, .cons (f := f) (q := q) (fn := fn) h1 h2 h3 hr => by
    rw [List.filter_cons]
    split
    · exact .cons h1 h2 h3 (TbOk.filter p hr)
    · exact TbOk.filter p hr
open Go.RowKit
def ext40 : Caller := fun f args H =>
  match args with
  | [.int .i64 h] => bif Nat.beq f 53 then some (.agg [.int .i64 (dirV h).1, .int .i64 (dirV h).2.1, .int .i64 (dirV h).2.2], none) else none
  | [.agg [.int .i64 x0, .int .i64 y0, .int .i64 x1, .int .i64 y1], .int .i64 h, .agg [.int .i64 t, .int .i64 g], .agg [.int .i64 tu, .int .i64 le, .int .i64 sl, .int .i64 ra]] =>
    bif Nat.beq f 13 then some (.tup [.agg [.int .i64 (mkX (sweE x0 y0 x1 y1 h t g tu le sl ra) (sweX x0 x1 h g le)), .int .i64 (mkX (sweE x0 y0 x1 y1 h t g tu le sl ra) (sweY y0 y1 h g le)), .sl (some (H.length, 0)) (mkL (sweE x0 y0 x1 y1 h t g tu le sl ra) (sweL x0 y0 x1 y1 h g le sl)).length (capG (mkL (sweE x0 y0 x1 y1 h t g tu le sl ra) (sweL x0 y0 x1 y1 h g le sl)).length)], .int .i64 (sweE x0 y0 x1 y1 h t g tu le sl ra)],
      some (H ++ [.cells (ownG (mkL (sweE x0 y0 x1 y1 h t g tu le sl ra) (sweL x0 y0 x1 y1 h g le sl)).length) 2 (prs (mkL (sweE x0 y0 x1 y1 h t g tu le sl ra) (sweL x0 y0 x1 y1 h g le sl)))])) else none
  | [.agg [.int .i64 fx, .int .i64 fy], .agg [.int .i64 tx, .int .i64 ty]] => bif Nat.beq f 36 then some (.tup [.int .i64 (towI fx fy tx ty), .int .i64 (towE fx fy tx ty)], none) else none
  | [.agg [.int .i64 x, .int .i64 y, s], .agg [.int .i64 x0, .int .i64 y0, .int .i64 x1, .int .i64 y1]] =>
    bif Nat.beq f 68 then (gensOf H s).map fun l => (.bool (apartB x y l x0 y0 x1 y1), none) else none
  | [.sl none 0 (some 0), .int .i64 n] =>
    bif Nat.beq f 163 && (decide (0 < n) && decide (n ≤ 1000)) then some (.sl (some (H.length, 0)) 0 none, some (H ++ [.cells true 2 []])) else none
  | _ => ext f args H
theorem ext40_ok : CallOk Tryz.prog ext40 := fun f args H x o h => by
  unfold ext40 at h
  split at h
  · rename_i z
    cases hf : Nat.beq f 53
    · rw [hf] at h; cases h
    · rw [hf, cond_true] at h
      have e := Nat.eq_of_beq_eq_true hf
      subst e
      simp only [Option.some.injEq, Prod.mk.injEq] at h
      obtain ⟨rfl, rfl⟩ := h
      exact ⟨by kernel_rfl, Nat.le_refl _, dir_c H z⟩
  · rename_i x0 y0 x1 y1 z t g tu le sl ra
    cases hf : Nat.beq f 13
    · rw [hf] at h; cases h
    · rw [hf, cond_true] at h
      have e := Nat.eq_of_beq_eq_true hf
      subst e
      simp only [Option.some.injEq, Prod.mk.injEq] at h
      obtain ⟨rfl, rfl⟩ := h
      exact ⟨by kernel_rfl, by simp, sweep_c H x0 y0 x1 y1 z t g tu le sl ra⟩
  · rename_i fx fy tx ty
    cases hf : Nat.beq f 36
    · rw [hf] at h; cases h
    · rw [hf, cond_true] at h
      have e := Nat.eq_of_beq_eq_true hf
      subst e
      simp only [Option.some.injEq, Prod.mk.injEq] at h
      obtain ⟨rfl, rfl⟩ := h
      exact ⟨by kernel_rfl, Nat.le_refl _, toward_c H fx fy tx ty⟩
  · rename_i x y s x0 y0 x1 y1
    cases hf : Nat.beq f 68
    · rw [hf] at h; cases h
    · rw [hf, cond_true] at h
      have e := Nat.eq_of_beq_eq_true hf
      subst e
      simp only [Option.map_eq_some_iff, Prod.mk.injEq] at h
      obtain ⟨l1, h1, rfl, rfl⟩ := h
      exact ⟨by kernel_rfl, Nat.le_refl _, apart_c H _ _ _ _ _ _ _ _ (gensOf_isP h1)⟩
  · rename_i n
    cases hf : Nat.beq f 163 && (decide (0 < n) && decide (n ≤ 1000))
    · rw [hf] at h; cases h
    · rw [hf, cond_true] at h
      simp only [Bool.and_eq_true, decide_eq_true_eq] at hf
      obtain ⟨h1, h2, h3⟩ := hf
      have e := Nat.eq_of_beq_eq_true h1
      subst e
      simp only [Option.some.injEq, Prod.mk.injEq] at h
      obtain ⟨rfl, rfl⟩ := h
      obtain ⟨m, rfl⟩ : ∃ m : Nat, n = m := ⟨n.toNat, by omega⟩
      exact ⟨by kernel_rfl, by simp, grow_a (by omega) (by omega)⟩
  · exact ext_ok f args H x o h
/-- The functions that the run enters: all but those. -/
noncomputable def tb40 : List (Nat × Bool × Func) := tb.filter fun p => !Nat.beq p.1 163 && !Nat.beq p.1 53 && !Nat.beq p.1 36
theorem tb40_ok : TbOk Tryz.prog tb40 := tb_ok.filter _
open Go.RowKit
theorem awake_a (H : AHeap) : ACalls Tryz.prog 12 [] H (fun v H' => v = .bool true ∧ H' = H) :=
  ACalls.closed (ran try_mixed ext40_ok tb40 tb40_ok 20000 60 (x := .bool true) (o := none) (by kernel_rfl)) rfl rfl H
open Go.RowKit
theorem estO_t {l : List T6} (h : estO l = true) : setB l = true ∧ 0 < l.length := of_decide_eq_true h
open Go.RowKit
/-- What is chosen. -/
def okC (W Hh : Int) (xs : List Int) (l : List T6) (tx ty tu le sl ra : Int) : Bool := estO l && (vldB W Hh xs && (ptB tx ty && bndB tu le sl ra))
def aiE (l : List T6) (tx ty : Int) : Int := aimE (estX l) (estY l) (estG l) tx ty
def aiT (l : List T6) (tx ty : Int) : Int := aimT (estX l) (estY l) (estG l) tx ty
def aiF (l : List T6) (tx ty : Int) : Int := aimF (estX l) (estY l) (estG l) tx ty
def chE (W Hh : Int) (xs : List Int) (l : List T6) (tx ty tu le sl ra : Int) : Int := if okC W Hh xs l tx ty tu le sl ra = true then aiE l tx ty else 1
def chT (W Hh : Int) (xs : List Int) (l : List T6) (tx ty tu le sl ra : Int) : Int := if okC W Hh xs l tx ty tu le sl ra = true ∧ aiE l tx ty = 0 then aiT l tx ty else 0
def sfP (W Hh : Int) (xs : List Int) (l : List T6) (tx ty tu le sl ra : Int) (n : Int) : Bool := saB W Hh xs l (aiT l tx ty) n tu le sl ra
def chF (W Hh : Int) (xs : List Int) (l : List T6) (tx ty tu le sl ra : Int) : Int := if okC W Hh xs l tx ty tu le sl ra = true ∧ aiE l tx ty = 0 then ((choN (sfP W Hh xs l tx ty tu le sl ra) (aiF l tx ty).toNat : Nat) : Int) else 0
theorem aiF_bd (l : List T6) (tx ty : Int) : cmdB (aiT l tx ty) (aiF l tx ty) = true := aim_cmd _ _ _ _ _
theorem cmd_le {t f n : Int} (h : cmdB t f = true) (hn : 0 ≤ n ∧ n ≤ f) : cmdB t n = true := by
  unfold cmdB at *; simp only [Bool.and_eq_true, btw_iff] at *; exact ⟨h.1, by omega⟩
theorem okC_iff {W Hh : Int} {xs : List Int} {l : List T6} {tx ty tu le sl ra : Int} : okC W Hh xs l tx ty tu le sl ra = true ↔ estO l = true ∧ vldB W Hh xs = true ∧ ptB tx ty = true ∧ bndB tu le sl ra = true := by
  unfold okC; simp only [Bool.and_eq_true]
theorem sfE {W Hh : Int} {xs : List Int} {l : List T6} {tx ty tu le sl ra : Int} (h : okC W Hh xs l tx ty tu le sl ra = true) {n : Int} (hn : 0 ≤ n ∧ n ≤ aiF l tx ty) : saE W Hh xs l (aiT l tx ty) n tu le sl ra = 0 := by
  have h := okC_iff.1 h
  exact saE_0 h.2.1 (estO_t h.1).1 (cmd_le (aiF_bd l tx ty) hn) h.2.2.2
theorem sf0 {W Hh : Int} {xs : List Int} {l : List T6} {tx ty tu le sl ra : Int} (h : okC W Hh xs l tx ty tu le sl ra = true) : sfP W Hh xs l tx ty tu le sl ra 0 = true := by
  have hc := aiF_bd l tx ty
  unfold cmdB at hc; simp only [Bool.and_eq_true, btw_iff] at hc
  exact saB_z (sfE h (by omega)) rfl
theorem ch_safe {W Hh : Int} {xs : List Int} {l : List T6} {tx ty tu le sl ra : Int} (h : chE W Hh xs l tx ty tu le sl ra = 0) : saB W Hh xs l (chT W Hh xs l tx ty tu le sl ra) (chF W Hh xs l tx ty tu le sl ra) tu le sl ra = true ∧ saE W Hh xs l (chT W Hh xs l tx ty tu le sl ra) (chF W Hh xs l tx ty tu le sl ra) tu le sl ra = 0 := by
  unfold chE at h
  split at h
  · rename_i ho
    have e1 : chT W Hh xs l tx ty tu le sl ra = aiT l tx ty := if_pos ⟨ho, h⟩
    have e2 : chF W Hh xs l tx ty tu le sl ra = ((choN (sfP W Hh xs l tx ty tu le sl ra) (aiF l tx ty).toNat : Nat) : Int) := if_pos ⟨ho, h⟩
    have hc := aiF_bd l tx ty
    unfold cmdB at hc; simp only [Bool.and_eq_true, btw_iff] at hc
    have hle := choN_le (sfP W Hh xs l tx ty tu le sl ra) (aiF l tx ty).toNat
    rw [e1, e2]
    exact ⟨choN_ok (sf0 ho) _, sfE ho (by omega)⟩
  · omega
theorem aimq_c (H : AHeap) (l : List T6) (tx ty : Int) : ACalls Tryz.prog 40 [.agg [.int .i64 (estX l), .int .i64 (estY l), .int .i64 (estG l)], .agg [.int .i64 tx, .int .i64 ty]] H (fun v H' => v = .tup [.agg [.int .i64 (aiT l tx ty), .int .i64 (aiF l tx ty)], .int .i64 (aiE l tx ty)] ∧ H' = H) := aim_c H _ _ _ tx ty
theorem raimq_c (H : AHeap) (l : List T6) (tx ty : Int) : ACalls Tryz.prog 41 [.agg [.int .i64 (estX l), .int .i64 (estY l), .int .i64 (estG l)], .agg [.int .i64 tx, .int .i64 ty]] H (fun v H' => v = .tup [.agg [.int .i64 (aiT l tx ty), .int .i64 (aiF l tx ty)], .int .i64 (aiE l tx ty)] ∧ H' = H) := raim_c H _ _ _ tx ty
theorem cho_c (H : AHeap) (W : Int) (Hh : Int) (pp : AV) (xs : List Int) (s : AV) (l : List T6) (tx : Int) (ty : Int) (tu : Int) (le : Int) (sl : Int) (ra : Int) (hpp : Sl H 1 pp xs.length (ints .u8 xs)) (hs : Sl H 6 s l.length (r6 l)) (hl : l.length ≤ 1000000) : ACalls Tryz.prog 44 [.agg [.int .i64 W, .int .i64 Hh, pp], s, .agg [.int .i64 tx, .int .i64 ty], .agg [.int .i64 tu, .int .i64 le, .int .i64 sl, .int .i64 ra]] H (fun v H' => v = .tup [.agg [.int .i64 (chT W Hh xs l tx ty tu le sl ra), .int .i64 (chF W Hh xs l tx ty tu le sl ra)], .int .i64 (chE W Hh xs l tx ty tu le sl ra)] ∧ H' = H) := by
  obtain ⟨bpp, opp, cpp, rfl, hbpp⟩ := hpp
  have hblpp := getElem?_lt hbpp
  have hb0pp := fun l => get_app (l := l) hbpp
  obtain ⟨bs, os, cs, rfl, hbs⟩ := hs
  have hbls := getElem?_lt hbs
  have hb0s := fun l => get_app (l := l) hbs
  refine AcT true Tryz.func44 ?_; intro hbel Q hQ
  have g'1 := (jn @hbpp (jn @hb0pp (jn @hbs @hb0s)))
  refine runTf g'1 ?_
  refine call_v (by kernel_rfl) (est_c _ _ l ⟨_, _, _, rfl, by first | exact hb0s _ | exact hbs⟩ (by omega)) ?_
  refine runTf g'1 ?_
  refine gd_split (fun h1 => ?_) (fun h1 => ?_)
  · have h1d := bsT h1
    have hO := h1d
    have hl0 := estO_t hO
    have g'2 := (jn @h1 (jn @h1d g'1))
    refine runTf g'2 ?_
    refine call_v (by kernel_rfl) (valid_a _ W Hh _ xs (.inr ⟨_, _, _, rfl, by first | exact hb0pp _ | exact hbpp⟩)) ?_
    refine runTf g'2 ?_
    refine gd_split (fun h2 => ?_) (fun h2 => ?_)
    · have h2d := bsT h2
      have hV := h2d
      have g'3 := (jn @h2 (jn @h2d g'2))
      refine runTf g'3 ?_
      refine call_v (by kernel_rfl) (mvpt_c _ tx ty) ?_
      refine runTf g'3 ?_
      refine gd_split (fun h3 => ?_) (fun h3 => ?_)
      · have h3d := bsT h3
        have hP := h3d
        have g'4 := (jn @h3 (jn @h3d g'3))
        refine runTf g'4 ?_
        refine call_v (by kernel_rfl) (vbnd_c _ tu le sl ra) ?_
        refine runTf g'4 ?_
        refine cond_split (fun h4 => ?_) (fun h4 => ?_)
        · have h4d := bsT h4
          have hno : ¬ okC W Hh xs l tx ty tu le sl ra = true := by rw [okC_iff]; intro hh; simp [hh.1, hh.2.1, hh.2.2.1, hh.2.2.2] at h4d
          have hfinE : chE W Hh xs l tx ty tu le sl ra = 1 := if_neg hno
          have hfinT : chT W Hh xs l tx ty tu le sl ra = 0 := if_neg (fun hh => hno hh.1)
          have hfinF : chF W Hh xs l tx ty tu le sl ra = 0 := if_neg (fun hh => hno hh.1)
          have g'5 := (jn @h4 (jn @h4d g'4))
          refine runTf g'5 ?_
          exact hQ _ _ (end_plain (.inl rfl) hbel (x := .tup [.agg [.int .i64 0, .int .i64 0], .int .i64 1]) (resT Tryz.results44) rfl ⟨by first | (rw [hfinE, hfinT, hfinF]; done) | (rw [hfinT, hfinF, hfinE]; done), rfl⟩)
        · have h4d := bsT h4
          have hBd := h4d
          have hok : okC W Hh xs l tx ty tu le sl ra = true := okC_iff.2 ⟨hO, hV, hP, hBd⟩
          have hcm := aiF_bd l tx ty
          have haf : 0 ≤ aiF l tx ty ∧ aiF l tx ty ≤ 32 := by have hh := hcm; simp only [cmdB, Bool.and_eq_true, btw_iff] at hh; omega
          have hnt : (((aiF l tx ty).toNat : Nat) : Int) = aiF l tx ty := by omega
          have g'6 := (jn @h4 (jn @h4d g'4))
          refine runTf g'6 ?_
          refine call_v (by kernel_rfl) (aimq_c _ l tx ty) ?_
          refine runTf g'6 ?_
          refine cond_split (fun h5 => ?_) (fun h5 => ?_)
          · have h5d := bsT h5
            have h5n := bnT h5
            have hne : ¬ aiE l tx ty = 0 := by simpa using h5d
            have hfinE : chE W Hh xs l tx ty tu le sl ra = aiE l tx ty := if_pos hok
            have hfinT : chT W Hh xs l tx ty tu le sl ra = 0 := if_neg (fun hh => hne hh.2)
            have hfinF : chF W Hh xs l tx ty tu le sl ra = 0 := if_neg (fun hh => hne hh.2)
            have g'7 := (jn @h5 (jn @h5n (jn @int_bne (jn @int_beq g'6))))
            refine runTf g'7 ?_
            exact hQ _ _ (end_plain (.inl rfl) hbel (x := .tup [.agg [.int .i64 0, .int .i64 0], .int .i64 (aiE l tx ty)]) (resT Tryz.results44) rfl ⟨by first | (rw [hfinE, hfinT, hfinF]; done) | (rw [hfinT, hfinF, hfinE]; done), rfl⟩)
          · have h5d := bsT h5
            have h5n := bnT h5
            have he0 : aiE l tx ty = 0 := by simpa using h5d
            have hfinE : chE W Hh xs l tx ty tu le sl ra = 0 := (if_pos hok).trans he0
            have hfinT : chT W Hh xs l tx ty tu le sl ra = aiT l tx ty := if_pos ⟨hok, he0⟩
            have hcf : chF W Hh xs l tx ty tu le sl ra = ((choN (sfP W Hh xs l tx ty tu le sl ra) (aiF l tx ty).toNat : Nat) : Int) := if_pos ⟨hok, he0⟩
            have g'8 := (jn @h5 (jn @h5n (jn @int_bne (jn @int_beq g'6))))
            refine runTf g'8 ?_
            refine go_loop try_mixed (by kernel_rfl) (fun k F Hx => ∃ n : Nat, n = k ∧ choN (sfP W Hh xs l tx ty tu le sl ra) (aiF l tx ty).toNat = choN (sfP W Hh xs l tx ty tu le sl ra) n ∧ n ≤ (aiF l tx ty).toNat ∧ F = [(1, .sl (some (bs, 0)) l.length cs), (4, .ptr (some (H.length, 0))), (7, .ptr (some (H.length + 1, 0))), (8, .ptr (some (H.length + 2, 0))), (9, .int .i64 0), (12, .ptr (some (H.length + 3, 0)))] ∧ Hx = H ++ [.cells true 0 [.int .i64 W, .int .i64 Hh, .sl (some (bpp, 0)) xs.length cpp], .cells true 0 [.int .i64 tu, .int .i64 le, .int .i64 sl, .int .i64 ra], .cells true 0 [.int .i64 0, .int .i64 0], .cells true 0 [.int .i64 (aiT l tx ty), .int .i64 ((n : Nat) : Int)]]) ((aiF l tx ty).toNat) ?_ ?_
            · refine ⟨_, _, _, ⟨(aiF l tx ty).toNat, by omega, rfl, Nat.le_refl _, rfl, rfl⟩, Abs.byG hbel [] rfl [0, 2, 3, 5] (by decide) ?_⟩
              exact absWf @hnt
            · rintro k0 F Hx ⟨n, hm0, hch, hnl, rfl, rfl⟩ J0 hJ0
              refine runTf g'8 ?_
              refine call_v (by kernel_rfl) (safe_c _ W Hh _ xs _ l (aiT l tx ty) ((n : Nat) : Int) tu le sl ra ⟨_, _, _, rfl, by first | exact hb0pp _ | exact hbpp⟩ ⟨_, _, _, rfl, by first | exact hb0s _ | exact hbs⟩ (by omega)) ?_
              refine runTf g'8 ?_
              refine cond_split (fun h6 => ?_) (fun h6 => ?_)
              · have h6d := bsT h6
                have hfinF : chF W Hh xs l tx ty tu le sl ra = ((n : Nat) : Int) := by rw [hcf, hch]; exact congrArg _ (choN_t h6d)
                have g'9 := (jn @h6 (jn @h6d g'8))
                refine runTf g'9 ?_
                exact hQ _ _ (end_plain (.inl rfl) hbel (x := .tup [.agg [.int .i64 (aiT l tx ty), .int .i64 ((n : Nat) : Int)], .int .i64 0]) (resT Tryz.results44) rfl ⟨by first | (rw [hfinE, hfinT, hfinF]; done) | (rw [hfinT, hfinF, hfinE]; done), rfl⟩)
              · have h6d := bsT h6
                have hn0 : 0 < n := by
                  rcases Nat.eq_zero_or_pos n with hz | hz
                  · subst hz; have hh := sf0 hok; exact absurd (hh.symm.trans h6d) (by decide)
                  · exact hz
                have hch2 : choN (sfP W Hh xs l tx ty tu le sl ra) (aiF l tx ty).toNat = choN (sfP W Hh xs l tx ty tu le sl ra) (n - 1) := by rw [hch]; exact choN_f hn0 h6d
                have g'10 := (jn @h6 (jn @h6d g'8))
                refine runTf g'10 ?_
                have hnc : ((n - 1 : Nat) : Int) = ((n : Nat) : Int) - 1 := by omega
                refine hJ0 _ _ ⟨n - 1, by omega, _, _, _, ⟨n - 1, by omega, hch2, by omega, rfl, rfl⟩, Abs.byG hbel [] rfl [0, 1, 2, 3] (by decide) ?_⟩
                exact absWf (jn @Int.natCast_sub @hnc)
      · have h3d := bsT h3
        have hno : ¬ okC W Hh xs l tx ty tu le sl ra = true := by rw [okC_iff]; intro hh; simp [hh.1, hh.2.1, hh.2.2.1, hh.2.2.2] at h3d
        have hfinE : chE W Hh xs l tx ty tu le sl ra = 1 := if_neg hno
        have hfinT : chT W Hh xs l tx ty tu le sl ra = 0 := if_neg (fun hh => hno hh.1)
        have hfinF : chF W Hh xs l tx ty tu le sl ra = 0 := if_neg (fun hh => hno hh.1)
        have g'11 := (jn @h3 (jn @h3d g'3))
        refine runTf g'11 ?_
        exact hQ _ _ (end_plain (.inl rfl) hbel (x := .tup [.agg [.int .i64 0, .int .i64 0], .int .i64 1]) (resT Tryz.results44) rfl ⟨by first | (rw [hfinE, hfinT, hfinF]; done) | (rw [hfinT, hfinF, hfinE]; done), rfl⟩)
    · have h2d := bsT h2
      have hno : ¬ okC W Hh xs l tx ty tu le sl ra = true := by rw [okC_iff]; intro hh; simp [hh.1, hh.2.1, hh.2.2.1, hh.2.2.2] at h2d
      have hfinE : chE W Hh xs l tx ty tu le sl ra = 1 := if_neg hno
      have hfinT : chT W Hh xs l tx ty tu le sl ra = 0 := if_neg (fun hh => hno hh.1)
      have hfinF : chF W Hh xs l tx ty tu le sl ra = 0 := if_neg (fun hh => hno hh.1)
      have g'12 := (jn @h2 (jn @h2d g'2))
      refine runTf g'12 ?_
      exact hQ _ _ (end_plain (.inl rfl) hbel (x := .tup [.agg [.int .i64 0, .int .i64 0], .int .i64 1]) (resT Tryz.results44) rfl ⟨by first | (rw [hfinE, hfinT, hfinF]; done) | (rw [hfinT, hfinF, hfinE]; done), rfl⟩)
  · have h1d := bsT h1
    have hno : ¬ okC W Hh xs l tx ty tu le sl ra = true := by rw [okC_iff]; intro hh; simp [hh.1, hh.2.1, hh.2.2.1, hh.2.2.2] at h1d
    have hfinE : chE W Hh xs l tx ty tu le sl ra = 1 := if_neg hno
    have hfinT : chT W Hh xs l tx ty tu le sl ra = 0 := if_neg (fun hh => hno hh.1)
    have hfinF : chF W Hh xs l tx ty tu le sl ra = 0 := if_neg (fun hh => hno hh.1)
    have g'13 := (jn @h1 (jn @h1d g'1))
    refine runTf g'13 ?_
    exact hQ _ _ (end_plain (.inl rfl) hbel (x := .tup [.agg [.int .i64 0, .int .i64 0], .int .i64 1]) (resT Tryz.results44) rfl ⟨by first | (rw [hfinE, hfinT, hfinF]; done) | (rw [hfinT, hfinF, hfinE]; done), rfl⟩)
theorem rcho_c (H : AHeap) (W : Int) (Hh : Int) (pp : AV) (xs : List Int) (s : AV) (l : List T6) (tx : Int) (ty : Int) (tu : Int) (le : Int) (sl : Int) (ra : Int) (hpp : Sl H 1 pp xs.length (ints .u8 xs)) (hs : Sl H 6 s l.length (r6 l)) (hl : l.length ≤ 1000000) : ACalls Tryz.prog 45 [.agg [.int .i64 W, .int .i64 Hh, pp], s, .agg [.int .i64 tx, .int .i64 ty], .agg [.int .i64 tu, .int .i64 le, .int .i64 sl, .int .i64 ra]] H (fun v H' => v = .tup [.agg [.int .i64 (chT W Hh xs l tx ty tu le sl ra), .int .i64 (chF W Hh xs l tx ty tu le sl ra)], .int .i64 (chE W Hh xs l tx ty tu le sl ra)] ∧ H' = H) := by
  obtain ⟨bpp, opp, cpp, rfl, hbpp⟩ := hpp
  have hblpp := getElem?_lt hbpp
  have hb0pp := fun l => get_app (l := l) hbpp
  obtain ⟨bs, os, cs, rfl, hbs⟩ := hs
  have hbls := getElem?_lt hbs
  have hb0s := fun l => get_app (l := l) hbs
  refine AcT true Tryz.func45 ?_; intro hbel Q hQ
  have g'14 := (jn @hbpp (jn @hb0pp (jn @hbs @hb0s)))
  refine runTf g'14 ?_
  refine call_v (by kernel_rfl) (rest_c _ _ l ⟨_, _, _, rfl, by first | exact hb0s _ | exact hbs⟩ (by omega)) ?_
  refine runTf g'14 ?_
  refine gd_split (fun h1 => ?_) (fun h1 => ?_)
  · have h1d := bsT h1
    have hO := h1d
    have hl0 := estO_t hO
    have g'15 := (jn @h1 (jn @h1d g'14))
    refine runTf g'15 ?_
    refine call_v (by kernel_rfl) (rplan_a _ W Hh _ xs (.inr ⟨_, _, _, rfl, by first | exact hb0pp _ | exact hbpp⟩)) ?_
    refine runTf g'15 ?_
    refine gd_split (fun h2 => ?_) (fun h2 => ?_)
    · have h2d := bsT h2
      have hV := h2d
      have g'16 := (jn @h2 (jn @h2d g'15))
      refine runTf g'16 ?_
      refine call_v (by kernel_rfl) (bpt_c _ tx ty) ?_
      refine runTf g'16 ?_
      refine gd_split (fun h3 => ?_) (fun h3 => ?_)
      · have h3d := bsT h3
        have hP := h3d
        have g'17 := (jn @h3 (jn @h3d g'16))
        refine runTf g'17 ?_
        refine call_v (by kernel_rfl) (bbnd_c _ tu le sl ra) ?_
        refine runTf g'17 ?_
        refine cond_split (fun h4 => ?_) (fun h4 => ?_)
        · have h4d := bsT h4
          have hno : ¬ okC W Hh xs l tx ty tu le sl ra = true := by rw [okC_iff]; intro hh; simp [hh.1, hh.2.1, hh.2.2.1, hh.2.2.2] at h4d
          have hfinE : chE W Hh xs l tx ty tu le sl ra = 1 := if_neg hno
          have hfinT : chT W Hh xs l tx ty tu le sl ra = 0 := if_neg (fun hh => hno hh.1)
          have hfinF : chF W Hh xs l tx ty tu le sl ra = 0 := if_neg (fun hh => hno hh.1)
          have g'18 := (jn @h4 (jn @h4d g'17))
          refine runTf g'18 ?_
          exact hQ _ _ (end_plain (.inl rfl) hbel (x := .tup [.agg [.int .i64 0, .int .i64 0], .int .i64 1]) (resT Tryz.results45) rfl ⟨by first | (rw [hfinE, hfinT, hfinF]; done) | (rw [hfinT, hfinF, hfinE]; done), rfl⟩)
        · have h4d := bsT h4
          have hBd := h4d
          have hok : okC W Hh xs l tx ty tu le sl ra = true := okC_iff.2 ⟨hO, hV, hP, hBd⟩
          have hcm := aiF_bd l tx ty
          have haf : 0 ≤ aiF l tx ty ∧ aiF l tx ty ≤ 32 := by have hh := hcm; simp only [cmdB, Bool.and_eq_true, btw_iff] at hh; omega
          have hnt : (((aiF l tx ty).toNat : Nat) : Int) = aiF l tx ty := by omega
          have g'19 := (jn @h4 (jn @h4d g'17))
          refine runTf g'19 ?_
          refine call_v (by kernel_rfl) (raimq_c _ l tx ty) ?_
          refine runTf g'19 ?_
          refine cond_split (fun h5 => ?_) (fun h5 => ?_)
          · have h5d := bsT h5
            have h5n := bnT h5
            have hne : ¬ aiE l tx ty = 0 := by simpa using h5d
            have hfinE : chE W Hh xs l tx ty tu le sl ra = aiE l tx ty := if_pos hok
            have hfinT : chT W Hh xs l tx ty tu le sl ra = 0 := if_neg (fun hh => hne hh.2)
            have hfinF : chF W Hh xs l tx ty tu le sl ra = 0 := if_neg (fun hh => hne hh.2)
            have g'20 := (jn @h5 (jn @h5n (jn @int_bne (jn @int_beq g'19))))
            refine runTf g'20 ?_
            exact hQ _ _ (end_plain (.inl rfl) hbel (x := .tup [.agg [.int .i64 0, .int .i64 0], .int .i64 (aiE l tx ty)]) (resT Tryz.results45) rfl ⟨by first | (rw [hfinE, hfinT, hfinF]; done) | (rw [hfinT, hfinF, hfinE]; done), rfl⟩)
          · have h5d := bsT h5
            have h5n := bnT h5
            have he0 : aiE l tx ty = 0 := by simpa using h5d
            have hfinE : chE W Hh xs l tx ty tu le sl ra = 0 := (if_pos hok).trans he0
            have hfinT : chT W Hh xs l tx ty tu le sl ra = aiT l tx ty := if_pos ⟨hok, he0⟩
            have hcf : chF W Hh xs l tx ty tu le sl ra = ((choN (sfP W Hh xs l tx ty tu le sl ra) (aiF l tx ty).toNat : Nat) : Int) := if_pos ⟨hok, he0⟩
            have g'21 := (jn @h5 (jn @h5n (jn @int_bne (jn @int_beq g'19))))
            refine runTf g'21 ?_
            refine go_loop try_mixed (by kernel_rfl) (fun k F Hx => ∃ n : Nat, n = k ∧ choN (sfP W Hh xs l tx ty tu le sl ra) (aiF l tx ty).toNat = choN (sfP W Hh xs l tx ty tu le sl ra) n ∧ n ≤ (aiF l tx ty).toNat ∧ F = [(1, .sl (some (bs, 0)) l.length cs), (4, .ptr (some (H.length, 0))), (7, .ptr (some (H.length + 1, 0))), (8, .ptr (some (H.length + 2, 0))), (12, .ptr (some (H.length + 3, 0)))] ∧ Hx = H ++ [.cells true 0 [.int .i64 W, .int .i64 Hh, .sl (some (bpp, 0)) xs.length cpp], .cells true 0 [.int .i64 tu, .int .i64 le, .int .i64 sl, .int .i64 ra], .cells true 0 [.int .i64 0, .int .i64 0], .cells true 0 [.int .i64 (aiT l tx ty), .int .i64 ((n : Nat) : Int)]]) ((aiF l tx ty).toNat) ?_ ?_
            · refine ⟨_, _, _, ⟨(aiF l tx ty).toNat, by omega, rfl, Nat.le_refl _, rfl, rfl⟩, Abs.byG hbel [] rfl [0, 2, 3, 5] (by decide) ?_⟩
              exact absWf @hnt
            · rintro k0 F Hx ⟨n, hm0, hch, hnl, rfl, rfl⟩ J0 hJ0
              refine runTf g'21 ?_
              refine cond_split (fun h6 => ?_) (fun h6 => ?_)
              · have h6d := bsT h6
                have g'22 := (jn @h6 (jn @h6d g'21))
                refine runTf g'22 ?_
                refine call_v (by kernel_rfl) (rsafe_c _ W Hh _ xs _ l (aiT l tx ty) ((n : Nat) : Int) tu le sl ra ⟨_, _, _, rfl, by first | exact hb0pp _ | exact hbpp⟩ ⟨_, _, _, rfl, by first | exact hb0s _ | exact hbs⟩ (by omega)) ?_
                refine runTf g'22 ?_
                refine cond_split (fun h7 => ?_) (fun h7 => ?_)
                · have h7d := bsT h7
                  have hfinF : chF W Hh xs l tx ty tu le sl ra = ((n : Nat) : Int) := by rw [hcf, hch]; exact congrArg _ (choN_t h7d)
                  have g'23 := (jn @h7 (jn @h7d g'22))
                  refine runTf g'23 ?_
                  exact hQ _ _ (end_plain (.inl rfl) hbel (x := .tup [.agg [.int .i64 (aiT l tx ty), .int .i64 ((n : Nat) : Int)], .int .i64 0]) (resT Tryz.results45) rfl ⟨by first | (rw [hfinE, hfinT, hfinF]; done) | (rw [hfinT, hfinF, hfinE]; done), rfl⟩)
                · have h7d := bsT h7
                  have hn0 : 0 < n := by
                    rcases Nat.eq_zero_or_pos n with hz | hz
                    · subst hz; have hh := sf0 hok; exact absurd (hh.symm.trans h7d) (by decide)
                    · exact hz
                  have hch2 : choN (sfP W Hh xs l tx ty tu le sl ra) (aiF l tx ty).toNat = choN (sfP W Hh xs l tx ty tu le sl ra) (n - 1) := by rw [hch]; exact choN_f hn0 h7d
                  have g'24 := (jn @h7 (jn @h7d g'22))
                  refine runTf g'24 ?_
                  have hnc : ((n - 1 : Nat) : Int) = ((n : Nat) : Int) - 1 := by omega
                  refine hJ0 _ _ ⟨n - 1, by omega, _, _, _, ⟨n - 1, by omega, hch2, by omega, rfl, rfl⟩, Abs.byG hbel [] rfl [0, 1, 2, 3] (by decide) ?_⟩
                  exact absWf (jn @Int.natCast_sub @hnc)
              · have h6d := bsT h6
                have hz0 : n = 0 := by omega
                have hfinF : chF W Hh xs l tx ty tu le sl ra = ((n : Nat) : Int) := by rw [hcf, hch, hz0]; rfl
                have g'25 := (jn @h6 (jn @h6d g'21))
                refine runTf g'25 ?_
                exact hQ _ _ (end_plain (.inl rfl) hbel (x := .tup [.agg [.int .i64 (aiT l tx ty), .int .i64 ((n : Nat) : Int)], .int .i64 0]) (resT Tryz.results45) rfl ⟨by first | (rw [hfinE, hfinT, hfinF]; done) | (rw [hfinT, hfinF, hfinE]; done), rfl⟩)
      · have h3d := bsT h3
        have hno : ¬ okC W Hh xs l tx ty tu le sl ra = true := by rw [okC_iff]; intro hh; simp [hh.1, hh.2.1, hh.2.2.1, hh.2.2.2] at h3d
        have hfinE : chE W Hh xs l tx ty tu le sl ra = 1 := if_neg hno
        have hfinT : chT W Hh xs l tx ty tu le sl ra = 0 := if_neg (fun hh => hno hh.1)
        have hfinF : chF W Hh xs l tx ty tu le sl ra = 0 := if_neg (fun hh => hno hh.1)
        have g'26 := (jn @h3 (jn @h3d g'16))
        refine runTf g'26 ?_
        exact hQ _ _ (end_plain (.inl rfl) hbel (x := .tup [.agg [.int .i64 0, .int .i64 0], .int .i64 1]) (resT Tryz.results45) rfl ⟨by first | (rw [hfinE, hfinT, hfinF]; done) | (rw [hfinT, hfinF, hfinE]; done), rfl⟩)
    · have h2d := bsT h2
      have hno : ¬ okC W Hh xs l tx ty tu le sl ra = true := by rw [okC_iff]; intro hh; simp [hh.1, hh.2.1, hh.2.2.1, hh.2.2.2] at h2d
      have hfinE : chE W Hh xs l tx ty tu le sl ra = 1 := if_neg hno
      have hfinT : chT W Hh xs l tx ty tu le sl ra = 0 := if_neg (fun hh => hno hh.1)
      have hfinF : chF W Hh xs l tx ty tu le sl ra = 0 := if_neg (fun hh => hno hh.1)
      have g'27 := (jn @h2 (jn @h2d g'15))
      refine runTf g'27 ?_
      exact hQ _ _ (end_plain (.inl rfl) hbel (x := .tup [.agg [.int .i64 0, .int .i64 0], .int .i64 1]) (resT Tryz.results45) rfl ⟨by first | (rw [hfinE, hfinT, hfinF]; done) | (rw [hfinT, hfinF, hfinE]; done), rfl⟩)
  · have h1d := bsT h1
    have hno : ¬ okC W Hh xs l tx ty tu le sl ra = true := by rw [okC_iff]; intro hh; simp [hh.1, hh.2.1, hh.2.2.1, hh.2.2.2] at h1d
    have hfinE : chE W Hh xs l tx ty tu le sl ra = 1 := if_neg hno
    have hfinT : chT W Hh xs l tx ty tu le sl ra = 0 := if_neg (fun hh => hno hh.1)
    have hfinF : chF W Hh xs l tx ty tu le sl ra = 0 := if_neg (fun hh => hno hh.1)
    have g'28 := (jn @h1 (jn @h1d g'14))
    refine runTf g'28 ?_
    exact hQ _ _ (end_plain (.inl rfl) hbel (x := .tup [.agg [.int .i64 0, .int .i64 0], .int .i64 1]) (resT Tryz.results45) rfl ⟨by first | (rw [hfinE, hfinT, hfinF]; done) | (rw [hfinT, hfinF, hfinE]; done), rfl⟩)
end Go.Proofs.YtoimakfecmhjkaaGreat
