/- Parts of the proof: walks and plain facts. Conditions: as each theorem states. -/
import Derived.Test.YtojbkljfioegkaaGreatG4
import Derived.Test.YtojbkljfioegkaaGreatG3
import Derived.Test.YtojbkljfioegkaaGreatG2
import Derived.Deep.RegionHeld3
namespace Go.Proofs.YtojbkljfioegkaaGreat
set_option linter.unusedSimpArgs false
set_option linter.unusedVariables false
open Go.RowKit
set_option maxHeartbeats 4000000
set_option maxRecDepth 100000
theorem hidt_c (H : ac) (W : Int) (Hh : Int) (pp : AV) (xs : List Int) (x0 : Int) (y0 : Int) (x1 : Int) (y1 : Int) (vx : Int) (vy : Int) (vd : Int) (far : Int)  (hpp : Sl H 1 pp xs.length (ints .u8 xs)) (hV : bW W Hh xs = true) (hx : -1048576 ≤ x0 ∧ x0 ≤ 1048576) (hy : -1048576 ≤ y0 ∧ y0 ≤ 1048576) : ACalls Tryz.prog 195 [.agg [.int .i64 W, .int .i64 Hh, pp], .agg [.int .i64 x0, .int .i64 y0, .int .i64 x1, .int .i64 y1], .agg [.int .i64 vx, .int .i64 vy, .int .i64 vd], .int .i64 far, .bool true] H (fun v H' => v = .bool (eh W Hh xs x0 y0 x1 y1 vx vy vd far true) ∧ H' = H) := by
 obtain ⟨bpp, opp, cpp, rfl, hbpp⟩ := hpp
 have hblpp := getElem?_lt hbpp
 have hb0pp := fun l => aw (l := l) hbpp
 have htl := jc x0 y0 vx vy vd 0 far
 refine AcT true Tryz.func195 ?_; intro hbel Q hQ
 have g'1 := (jn @hbpp @hb0pp)
 refine aa g'1 ?_
 refine ai (fun h1 => ?_) (fun h1 => ?_)
 ·have h1d := bsT h1
  have hfinH : eh W Hh xs x0 y0 x1 y1 vx vy vd far true = false := by unfold eh; rw [decide_eq_true h1d]; rfl
  have g'2 := (jn @h1 (jn @h1d g'1))
  refine aa g'2 ?_
  exact hQ _ _ (ae (.inl rfl) hbel (x := .bool false) (ag Tryz.results195) rfl ⟨by first | (rw [hfinH]; done) | (rw [hfinH]; rfl), rfl⟩)
 ·have h1d := bsT h1
  have hf0 := h1d
  have g'3 := (jn @h1 (jn @h1d g'1))
  refine aa g'3 ?_
  refine af (by kernel_rfl) (jx _ x0 y0 vx vy vd 0 far) ?_
  refine aa g'3 ?_
  refine go_loop try_mixed (by kernel_rfl) (fun k F Hx => ∃ i : Nat, i + k = (trL x0 y0 vx vy vd 0 far).length ∧ (∀ j : Nat, j < i → fM W Hh xs true x0 y0 x1 y1 vx vy vd far (g1 (trL x0 y0 vx vy vd 0 far) j, g2 (trL x0 y0 vx vy vd 0 far) j) = false) ∧ F = [(3, .int .i64 far), (4, .bool true), (5, .ptr (some (H.length, 0))), (7, .ptr (some (H.length + 1, 0))), (11, .ptr (some (H.length + 2, 0))), (51, .sl (some (H.length + 3, 0)) ((trL x0 y0 vx vy vd 0 far).length) (bG (trL x0 y0 vx vy vd 0 far).length)), (52, .int .i64 (((trL x0 y0 vx vy vd 0 far).length : Nat) : Int)), (53, .int .i64 ((i : Nat) : Int))] ∧ Hx = H ++ [.cells true 0 [.int .i64 W, .int .i64 Hh, .sl (some (bpp, 0)) xs.length cpp], .cells true 0 [.int .i64 vx, .int .i64 vy, .int .i64 vd], .cells true 0 [.int .i64 x0, .int .i64 y0, .int .i64 x1, .int .i64 y0, .int .i64 x0, .int .i64 y1, .int .i64 x1, .int .i64 y1], .cells (bm (trL x0 y0 vx vy vd 0 far).length) 2 (prs (trL x0 y0 vx vy vd 0 far))]) ((trL x0 y0 vx vy vd 0 far).length) ?_ ?_
  ·refine ⟨_, _, _, ⟨0, by omega, (fun j h => by omega), rfl, rfl⟩, Abs.byG hbel [] rfl [0, 2, 3, 4] (by decide) ?_⟩
   exact eH
  ·rintro k0 F Hx ⟨i, hm0, hal, rfl, rfl⟩ J0 hJ0
   have g'4 := (jn @bK (jn @cO g'3))
   refine aa g'4 ?_
   refine ai (fun h2 => ?_) (fun h2 => ?_)
   ·have h2d := bsT h2
    have hlt : i < (trL x0 y0 vx vy vd 0 far).length := by omega
    have htm := trL_mem (List.getElem_mem hlt)
    rw [← cw hlt] at htm
    simp only at htm
    have q3 := cI (l := trL x0 y0 vx vy vd 0 far) (j := i) (by omega)
    have g'5 := (jn @h2 (jn @h2d (jn @q3 g'4)))
    refine aa g'5 ?_
    refine af (by kernel_rfl) (pat_c _ W Hh _ xs (g1 (trL x0 y0 vx vy vd 0 far) i) (g2 (trL x0 y0 vx vy vd 0 far) i) ⟨_, _, _, rfl, by first | exact hb0pp _ | exact hbpp⟩ hV) ?_
    refine aa g'5 ?_
    refine ai (fun h4 => ?_) (fun h4 => ?_)
    ·have h4d := bsT h4
     have h4n := bnT h4
     have hno : fM W Hh xs true x0 y0 x1 y1 vx vy vd far ((g1 (trL x0 y0 vx vy vd 0 far) i), (g2 (trL x0 y0 vx vy vd 0 far) i)) = false := by unfold fM; rw [beq_eq_false_iff_ne.2 (by first | exact h4d | simpa using h4d)]; rfl
     have g'6 := (jn @h4 (jn @h4n (jn @aU (jn @aT g'5))))
     refine aa g'6 ?_
     refine hJ0 _ _ ⟨k0 - 1, by omega, _, _, _, ⟨i + 1, by omega, fun j hj => by
           rcases Nat.lt_or_ge j i with h | h
           ·exact hal j h
           ·rw [show j = i by omega]; exact hno, rfl, rfl⟩, Abs.byG hbel [] rfl [0, 1, 2, 3] (by decide) ?_⟩
     exact eH
    ·have h4d := bsT h4
     have h4n := bnT h4
     have hat : atI W Hh xs (g1 (trL x0 y0 vx vy vd 0 far) i) (g2 (trL x0 y0 vx vy vd 0 far) i) = 2 := by first | exact h4d | simpa using h4d
     have g'7 := (jn @h4 (jn @h4n (jn @aU (jn @aT g'5))))
     refine aa g'7 ?_
     refine go_loop try_mixed (by kernel_rfl) (fun k F Hx => ∃ n : Nat, n + k = 4 ∧ F = [(3, .int .i64 far), (4, .bool true), (5, .ptr (some (H.length, 0))), (7, .ptr (some (H.length + 1, 0))), (11, .ptr (some (H.length + 2, 0))), (16, .ptr (some (H.length + 4, 0))), (17, .bool (h4K true x0 y0 x1 y1 vx vy vd far (g1 (trL x0 y0 vx vy vd 0 far) i) (g2 (trL x0 y0 vx vy vd 0 far) i) n)), (51, .sl (some (H.length + 3, 0)) ((trL x0 y0 vx vy vd 0 far).length) (bG (trL x0 y0 vx vy vd 0 far).length)), (52, .int .i64 (((trL x0 y0 vx vy vd 0 far).length : Nat) : Int)), (53, .int .i64 ((i : Nat) : Int)), (76, .agg [.int .i64 x0, .int .i64 y0, .int .i64 x1, .int .i64 y0, .int .i64 x0, .int .i64 y1, .int .i64 x1, .int .i64 y1]), (77, .int .i64 ((n : Nat) : Int))] ∧ Hx = H ++ [.cells true 0 [.int .i64 W, .int .i64 Hh, .sl (some (bpp, 0)) xs.length cpp], .cells true 0 [.int .i64 vx, .int .i64 vy, .int .i64 vd], .cells true 0 [.int .i64 x0, .int .i64 y0, .int .i64 x1, .int .i64 y0, .int .i64 x0, .int .i64 y1, .int .i64 x1, .int .i64 y1], .cells (bm (trL x0 y0 vx vy vd 0 far).length) 2 (prs (trL x0 y0 vx vy vd 0 far)), .cells true 0 [.int .i64 ((g1 (trL x0 y0 vx vy vd 0 far) i) * 64), .int .i64 ((g2 (trL x0 y0 vx vy vd 0 far) i) * 64), .int .i64 (((g1 (trL x0 y0 vx vy vd 0 far) i) + 1) * 64), .int .i64 (((g2 (trL x0 y0 vx vy vd 0 far) i) + 1) * 64)]]) (4) ?_ ?_
     ·refine ⟨_, _, _, ⟨0, by omega, rfl, rfl⟩, Abs.byG hbel [] rfl [0, 1, 2, 3, 5] (by decide) ?_⟩
      exact aM @h4K.eq_1
     ·rintro k1 F Hx ⟨n, hm1, rfl, rfl⟩ J1 hJ1
      refine aa g'7 ?_
      refine ai (fun h5 => ?_) (fun h5 => ?_)
      ·have h5d := bsT h5
       obtain rfl | rfl | rfl | rfl := (by omega : n = 0 ∨ n = 1 ∨ n = 2 ∨ n = 3)
       ·skip
        have g'8 := (jn @h5 (jn @h5d g'7))
        refine aa g'8 ?_
        refine aj (fun h6 => ?_) (fun h6 => ?_)
        ·have h6d := bsT h6
         have hst : h4K true x0 y0 x1 y1 vx vy vd far (g1 (trL x0 y0 vx vy vd 0 far) i) (g2 (trL x0 y0 vx vy vd 0 far) i) 1 = c6 x0 y0 vx vy vd far ((g1 (trL x0 y0 vx vy vd 0 far) i) * 64) ((g2 (trL x0 y0 vx vy vd 0 far) i) * 64) (((g1 (trL x0 y0 vx vy vd 0 far) i) + 1) * 64) (((g2 (trL x0 y0 vx vy vd 0 far) i) + 1) * 64) := by
          show (h4K true x0 y0 x1 y1 vx vy vd far (g1 (trL x0 y0 vx vy vd 0 far) i) (g2 (trL x0 y0 vx vy vd 0 far) i) 0 && hcB true x0 y0 vx vy vd far (g1 (trL x0 y0 vx vy vd 0 far) i) (g2 (trL x0 y0 vx vy vd 0 far) i)) = _
          rw [h6d, Bool.true_and]; exact hcB_t rfl
         have g'9 := (jn @h6 (jn @h6d g'8))
         refine aa g'9 ?_
         refine af (by kernel_rfl) (eo _ x0 y0 vx vy vd far ((g1 (trL x0 y0 vx vy vd 0 far) i) * 64) ((g2 (trL x0 y0 vx vy vd 0 far) i) * 64) (((g1 (trL x0 y0 vx vy vd 0 far) i) + 1) * 64) (((g2 (trL x0 y0 vx vy vd 0 far) i) + 1) * 64)) ?_
         refine aa g'9 ?_
         refine hJ1 _ _ ⟨k1 - 1, by omega, _, _, _, ⟨0 + 1, by omega, rfl, rfl⟩, Abs.byG hbel [] rfl [0, 1, 2, 3, 4] (by decide) ?_⟩
         exact aM @hst
        ·have h6d := bsT h6
         exact absurd (show true = false from h6d) (by decide)
       ·skip
        have g'10 := (jn @h5 (jn @h5d g'7))
        refine aa g'10 ?_
        refine aj (fun h7 => ?_) (fun h7 => ?_)
        ·have h7d := bsT h7
         have hst : h4K true x0 y0 x1 y1 vx vy vd far (g1 (trL x0 y0 vx vy vd 0 far) i) (g2 (trL x0 y0 vx vy vd 0 far) i) 2 = c6 x1 y0 vx vy vd far ((g1 (trL x0 y0 vx vy vd 0 far) i) * 64) ((g2 (trL x0 y0 vx vy vd 0 far) i) * 64) (((g1 (trL x0 y0 vx vy vd 0 far) i) + 1) * 64) (((g2 (trL x0 y0 vx vy vd 0 far) i) + 1) * 64) := by
          show (h4K true x0 y0 x1 y1 vx vy vd far (g1 (trL x0 y0 vx vy vd 0 far) i) (g2 (trL x0 y0 vx vy vd 0 far) i) 1 && hcB true x1 y0 vx vy vd far (g1 (trL x0 y0 vx vy vd 0 far) i) (g2 (trL x0 y0 vx vy vd 0 far) i)) = _
          rw [h7d, Bool.true_and]; exact hcB_t rfl
         have g'11 := (jn @h7 (jn @h7d g'10))
         refine aa g'11 ?_
         refine af (by kernel_rfl) (eo _ x1 y0 vx vy vd far ((g1 (trL x0 y0 vx vy vd 0 far) i) * 64) ((g2 (trL x0 y0 vx vy vd 0 far) i) * 64) (((g1 (trL x0 y0 vx vy vd 0 far) i) + 1) * 64) (((g2 (trL x0 y0 vx vy vd 0 far) i) + 1) * 64)) ?_
         refine aa g'11 ?_
         refine hJ1 _ _ ⟨k1 - 1, by omega, _, _, _, ⟨1 + 1, by omega, rfl, rfl⟩, Abs.byG hbel [] rfl [0, 1, 2, 3, 4] (by decide) ?_⟩
         exact aM @hst
        ·have h7d := bsT h7
         have hst : h4K true x0 y0 x1 y1 vx vy vd far (g1 (trL x0 y0 vx vy vd 0 far) i) (g2 (trL x0 y0 vx vy vd 0 far) i) 2 = false := by
          show (h4K true x0 y0 x1 y1 vx vy vd far (g1 (trL x0 y0 vx vy vd 0 far) i) (g2 (trL x0 y0 vx vy vd 0 far) i) 1 && _) = false
          rw [h7d]; rfl
         have g'12 := (jn @h7 (jn @h7d g'10))
         refine aa g'12 ?_
         refine hJ1 _ _ ⟨k1 - 1, by omega, _, _, _, ⟨1 + 1, by omega, rfl, rfl⟩, Abs.byG hbel [] rfl [0, 1, 2, 3, 4] (by decide) ?_⟩
         exact aM @hst
       ·skip
        have g'13 := (jn @h5 (jn @h5d g'7))
        refine aa g'13 ?_
        refine aj (fun h8 => ?_) (fun h8 => ?_)
        ·have h8d := bsT h8
         have hst : h4K true x0 y0 x1 y1 vx vy vd far (g1 (trL x0 y0 vx vy vd 0 far) i) (g2 (trL x0 y0 vx vy vd 0 far) i) 3 = c6 x0 y1 vx vy vd far ((g1 (trL x0 y0 vx vy vd 0 far) i) * 64) ((g2 (trL x0 y0 vx vy vd 0 far) i) * 64) (((g1 (trL x0 y0 vx vy vd 0 far) i) + 1) * 64) (((g2 (trL x0 y0 vx vy vd 0 far) i) + 1) * 64) := by
          show (h4K true x0 y0 x1 y1 vx vy vd far (g1 (trL x0 y0 vx vy vd 0 far) i) (g2 (trL x0 y0 vx vy vd 0 far) i) 2 && hcB true x0 y1 vx vy vd far (g1 (trL x0 y0 vx vy vd 0 far) i) (g2 (trL x0 y0 vx vy vd 0 far) i)) = _
          rw [h8d, Bool.true_and]; exact hcB_t rfl
         have g'14 := (jn @h8 (jn @h8d g'13))
         refine aa g'14 ?_
         refine af (by kernel_rfl) (eo _ x0 y1 vx vy vd far ((g1 (trL x0 y0 vx vy vd 0 far) i) * 64) ((g2 (trL x0 y0 vx vy vd 0 far) i) * 64) (((g1 (trL x0 y0 vx vy vd 0 far) i) + 1) * 64) (((g2 (trL x0 y0 vx vy vd 0 far) i) + 1) * 64)) ?_
         refine aa g'14 ?_
         refine hJ1 _ _ ⟨k1 - 1, by omega, _, _, _, ⟨2 + 1, by omega, rfl, rfl⟩, Abs.byG hbel [] rfl [0, 1, 2, 3, 4] (by decide) ?_⟩
         exact aM @hst
        ·have h8d := bsT h8
         have hst : h4K true x0 y0 x1 y1 vx vy vd far (g1 (trL x0 y0 vx vy vd 0 far) i) (g2 (trL x0 y0 vx vy vd 0 far) i) 3 = false := by
          show (h4K true x0 y0 x1 y1 vx vy vd far (g1 (trL x0 y0 vx vy vd 0 far) i) (g2 (trL x0 y0 vx vy vd 0 far) i) 2 && _) = false
          rw [h8d]; rfl
         have g'15 := (jn @h8 (jn @h8d g'13))
         refine aa g'15 ?_
         refine hJ1 _ _ ⟨k1 - 1, by omega, _, _, _, ⟨2 + 1, by omega, rfl, rfl⟩, Abs.byG hbel [] rfl [0, 1, 2, 3, 4] (by decide) ?_⟩
         exact aM @hst
       ·skip
        have g'16 := (jn @h5 (jn @h5d g'7))
        refine aa g'16 ?_
        refine aj (fun h9 => ?_) (fun h9 => ?_)
        ·have h9d := bsT h9
         have hst : h4K true x0 y0 x1 y1 vx vy vd far (g1 (trL x0 y0 vx vy vd 0 far) i) (g2 (trL x0 y0 vx vy vd 0 far) i) 4 = c6 x1 y1 vx vy vd far ((g1 (trL x0 y0 vx vy vd 0 far) i) * 64) ((g2 (trL x0 y0 vx vy vd 0 far) i) * 64) (((g1 (trL x0 y0 vx vy vd 0 far) i) + 1) * 64) (((g2 (trL x0 y0 vx vy vd 0 far) i) + 1) * 64) := by
          show (h4K true x0 y0 x1 y1 vx vy vd far (g1 (trL x0 y0 vx vy vd 0 far) i) (g2 (trL x0 y0 vx vy vd 0 far) i) 3 && hcB true x1 y1 vx vy vd far (g1 (trL x0 y0 vx vy vd 0 far) i) (g2 (trL x0 y0 vx vy vd 0 far) i)) = _
          rw [h9d, Bool.true_and]; exact hcB_t rfl
         have g'17 := (jn @h9 (jn @h9d g'16))
         refine aa g'17 ?_
         refine af (by kernel_rfl) (eo _ x1 y1 vx vy vd far ((g1 (trL x0 y0 vx vy vd 0 far) i) * 64) ((g2 (trL x0 y0 vx vy vd 0 far) i) * 64) (((g1 (trL x0 y0 vx vy vd 0 far) i) + 1) * 64) (((g2 (trL x0 y0 vx vy vd 0 far) i) + 1) * 64)) ?_
         refine aa g'17 ?_
         refine hJ1 _ _ ⟨k1 - 1, by omega, _, _, _, ⟨3 + 1, by omega, rfl, rfl⟩, Abs.byG hbel [] rfl [0, 1, 2, 3, 4] (by decide) ?_⟩
         exact aM @hst
        ·have h9d := bsT h9
         have hst : h4K true x0 y0 x1 y1 vx vy vd far (g1 (trL x0 y0 vx vy vd 0 far) i) (g2 (trL x0 y0 vx vy vd 0 far) i) 4 = false := by
          show (h4K true x0 y0 x1 y1 vx vy vd far (g1 (trL x0 y0 vx vy vd 0 far) i) (g2 (trL x0 y0 vx vy vd 0 far) i) 3 && _) = false
          rw [h9d]; rfl
         have g'18 := (jn @h9 (jn @h9d g'16))
         refine aa g'18 ?_
         refine hJ1 _ _ ⟨k1 - 1, by omega, _, _, _, ⟨3 + 1, by omega, rfl, rfl⟩, Abs.byG hbel [] rfl [0, 1, 2, 3, 4] (by decide) ?_⟩
         exact aM @hst
      ·have h5d := bsT h5
       obtain rfl : n = 4 := by omega
       have g'19 := (jn @h5 (jn @h5d g'7))
       refine aa g'19 ?_
       refine ai (fun h10 => ?_) (fun h10 => ?_)
       ·have h10d := bsT h10
        have hfinH : eh W Hh xs x0 y0 x1 y1 vx vy vd far true = true := by
         unfold eh
         rw [decide_eq_false hf0]
         exact List.any_eq_true.2 ⟨_, List.getElem_mem hlt, by
          rw [← cw hlt]; unfold fM; rw [Bool.and_eq_true, beq_iff_eq]; exact ⟨hat, h4K_4.symm.trans h10d⟩⟩
        have g'20 := (jn @h10 (jn @h10d g'19))
        refine aa g'20 ?_
        exact hQ _ _ (ae (.inl rfl) hbel (x := .bool true) (ag Tryz.results195) rfl ⟨by first | (rw [hfinH]; done) | (rw [hfinH]; rfl), rfl⟩)
       ·have h10d := bsT h10
        have hno : fM W Hh xs true x0 y0 x1 y1 vx vy vd far ((g1 (trL x0 y0 vx vy vd 0 far) i), (g2 (trL x0 y0 vx vy vd 0 far) i)) = false := by unfold fM; rw [Bool.and_eq_false_iff]; right; exact h4K_4.symm.trans h10d
        have g'21 := (jn @h10 (jn @h10d g'19))
        refine aa g'21 ?_
        refine hJ0 _ _ ⟨k0 - 1, by omega, _, _, _, ⟨i + 1, by omega, fun j hj => by
              rcases Nat.lt_or_ge j i with h | h
              ·exact hal j h
              ·rw [show j = i by omega]; exact hno, rfl, rfl⟩, Abs.byG hbel [] rfl [0, 1, 2, 3] (by decide) ?_⟩
        exact eH
   ·have h2d := bsT h2
    obtain rfl : i = (trL x0 y0 vx vy vd 0 far).length := by omega
    have hfinH : eh W Hh xs x0 y0 x1 y1 vx vy vd far true = false := by
     unfold eh
     rw [m5 (fun j hj => by rw [← cw hj]; exact hal j hj)]; simp
    have g'22 := (jn @h2 (jn @h2d g'4))
    refine aa g'22 ?_
    exact hQ _ _ (ae (.inl rfl) hbel (x := .bool false) (ag Tryz.results195) rfl ⟨by first | (rw [hfinH]; done) | (rw [hfinH]; rfl), rfl⟩)
theorem hidf_c (H : ac) (W : Int) (Hh : Int) (pp : AV) (xs : List Int) (x0 : Int) (y0 : Int) (x1 : Int) (y1 : Int) (vx : Int) (vy : Int) (vd : Int) (far : Int)  (hpp : Sl H 1 pp xs.length (ints .u8 xs)) (hV : bW W Hh xs = true) (hx : -1048576 ≤ x0 ∧ x0 ≤ 1048576) (hy : -1048576 ≤ y0 ∧ y0 ≤ 1048576) : ACalls Tryz.prog 195 [.agg [.int .i64 W, .int .i64 Hh, pp], .agg [.int .i64 x0, .int .i64 y0, .int .i64 x1, .int .i64 y1], .agg [.int .i64 vx, .int .i64 vy, .int .i64 vd], .int .i64 far, .bool false] H (fun v H' => v = .bool (eh W Hh xs x0 y0 x1 y1 vx vy vd far false) ∧ H' = H) := by
 obtain ⟨bpp, opp, cpp, rfl, hbpp⟩ := hpp
 have hblpp := getElem?_lt hbpp
 have hb0pp := fun l => aw (l := l) hbpp
 have htl := jc x0 y0 vx vy vd 0 far
 refine AcT true Tryz.func195 ?_; intro hbel Q hQ
 have g'23 := (jn @hbpp @hb0pp)
 refine aa g'23 ?_
 refine ai (fun h1 => ?_) (fun h1 => ?_)
 ·have h1d := bsT h1
  have hfinH : eh W Hh xs x0 y0 x1 y1 vx vy vd far false = false := by unfold eh; rw [decide_eq_true h1d]; rfl
  have g'24 := (jn @h1 (jn @h1d g'23))
  refine aa g'24 ?_
  exact hQ _ _ (ae (.inl rfl) hbel (x := .bool false) (ag Tryz.results195) rfl ⟨by first | (rw [hfinH]; done) | (rw [hfinH]; rfl), rfl⟩)
 ·have h1d := bsT h1
  have hf0 := h1d
  have g'25 := (jn @h1 (jn @h1d g'23))
  refine aa g'25 ?_
  refine af (by kernel_rfl) (jx _ x0 y0 vx vy vd 0 far) ?_
  refine aa g'25 ?_
  refine go_loop try_mixed (by kernel_rfl) (fun k F Hx => ∃ i : Nat, i + k = (trL x0 y0 vx vy vd 0 far).length ∧ (∀ j : Nat, j < i → fM W Hh xs false x0 y0 x1 y1 vx vy vd far (g1 (trL x0 y0 vx vy vd 0 far) j, g2 (trL x0 y0 vx vy vd 0 far) j) = false) ∧ F = [(3, .int .i64 far), (4, .bool false), (5, .ptr (some (H.length, 0))), (7, .ptr (some (H.length + 1, 0))), (11, .ptr (some (H.length + 2, 0))), (51, .sl (some (H.length + 3, 0)) ((trL x0 y0 vx vy vd 0 far).length) (bG (trL x0 y0 vx vy vd 0 far).length)), (52, .int .i64 (((trL x0 y0 vx vy vd 0 far).length : Nat) : Int)), (53, .int .i64 ((i : Nat) : Int))] ∧ Hx = H ++ [.cells true 0 [.int .i64 W, .int .i64 Hh, .sl (some (bpp, 0)) xs.length cpp], .cells true 0 [.int .i64 vx, .int .i64 vy, .int .i64 vd], .cells true 0 [.int .i64 x0, .int .i64 y0, .int .i64 x1, .int .i64 y0, .int .i64 x0, .int .i64 y1, .int .i64 x1, .int .i64 y1], .cells (bm (trL x0 y0 vx vy vd 0 far).length) 2 (prs (trL x0 y0 vx vy vd 0 far))]) ((trL x0 y0 vx vy vd 0 far).length) ?_ ?_
  ·refine ⟨_, _, _, ⟨0, by omega, (fun j h => by omega), rfl, rfl⟩, Abs.byG hbel [] rfl [0, 2, 3, 4] (by decide) ?_⟩
   exact eH
  ·rintro k0 F Hx ⟨i, hm0, hal, rfl, rfl⟩ J0 hJ0
   have g'26 := (jn @bK (jn @cO g'25))
   refine aa g'26 ?_
   refine ai (fun h2 => ?_) (fun h2 => ?_)
   ·have h2d := bsT h2
    have hlt : i < (trL x0 y0 vx vy vd 0 far).length := by omega
    have htm := trL_mem (List.getElem_mem hlt)
    rw [← cw hlt] at htm
    simp only at htm
    have q3 := cI (l := trL x0 y0 vx vy vd 0 far) (j := i) (by omega)
    have g'27 := (jn @h2 (jn @h2d (jn @q3 g'26)))
    refine aa g'27 ?_
    refine af (by kernel_rfl) (pat_c _ W Hh _ xs (g1 (trL x0 y0 vx vy vd 0 far) i) (g2 (trL x0 y0 vx vy vd 0 far) i) ⟨_, _, _, rfl, by first | exact hb0pp _ | exact hbpp⟩ hV) ?_
    refine aa g'27 ?_
    refine ai (fun h4 => ?_) (fun h4 => ?_)
    ·have h4d := bsT h4
     have h4n := bnT h4
     have hno : fM W Hh xs false x0 y0 x1 y1 vx vy vd far ((g1 (trL x0 y0 vx vy vd 0 far) i), (g2 (trL x0 y0 vx vy vd 0 far) i)) = false := by unfold fM; rw [beq_eq_false_iff_ne.2 (by first | exact h4d | simpa using h4d)]; rfl
     have g'28 := (jn @h4 (jn @h4n (jn @aU (jn @aT g'27))))
     refine aa g'28 ?_
     refine hJ0 _ _ ⟨k0 - 1, by omega, _, _, _, ⟨i + 1, by omega, fun j hj => by
           rcases Nat.lt_or_ge j i with h | h
           ·exact hal j h
           ·rw [show j = i by omega]; exact hno, rfl, rfl⟩, Abs.byG hbel [] rfl [0, 1, 2, 3] (by decide) ?_⟩
     exact eH
    ·have h4d := bsT h4
     have h4n := bnT h4
     have hat : atI W Hh xs (g1 (trL x0 y0 vx vy vd 0 far) i) (g2 (trL x0 y0 vx vy vd 0 far) i) = 2 := by first | exact h4d | simpa using h4d
     have g'29 := (jn @h4 (jn @h4n (jn @aU (jn @aT g'27))))
     refine aa g'29 ?_
     refine go_loop try_mixed (by kernel_rfl) (fun k F Hx => ∃ n : Nat, n + k = 4 ∧ F = [(3, .int .i64 far), (4, .bool false), (5, .ptr (some (H.length, 0))), (7, .ptr (some (H.length + 1, 0))), (11, .ptr (some (H.length + 2, 0))), (16, .ptr (some (H.length + 4, 0))), (17, .bool (h4K false x0 y0 x1 y1 vx vy vd far (g1 (trL x0 y0 vx vy vd 0 far) i) (g2 (trL x0 y0 vx vy vd 0 far) i) n)), (51, .sl (some (H.length + 3, 0)) ((trL x0 y0 vx vy vd 0 far).length) (bG (trL x0 y0 vx vy vd 0 far).length)), (52, .int .i64 (((trL x0 y0 vx vy vd 0 far).length : Nat) : Int)), (53, .int .i64 ((i : Nat) : Int)), (76, .agg [.int .i64 x0, .int .i64 y0, .int .i64 x1, .int .i64 y0, .int .i64 x0, .int .i64 y1, .int .i64 x1, .int .i64 y1]), (77, .int .i64 ((n : Nat) : Int))] ∧ Hx = H ++ [.cells true 0 [.int .i64 W, .int .i64 Hh, .sl (some (bpp, 0)) xs.length cpp], .cells true 0 [.int .i64 vx, .int .i64 vy, .int .i64 vd], .cells true 0 [.int .i64 x0, .int .i64 y0, .int .i64 x1, .int .i64 y0, .int .i64 x0, .int .i64 y1, .int .i64 x1, .int .i64 y1], .cells (bm (trL x0 y0 vx vy vd 0 far).length) 2 (prs (trL x0 y0 vx vy vd 0 far)), .cells true 0 [.int .i64 ((g1 (trL x0 y0 vx vy vd 0 far) i) * 64), .int .i64 ((g2 (trL x0 y0 vx vy vd 0 far) i) * 64), .int .i64 (((g1 (trL x0 y0 vx vy vd 0 far) i) + 1) * 64), .int .i64 (((g2 (trL x0 y0 vx vy vd 0 far) i) + 1) * 64)]]) (4) ?_ ?_
     ·refine ⟨_, _, _, ⟨0, by omega, rfl, rfl⟩, Abs.byG hbel [] rfl [0, 1, 2, 3, 5] (by decide) ?_⟩
      exact aM @h4K.eq_1
     ·rintro k1 F Hx ⟨n, hm1, rfl, rfl⟩ J1 hJ1
      refine aa g'29 ?_
      refine ai (fun h5 => ?_) (fun h5 => ?_)
      ·have h5d := bsT h5
       obtain rfl | rfl | rfl | rfl := (by omega : n = 0 ∨ n = 1 ∨ n = 2 ∨ n = 3)
       ·skip
        have g'30 := (jn @h5 (jn @h5d g'29))
        refine aa g'30 ?_
        refine aj (fun h6 => ?_) (fun h6 => ?_)
        ·have h6d := bsT h6
         have hst : h4K false x0 y0 x1 y1 vx vy vd far (g1 (trL x0 y0 vx vy vd 0 far) i) (g2 (trL x0 y0 vx vy vd 0 far) i) 1 = dD x0 y0 vx vy vd 0 far ((g1 (trL x0 y0 vx vy vd 0 far) i) * 64) ((g2 (trL x0 y0 vx vy vd 0 far) i) * 64) (((g1 (trL x0 y0 vx vy vd 0 far) i) + 1) * 64) (((g2 (trL x0 y0 vx vy vd 0 far) i) + 1) * 64) := by
          show (h4K false x0 y0 x1 y1 vx vy vd far (g1 (trL x0 y0 vx vy vd 0 far) i) (g2 (trL x0 y0 vx vy vd 0 far) i) 0 && hcB false x0 y0 vx vy vd far (g1 (trL x0 y0 vx vy vd 0 far) i) (g2 (trL x0 y0 vx vy vd 0 far) i)) = _
          rw [h6d, Bool.true_and]; exact hcB_f rfl
         have g'31 := (jn @h6 (jn @h6d g'30))
         refine aa g'31 ?_
         refine af (by kernel_rfl) (iA _ x0 y0 vx vy vd 0 far ((g1 (trL x0 y0 vx vy vd 0 far) i) * 64) ((g2 (trL x0 y0 vx vy vd 0 far) i) * 64) (((g1 (trL x0 y0 vx vy vd 0 far) i) + 1) * 64) (((g2 (trL x0 y0 vx vy vd 0 far) i) + 1) * 64)) ?_
         refine aa g'31 ?_
         refine hJ1 _ _ ⟨k1 - 1, by omega, _, _, _, ⟨0 + 1, by omega, rfl, rfl⟩, Abs.byG hbel [] rfl [0, 1, 2, 3, 4] (by decide) ?_⟩
         exact aM @hst
        ·have h6d := bsT h6
         exact absurd (show true = false from h6d) (by decide)
       ·skip
        have g'32 := (jn @h5 (jn @h5d g'29))
        refine aa g'32 ?_
        refine aj (fun h7 => ?_) (fun h7 => ?_)
        ·have h7d := bsT h7
         have hst : h4K false x0 y0 x1 y1 vx vy vd far (g1 (trL x0 y0 vx vy vd 0 far) i) (g2 (trL x0 y0 vx vy vd 0 far) i) 2 = dD x1 y0 vx vy vd 0 far ((g1 (trL x0 y0 vx vy vd 0 far) i) * 64) ((g2 (trL x0 y0 vx vy vd 0 far) i) * 64) (((g1 (trL x0 y0 vx vy vd 0 far) i) + 1) * 64) (((g2 (trL x0 y0 vx vy vd 0 far) i) + 1) * 64) := by
          show (h4K false x0 y0 x1 y1 vx vy vd far (g1 (trL x0 y0 vx vy vd 0 far) i) (g2 (trL x0 y0 vx vy vd 0 far) i) 1 && hcB false x1 y0 vx vy vd far (g1 (trL x0 y0 vx vy vd 0 far) i) (g2 (trL x0 y0 vx vy vd 0 far) i)) = _
          rw [h7d, Bool.true_and]; exact hcB_f rfl
         have g'33 := (jn @h7 (jn @h7d g'32))
         refine aa g'33 ?_
         refine af (by kernel_rfl) (iA _ x1 y0 vx vy vd 0 far ((g1 (trL x0 y0 vx vy vd 0 far) i) * 64) ((g2 (trL x0 y0 vx vy vd 0 far) i) * 64) (((g1 (trL x0 y0 vx vy vd 0 far) i) + 1) * 64) (((g2 (trL x0 y0 vx vy vd 0 far) i) + 1) * 64)) ?_
         refine aa g'33 ?_
         refine hJ1 _ _ ⟨k1 - 1, by omega, _, _, _, ⟨1 + 1, by omega, rfl, rfl⟩, Abs.byG hbel [] rfl [0, 1, 2, 3, 4] (by decide) ?_⟩
         exact aM @hst
        ·have h7d := bsT h7
         have hst : h4K false x0 y0 x1 y1 vx vy vd far (g1 (trL x0 y0 vx vy vd 0 far) i) (g2 (trL x0 y0 vx vy vd 0 far) i) 2 = false := by
          show (h4K false x0 y0 x1 y1 vx vy vd far (g1 (trL x0 y0 vx vy vd 0 far) i) (g2 (trL x0 y0 vx vy vd 0 far) i) 1 && _) = false
          rw [h7d]; rfl
         have g'34 := (jn @h7 (jn @h7d g'32))
         refine aa g'34 ?_
         refine hJ1 _ _ ⟨k1 - 1, by omega, _, _, _, ⟨1 + 1, by omega, rfl, rfl⟩, Abs.byG hbel [] rfl [0, 1, 2, 3, 4] (by decide) ?_⟩
         exact aM @hst
       ·skip
        have g'35 := (jn @h5 (jn @h5d g'29))
        refine aa g'35 ?_
        refine aj (fun h8 => ?_) (fun h8 => ?_)
        ·have h8d := bsT h8
         have hst : h4K false x0 y0 x1 y1 vx vy vd far (g1 (trL x0 y0 vx vy vd 0 far) i) (g2 (trL x0 y0 vx vy vd 0 far) i) 3 = dD x0 y1 vx vy vd 0 far ((g1 (trL x0 y0 vx vy vd 0 far) i) * 64) ((g2 (trL x0 y0 vx vy vd 0 far) i) * 64) (((g1 (trL x0 y0 vx vy vd 0 far) i) + 1) * 64) (((g2 (trL x0 y0 vx vy vd 0 far) i) + 1) * 64) := by
          show (h4K false x0 y0 x1 y1 vx vy vd far (g1 (trL x0 y0 vx vy vd 0 far) i) (g2 (trL x0 y0 vx vy vd 0 far) i) 2 && hcB false x0 y1 vx vy vd far (g1 (trL x0 y0 vx vy vd 0 far) i) (g2 (trL x0 y0 vx vy vd 0 far) i)) = _
          rw [h8d, Bool.true_and]; exact hcB_f rfl
         have g'36 := (jn @h8 (jn @h8d g'35))
         refine aa g'36 ?_
         refine af (by kernel_rfl) (iA _ x0 y1 vx vy vd 0 far ((g1 (trL x0 y0 vx vy vd 0 far) i) * 64) ((g2 (trL x0 y0 vx vy vd 0 far) i) * 64) (((g1 (trL x0 y0 vx vy vd 0 far) i) + 1) * 64) (((g2 (trL x0 y0 vx vy vd 0 far) i) + 1) * 64)) ?_
         refine aa g'36 ?_
         refine hJ1 _ _ ⟨k1 - 1, by omega, _, _, _, ⟨2 + 1, by omega, rfl, rfl⟩, Abs.byG hbel [] rfl [0, 1, 2, 3, 4] (by decide) ?_⟩
         exact aM @hst
        ·have h8d := bsT h8
         have hst : h4K false x0 y0 x1 y1 vx vy vd far (g1 (trL x0 y0 vx vy vd 0 far) i) (g2 (trL x0 y0 vx vy vd 0 far) i) 3 = false := by
          show (h4K false x0 y0 x1 y1 vx vy vd far (g1 (trL x0 y0 vx vy vd 0 far) i) (g2 (trL x0 y0 vx vy vd 0 far) i) 2 && _) = false
          rw [h8d]; rfl
         have g'37 := (jn @h8 (jn @h8d g'35))
         refine aa g'37 ?_
         refine hJ1 _ _ ⟨k1 - 1, by omega, _, _, _, ⟨2 + 1, by omega, rfl, rfl⟩, Abs.byG hbel [] rfl [0, 1, 2, 3, 4] (by decide) ?_⟩
         exact aM @hst
       ·skip
        have g'38 := (jn @h5 (jn @h5d g'29))
        refine aa g'38 ?_
        refine aj (fun h9 => ?_) (fun h9 => ?_)
        ·have h9d := bsT h9
         have hst : h4K false x0 y0 x1 y1 vx vy vd far (g1 (trL x0 y0 vx vy vd 0 far) i) (g2 (trL x0 y0 vx vy vd 0 far) i) 4 = dD x1 y1 vx vy vd 0 far ((g1 (trL x0 y0 vx vy vd 0 far) i) * 64) ((g2 (trL x0 y0 vx vy vd 0 far) i) * 64) (((g1 (trL x0 y0 vx vy vd 0 far) i) + 1) * 64) (((g2 (trL x0 y0 vx vy vd 0 far) i) + 1) * 64) := by
          show (h4K false x0 y0 x1 y1 vx vy vd far (g1 (trL x0 y0 vx vy vd 0 far) i) (g2 (trL x0 y0 vx vy vd 0 far) i) 3 && hcB false x1 y1 vx vy vd far (g1 (trL x0 y0 vx vy vd 0 far) i) (g2 (trL x0 y0 vx vy vd 0 far) i)) = _
          rw [h9d, Bool.true_and]; exact hcB_f rfl
         have g'39 := (jn @h9 (jn @h9d g'38))
         refine aa g'39 ?_
         refine af (by kernel_rfl) (iA _ x1 y1 vx vy vd 0 far ((g1 (trL x0 y0 vx vy vd 0 far) i) * 64) ((g2 (trL x0 y0 vx vy vd 0 far) i) * 64) (((g1 (trL x0 y0 vx vy vd 0 far) i) + 1) * 64) (((g2 (trL x0 y0 vx vy vd 0 far) i) + 1) * 64)) ?_
         refine aa g'39 ?_
         refine hJ1 _ _ ⟨k1 - 1, by omega, _, _, _, ⟨3 + 1, by omega, rfl, rfl⟩, Abs.byG hbel [] rfl [0, 1, 2, 3, 4] (by decide) ?_⟩
         exact aM @hst
        ·have h9d := bsT h9
         have hst : h4K false x0 y0 x1 y1 vx vy vd far (g1 (trL x0 y0 vx vy vd 0 far) i) (g2 (trL x0 y0 vx vy vd 0 far) i) 4 = false := by
          show (h4K false x0 y0 x1 y1 vx vy vd far (g1 (trL x0 y0 vx vy vd 0 far) i) (g2 (trL x0 y0 vx vy vd 0 far) i) 3 && _) = false
          rw [h9d]; rfl
         have g'40 := (jn @h9 (jn @h9d g'38))
         refine aa g'40 ?_
         refine hJ1 _ _ ⟨k1 - 1, by omega, _, _, _, ⟨3 + 1, by omega, rfl, rfl⟩, Abs.byG hbel [] rfl [0, 1, 2, 3, 4] (by decide) ?_⟩
         exact aM @hst
      ·have h5d := bsT h5
       obtain rfl : n = 4 := by omega
       have g'41 := (jn @h5 (jn @h5d g'29))
       refine aa g'41 ?_
       refine ai (fun h10 => ?_) (fun h10 => ?_)
       ·have h10d := bsT h10
        have hfinH : eh W Hh xs x0 y0 x1 y1 vx vy vd far false = true := by
         unfold eh
         rw [decide_eq_false hf0]
         exact List.any_eq_true.2 ⟨_, List.getElem_mem hlt, by
          rw [← cw hlt]; unfold fM; rw [Bool.and_eq_true, beq_iff_eq]; exact ⟨hat, h4K_4.symm.trans h10d⟩⟩
        have g'42 := (jn @h10 (jn @h10d g'41))
        refine aa g'42 ?_
        exact hQ _ _ (ae (.inl rfl) hbel (x := .bool true) (ag Tryz.results195) rfl ⟨by first | (rw [hfinH]; done) | (rw [hfinH]; rfl), rfl⟩)
       ·have h10d := bsT h10
        have hno : fM W Hh xs false x0 y0 x1 y1 vx vy vd far ((g1 (trL x0 y0 vx vy vd 0 far) i), (g2 (trL x0 y0 vx vy vd 0 far) i)) = false := by unfold fM; rw [Bool.and_eq_false_iff]; right; exact h4K_4.symm.trans h10d
        have g'43 := (jn @h10 (jn @h10d g'41))
        refine aa g'43 ?_
        refine hJ0 _ _ ⟨k0 - 1, by omega, _, _, _, ⟨i + 1, by omega, fun j hj => by
              rcases Nat.lt_or_ge j i with h | h
              ·exact hal j h
              ·rw [show j = i by omega]; exact hno, rfl, rfl⟩, Abs.byG hbel [] rfl [0, 1, 2, 3] (by decide) ?_⟩
        exact eH
   ·have h2d := bsT h2
    obtain rfl : i = (trL x0 y0 vx vy vd 0 far).length := by omega
    have hfinH : eh W Hh xs x0 y0 x1 y1 vx vy vd far false = false := by
     unfold eh
     rw [m5 (fun j hj => by rw [← cw hj]; exact hal j hj)]; simp
    have g'44 := (jn @h2 (jn @h2d g'26))
    refine aa g'44 ?_
    exact hQ _ _ (ae (.inl rfl) hbel (x := .bool false) (ag Tryz.results195) rfl ⟨by first | (rw [hfinH]; done) | (rw [hfinH]; rfl), rfl⟩)
open Go.RowKit
theorem emp_c (H : ac) (W : Int) (Hh : Int) (pp : AV) (xs : List Int) (x0 : Int) (y0 : Int) (x1 : Int) (y1 : Int) (vx : Int) (vy : Int) (vd : Int) (lo : Int) (hi : Int) (hpp : Sl H 1 pp xs.length (ints .u8 xs)) (hV : bW W Hh xs = true) : ACalls Tryz.prog 196 [.agg [.int .i64 W, .int .i64 Hh, pp], .agg [.int .i64 x0, .int .i64 y0, .int .i64 x1, .int .i64 y1], .agg [.int .i64 vx, .int .i64 vy, .int .i64 vd], .int .i64 lo, .int .i64 hi] H (fun v H' => v = .bool (empB W Hh xs x0 y0 x1 y1 vx vy vd lo hi) ∧ H' = H) := by
 obtain ⟨bpp, opp, cpp, rfl, hbpp⟩ := hpp
 have hblpp := getElem?_lt hbpp
 have hb0pp := fun l => aw (l := l) hbpp
 have htl := lF x0 y0 x1 y1 vx vy vd lo hi
 refine AcT true Tryz.func196 ?_; intro hbel Q hQ
 have g'1 := (jn @hbpp @hb0pp)
 refine aa g'1 ?_
 refine af (by kernel_rfl) (swept_c _ x0 y0 x1 y1 vx vy vd lo hi) ?_
 refine aa g'1 ?_
 refine go_loop try_mixed (by kernel_rfl) (fun k F Hx => ∃ i : Nat, i + k = (cM x0 y0 x1 y1 vx vy vd lo hi).length ∧ (∀ j : Nat, j < i → frC W Hh xs (g1 (cM x0 y0 x1 y1 vx vy vd lo hi) j, g2 (cM x0 y0 x1 y1 vx vy vd lo hi) j) = true) ∧ F = [(5, .ptr (some (H.length, 0))), (23, .sl (some (H.length + 1, 0)) ((cM x0 y0 x1 y1 vx vy vd lo hi).length) (bG (cM x0 y0 x1 y1 vx vy vd lo hi).length)), (24, .int .i64 (((cM x0 y0 x1 y1 vx vy vd lo hi).length : Nat) : Int)), (25, .int .i64 ((i : Nat) : Int))] ∧ Hx = H ++ [.cells true 0 [.int .i64 W, .int .i64 Hh, .sl (some (bpp, 0)) xs.length cpp], .cells (bm (cM x0 y0 x1 y1 vx vy vd lo hi).length) 2 (prs (cM x0 y0 x1 y1 vx vy vd lo hi))]) ((cM x0 y0 x1 y1 vx vy vd lo hi).length) ?_ ?_
 ·refine ⟨_, _, _, ⟨0, by omega, (fun j h => by omega), rfl, rfl⟩, Abs.byG hbel [] rfl [0, 3] (by decide) ?_⟩
  exact eH
 ·rintro k0 F Hx ⟨i, hm0, hal, rfl, rfl⟩ J0 hJ0
  have g'2 := (jn @bK (jn @cO g'1))
  refine aa g'2 ?_
  refine ai (fun h1 => ?_) (fun h1 => ?_)
  ·have h1d := bsT h1
   have hlt : i < (cM x0 y0 x1 y1 vx vy vd lo hi).length := by omega
   have q2 := cI (l := cM x0 y0 x1 y1 vx vy vd lo hi) (j := i) (by omega)
   have g'3 := (jn @h1 (jn @h1d (jn @q2 g'2)))
   refine aa g'3 ?_
   refine af (by kernel_rfl) (pat_c _ W Hh _ xs (g1 (cM x0 y0 x1 y1 vx vy vd lo hi) i) (g2 (cM x0 y0 x1 y1 vx vy vd lo hi) i) ⟨_, _, _, rfl, by first | exact hb0pp _ | exact hbpp⟩ hV) ?_
   refine aa g'3 ?_
   refine ai (fun h3 => ?_) (fun h3 => ?_)
   ·have h3d := bsT h3
    have h3n := bnT h3
    have hfinE : empB W Hh xs x0 y0 x1 y1 vx vy vd lo hi = false := by
     rw [← Bool.not_eq_true]; intro k
     have q := List.all_eq_true.1 k _ (List.getElem_mem hlt)
     rw [← cw hlt] at q
     have q2 : atI W Hh xs (g1 (cM x0 y0 x1 y1 vx vy vd lo hi) i) (g2 (cM x0 y0 x1 y1 vx vy vd lo hi) i) = 1 := by unfold frC at q; simpa using q
     exact absurd q2 (by first | exact h3d | simpa using h3d)
    have g'4 := (jn @h3 (jn @h3n (jn @aU (jn @aT g'3))))
    refine aa g'4 ?_
    exact hQ _ _ (ae (.inl rfl) hbel (x := .bool false) (ag Tryz.results196) rfl ⟨by first | (rw [hfinE]; done) | (rw [hfinE]; rfl), rfl⟩)
   ·have h3d := bsT h3
    have h3n := bnT h3
    have hone : frC W Hh xs ((g1 (cM x0 y0 x1 y1 vx vy vd lo hi) i), (g2 (cM x0 y0 x1 y1 vx vy vd lo hi) i)) = true := by unfold frC; rw [beq_iff_eq]; first | exact h3d | simpa using h3d
    have g'5 := (jn @h3 (jn @h3n (jn @aU (jn @aT g'3))))
    refine aa g'5 ?_
    refine hJ0 _ _ ⟨k0 - 1, by omega, _, _, _, ⟨i + 1, by omega, fun j hj => by
          rcases Nat.lt_or_ge j i with h | h
          ·exact hal j h
          ·rw [show j = i by omega]; exact hone, rfl, rfl⟩, Abs.byG hbel [] rfl [0, 1] (by decide) ?_⟩
    exact eH
  ·have h1d := bsT h1
   obtain rfl : i = (cM x0 y0 x1 y1 vx vy vd lo hi).length := by omega
   have hfinE : empB W Hh xs x0 y0 x1 y1 vx vy vd lo hi = true := List.all_eq_true.2 fun c hc => by
    obtain ⟨j, hj, rfl⟩ := List.mem_iff_getElem.1 hc
    rw [← cw hj]; exact hal j hj
   have g'6 := (jn @h1 (jn @h1d g'2))
   refine aa g'6 ?_
   exact hQ _ _ (ae (.inl rfl) hbel (x := .bool true) (ag Tryz.results196) rfl ⟨by first | (rw [hfinE]; done) | (rw [hfinE]; rfl), rfl⟩)
theorem ref_c (H : ac) (W : Int) (Hh : Int) (pp : AV) (xs : List Int) (x0 : Int) (y0 : Int) (x1 : Int) (y1 : Int) (h : Int) (m : Int) (r : Int) (g : Int) (hpp : Sl H 1 pp xs.length (ints .u8 xs)) (hV : bW W Hh xs = true) (hA : d6 x0 y0 x1 y1 = true) (hg : 1 ≤ g ∧ g ≤ 32) (hbe : df m r = true) : ACalls Tryz.prog 166 [.agg [.int .i64 W, .int .i64 Hh, pp], .agg [.int .i64 x0, .int .i64 y0, .int .i64 x1, .int .i64 y1], .int .i64 h, .agg [.int .i64 m, .int .i64 r], .int .i64 g] H (fun v H' => v = .bool (refB W Hh xs x0 y0 x1 y1 h m r g) ∧ H' = H) := by
 obtain ⟨bpp, opp, cpp, rfl, hbpp⟩ := hpp
 have hblpp := getElem?_lt hbpp
 have hb0pp := fun l => aw (l := l) hbpp
 have had := wc.1 hA
 have hbb := e6.1 hbe
 have el0 : (if 0 < r - g then r - g else 0) = dT r g := rfl
 have el1 : 0 ≤ dT r g := by unfold dT; split <;> omega
 refine AcT true Tryz.func166 ?_; intro hbel Q hQ
 have g'7 := (jn @hbpp (jn @hb0pp @el0))
 refine aa g'7 ?_
 refine af (by kernel_rfl) (dz _ h m) ?_
 refine aa g'7 ?_
 refine ai (fun h1 => ?_) (fun h1 => ?_)
 ·have h1d := bsT h1
  have h1n := bnT h1
  have hfinR : refB W Hh xs x0 y0 x1 y1 h m r g = eh W Hh xs x0 y0 x1 y1 ((aZ h m).1) ((aZ h m).2.1) ((aZ h m).2.2) (1024 - g) false := by unfold refB; rw [h1]; rfl
  have g'8 := (jn @h1 (jn @h1n (jn @aU (jn @aT g'7))))
  refine aa g'8 ?_
  refine af (by kernel_rfl) (hidf_c _ W Hh _ xs x0 y0 x1 y1 ((aZ h m).1) ((aZ h m).2.1) ((aZ h m).2.2) (1024 - g) ⟨_, _, _, rfl, by first | exact hb0pp _ | exact hbpp⟩ hV (by omega) (by omega)) ?_
  refine aa g'8 ?_
  exact hQ _ _ (ae (.inl rfl) hbel (x := .bool (eh W Hh xs x0 y0 x1 y1 ((aZ h m).1) ((aZ h m).2.1) ((aZ h m).2.2) (1024 - g) false)) (ag Tryz.results166) rfl ⟨by first | (rw [hfinR]; done) | (rw [hfinR]; rfl), rfl⟩)
 ·have h1d := bsT h1
  have h1n := bnT h1
  have hrf := h1
  have g'9 := (jn @h1 (jn @h1n (jn @aU (jn @aT g'7))))
  refine aa g'9 ?_
  refine af (by kernel_rfl) (hidt_c _ W Hh _ xs x0 y0 x1 y1 ((aZ h m).1) ((aZ h m).2.1) ((aZ h m).2.2) (r - g) ⟨_, _, _, rfl, by first | exact hb0pp _ | exact hbpp⟩ hV (by omega) (by omega)) ?_
  refine aa g'9 ?_
  refine aj (fun h2 => ?_) (fun h2 => ?_)
  ·have h2d := bsT h2
   have hfinR : refB W Hh xs x0 y0 x1 y1 h m r g = empB W Hh xs x0 y0 x1 y1 (aZ h m).1 (aZ h m).2.1 (aZ h m).2.2 (dT r g) (r + g) := by unfold refB; rw [hrf, h2d]; rfl
   have g'10 := (jn @h2 (jn @h2d g'9))
   refine aa g'10 ?_
   refine af (by kernel_rfl) (emp_c _ W Hh _ xs x0 y0 x1 y1 ((aZ h m).1) ((aZ h m).2.1) ((aZ h m).2.2) (dT r g) (r + g) ⟨_, _, _, rfl, by first | exact hb0pp _ | exact hbpp⟩ hV) ?_
   refine aa g'10 ?_
   exact hQ _ _ (ae (.inl rfl) hbel (x := .bool (empB W Hh xs x0 y0 x1 y1 ((aZ h m).1) ((aZ h m).2.1) ((aZ h m).2.2) (dT r g) (r + g))) (ag Tryz.results166) rfl ⟨by first | (rw [hfinR]; done) | (rw [hfinR]; rfl), rfl⟩)
  ·have h2d := bsT h2
   have hfinR : refB W Hh xs x0 y0 x1 y1 h m r g = true := by unfold refB; rw [hrf, h2d]; rfl
   have g'11 := (jn @h2 (jn @h2d g'9))
   refine aa g'11 ?_
   exact hQ _ _ (ae (.inl rfl) hbel (x := .bool true) (ag Tryz.results166) rfl ⟨by first | (rw [hfinR]; done) | (rw [hfinR]; rfl), rfl⟩)
theorem bad_c (H : ac) (W : Int) (Hh : Int) (pp : AV) (xs : List Int) (x0 : Int) (y0 : Int) (x1 : Int) (y1 : Int) (h : Int) (q : AV) (sc : List (Int × Int)) (g : Int) (hpp : Sl H 1 pp xs.length (ints .u8 xs)) (hq : Sl H 2 q sc.length (prs sc)) (hV : bW W Hh xs = true) (hg : 1 ≤ g ∧ g ≤ 32) (hsB : ct sc = true) : ACalls Tryz.prog 124 [.agg [.int .i64 W, .int .i64 Hh, pp], .agg [.int .i64 x0, .int .i64 y0, .int .i64 x1, .int .i64 y1], .int .i64 h, q, .int .i64 g] H (fun v H' => v = .bool (badB W Hh xs x0 y0 x1 y1 h sc g) ∧ H' = H) := by
 obtain ⟨bpp, opp, cpp, rfl, hbpp⟩ := hpp
 have hblpp := getElem?_lt hbpp
 have hb0pp := fun l => aw (l := l) hbpp
 obtain ⟨bq, oq, cq, rfl, hbq⟩ := hq
 have hblq := getElem?_lt hbq
 have hb0q := fun l => aw (l := l) hbq
 have hsc := da.1 hsB
 refine AcT true Tryz.func124 ?_; intro hbel Q hQ
 have g'12 := (jn @hbpp (jn @hb0pp (jn @hbq @hb0q)))
 refine aa g'12 ?_
 refine af (by kernel_rfl) (cadm_c _ x0 y0 x1 y1) ?_
 refine aa g'12 ?_
 refine ai (fun h1 => ?_) (fun h1 => ?_)
 ·have h1d := bsT h1
  have hfinB : badB W Hh xs x0 y0 x1 y1 h sc g = false := by unfold badB; rw [h1d]; rfl
  have g'13 := (jn @h1 (jn @h1d g'12))
  refine aa g'13 ?_
  exact hQ _ _ (ae (.inl rfl) hbel (x := .bool false) (ag Tryz.results124) rfl ⟨by first | (rw [hfinB]; done) | (rw [hfinB]; rfl), rfl⟩)
 ·have h1d := bsT h1
  have hadm := h1d
  have g'14 := (jn @h1 (jn @h1d g'12))
  refine aa g'14 ?_
  refine go_loop try_mixed (by kernel_rfl) (fun k F Hx => ∃ i : Nat, i + k = sc.length ∧ (∀ j : Nat, j < i → refB W Hh xs x0 y0 x1 y1 h (g1 sc j) (g2 sc j) g = false) ∧ F = [(2, .int .i64 h), (4, .int .i64 g), (5, .ptr (some (H.length, 0))), (6, .ptr (some (H.length + 1, 0))), (16, .sl (some (bq, 0)) sc.length cq), (17, .int .i64 ((sc.length : Nat) : Int)), (18, .int .i64 ((i : Nat) : Int))] ∧ Hx = H ++ [.cells true 0 [.int .i64 W, .int .i64 Hh, .sl (some (bpp, 0)) xs.length cpp], .cells true 0 [.int .i64 x0, .int .i64 y0, .int .i64 x1, .int .i64 y1]]) (sc.length) ?_ ?_
  ·refine ⟨_, _, _, ⟨0, by omega, (fun j h => by omega), rfl, rfl⟩, Abs.byG hbel [] rfl [0, 1] (by decide) ?_⟩
   exact be
  ·rintro k0 F Hx ⟨i, hm0, hal, rfl, rfl⟩ J0 hJ0
   refine aa g'14 ?_
   refine ai (fun h2 => ?_) (fun h2 => ?_)
   ·have h2d := bsT h2
    have hlt : i < sc.length := by omega
    have hbe := hsc.2 _ (List.getElem_mem hlt)
    rw [← cw hlt] at hbe
    have hbe2 : df (g1 sc i) (g2 sc i) = true := hbe
    have q3 := cI (l := sc) (j := i) (by omega)
    have g'15 := (jn @h2 (jn @h2d (jn @q3 g'14)))
    refine aa g'15 ?_
    refine af (by kernel_rfl) (ref_c _ W Hh _ xs x0 y0 x1 y1 h (g1 sc i) (g2 sc i) g ⟨_, _, _, rfl, by first | exact hb0pp _ | exact hbpp⟩ hV (by assumption) hg (by assumption)) ?_
    refine aa g'15 ?_
    refine ai (fun h4 => ?_) (fun h4 => ?_)
    ·have h4d := bsT h4
     have hfinB : badB W Hh xs x0 y0 x1 y1 h sc g = true := by
      unfold badB
      rw [hadm]
      exact List.any_eq_true.2 ⟨_, List.getElem_mem hlt, by rw [← cw hlt]; exact h4d⟩
     have g'16 := (jn @h4 (jn @h4d g'15))
     refine aa g'16 ?_
     exact hQ _ _ (ae (.inl rfl) hbel (x := .bool true) (ag Tryz.results124) rfl ⟨by first | (rw [hfinB]; done) | (rw [hfinB]; rfl), rfl⟩)
    ·have h4d := bsT h4
     have hno := h4d
     have g'17 := (jn @h4 (jn @h4d g'15))
     refine aa g'17 ?_
     refine hJ0 _ _ ⟨k0 - 1, by omega, _, _, _, ⟨i + 1, by omega, fun j hj => by
           rcases Nat.lt_or_ge j i with h | h
           ·exact hal j h
           ·rw [show j = i by omega]; exact hno, rfl, rfl⟩, Abs.byG hbel [] rfl [0, 1] (by decide) ?_⟩
     exact be
   ·have h2d := bsT h2
    obtain rfl : i = sc.length := by omega
    have hfinB : badB W Hh xs x0 y0 x1 y1 h sc g = false := by
     unfold badB
     rw [m5 (fun j hj => by rw [← cw hj]; exact hal j hj)]; simp
    have g'18 := (jn @h2 (jn @h2d g'14))
    refine aa g'18 ?_
    exact hQ _ _ (ae (.inl rfl) hbel (x := .bool false) (ag Tryz.results124) rfl ⟨by first | (rw [hfinB]; done) | (rw [hfinB]; rfl), rfl⟩)
open Go.RowKit
theorem tOk_x {W Hh : Int} {xs : List Int} {b : T6} {s : List (Int × Int)} {g : Int} (h : tX1 W b < tX0 b) : tOk W Hh xs b s g = false := by unfold tOk; rw [decide_eq_true h]; rfl
theorem tOk_y {W Hh : Int} {xs : List Int} {b : T6} {s : List (Int × Int)} {g : Int} (h : tY1 Hh b < tY0 b) : tOk W Hh xs b s g = false := by unfold tOk; rw [decide_eq_true h]; simp
theorem tOk_n {W Hh : Int} {xs : List Int} {b : T6} {s : List (Int × Int)} {g : Int} {i : Nat} (hi : i = (mkB b).length) (h : ∀ k : Nat, k < i → tP W Hh xs b s g k = true) : tOk W Hh xs b s g = false := by
 have e : tI W Hh xs b s g = (mkB b).length := by unfold tI; rw [← hi]; exact mY h (Nat.le_refl _) (.inl rfl)
 unfold tOk; rw [e, decide_eq_false (Nat.lt_irrefl _)]; simp
theorem tI_i {W Hh : Int} {xs : List Int} {b : T6} {s : List (Int × Int)} {g : Int} {i : Nat} (hi : i < (mkB b).length) (h : ∀ k : Nat, k < i → tP W Hh xs b s g k = true) (h0 : tP W Hh xs b s g i = false) : tI W Hh xs b s g = i := mY h (by omega) (.inr h0)
theorem tOk_y2 {W Hh : Int} {xs : List Int} {b : T6} {s : List (Int × Int)} {g : Int} {i : Nat} (hx : ¬ tX1 W b < tX0 b) (hy : ¬ tY1 Hh b < tY0 b) (hi : i < (mkB b).length) (h : tI W Hh xs b s g = i) : tOk W Hh xs b s g = true := by
 unfold tOk; rw [decide_eq_false hx, decide_eq_false hy, h, decide_eq_true hi]; rfl
theorem tJ_j {W Hh : Int} {xs : List Int} {b : T6} {s : List (Int × Int)} {g : Int} {j : Nat} (hj : 0 < j) (h0 : tP W Hh xs b s g (j - 1) = false) (hn : j ≤ (mkB b).length) (h : ∀ k : Nat, j ≤ k → k < (mkB b).length → tP W Hh xs b s g k = true) : tJ W Hh xs b s g = j := tlN_eq ⟨hj, h0⟩ hn h
theorem trim_c (H : ac) (W : Int) (Hh : Int) (pp : AV) (xs : List Int) (x0 : Int) (y0 : Int) (x1 : Int) (y1 : Int) (f : Int) (c : Int) (q : AV) (sc : List (Int × Int)) (g : Int) (hpp : Sl H 1 pp xs.length (ints .u8 xs)) (hq : Sl H 2 q sc.length (prs sc)) (hV : bW W Hh xs = true) (hb : bxB x0 y0 x1 y1 f c = true) (hsB : ct sc = true) (hg : 1 ≤ g ∧ g ≤ 32) : ACalls Tryz.prog 89 [.agg [.int .i64 W, .int .i64 Hh, pp], .agg [.int .i64 x0, .int .i64 y0, .int .i64 x1, .int .i64 y1, .int .i64 f, .int .i64 c], q, .int .i64 g] H (fun v H' => v = .tup [.agg [.int .i64 (mkV (tOk W Hh xs (x0, y0, x1, y1, f, c) sc g) ((tB W Hh xs (x0, y0, x1, y1, f, c) sc g).1)), .int .i64 (mkV (tOk W Hh xs (x0, y0, x1, y1, f, c) sc g) ((tB W Hh xs (x0, y0, x1, y1, f, c) sc g).2.1)), .int .i64 (mkV (tOk W Hh xs (x0, y0, x1, y1, f, c) sc g) ((tB W Hh xs (x0, y0, x1, y1, f, c) sc g).2.2.1)), .int .i64 (mkV (tOk W Hh xs (x0, y0, x1, y1, f, c) sc g) ((tB W Hh xs (x0, y0, x1, y1, f, c) sc g).2.2.2.1)), .int .i64 (mkV (tOk W Hh xs (x0, y0, x1, y1, f, c) sc g) ((tB W Hh xs (x0, y0, x1, y1, f, c) sc g).2.2.2.2.1)), .int .i64 (mkV (tOk W Hh xs (x0, y0, x1, y1, f, c) sc g) ((tB W Hh xs (x0, y0, x1, y1, f, c) sc g).2.2.2.2.2))], .bool (tOk W Hh xs (x0, y0, x1, y1, f, c) sc g)] ∧ H' = H) := by
 obtain ⟨bpp, opp, cpp, rfl, hbpp⟩ := hpp
 have hblpp := getElem?_lt hbpp
 have hb0pp := fun l => aw (l := l) hbpp
 obtain ⟨bq, oq, cq, rfl, hbq⟩ := hq
 have hblq := getElem?_lt hbq
 have hb0q := fun l => aw (l := l) hbq
 have hbb := bL.1 hb
 have hab := hbb.2.2
 have haa := bH.1 hab
 have hVV := bM.1 hV
 have hw0 := hVV.w0
 have hw1 := hVV.w1
 have hh0 := hVV.h0
 have hh1 := hVV.h1
 have hln := ew f c.toNat
 have e0 : (if x0 < 0 then 0 else x0) = tX0 (x0, y0, x1, y1, f, c) := rfl
 have e1 : (if y0 < 0 then 0 else y0) = tY0 (x0, y0, x1, y1, f, c) := rfl
 have e2 : (if 64 * W < x1 then 64 * W else x1) = tX1 W (x0, y0, x1, y1, f, c) := rfl
 have e3 : (if 64 * Hh < y1 then 64 * Hh else y1) = tY1 Hh (x0, y0, x1, y1, f, c) := rfl
 refine AcT true Tryz.func89 ?_; intro hbel Q hQ
 have g'1 := (jn @hbpp (jn @hb0pp (jn @hbq (jn @hb0q (jn @e0 (jn @e1 (jn @e2 @e3)))))))
 refine aa g'1 ?_
 refine aj (fun h1 => ?_) (fun h1 => ?_)
 ·have h1d := bsT h1
  have hnx := h1d
  have g'2 := (jn @h1 (jn @h1d g'1))
  refine aa g'2 ?_
  refine ai (fun h2 => ?_) (fun h2 => ?_)
  ·have h2d := bsT h2
   have hfinO := tOk_y (W := W) (Hh := Hh) (xs := xs) (b := (x0, y0, x1, y1, f, c)) (s := sc) (g := g) h2d
   have g'3 := (jn @h2 (jn @h2d g'2))
   refine aa g'3 ?_
   exact hQ _ _ (ae (.inl rfl) hbel (x := .tup [.agg [.int .i64 0, .int .i64 0, .int .i64 0, .int .i64 0, .int .i64 0, .int .i64 0], .bool false]) (ag Tryz.results89) rfl ⟨by first | (rw [hfinO]; done) | (rw [hfinO]; rfl) | (unfold tB; rw [hfinO, hfinI, hfinJ]; rfl) | skip, rfl⟩)
  ·have h2d := bsT h2
   have hny := h2d
   have g'4 := (jn @h2 (jn @h2d g'2))
   refine aa g'4 ?_
   refine af (by kernel_rfl) (nq _ f c hab) ?_
   refine aa g'4 ?_
   refine go_loop try_mixed (by kernel_rfl) (fun k F Hx => ∃ i : Nat, i + k = (bl f c.toNat).length ∧ (∀ j : Nat, j < i → tP W Hh xs (x0, y0, x1, y1, f, c) sc g j = true) ∧ F = [(2, .sl (some (bq, 0)) sc.length cq), (3, .int .i64 g), (4, .ptr (some (H.length, 0))), (8, .ptr (some (H.length + 1, 0))), (10, .ptr (some (H.length + 2, 0))), (11, .sl (some (H.length + 3, i)) ((bl f c.toNat).length - i) none)] ∧ Hx = H ++ [.cells true 0 [.int .i64 W, .int .i64 Hh, .sl (some (bpp, 0)) xs.length cpp], .cells true 0 [.int .i64 0, .int .i64 0, .int .i64 0, .int .i64 0, .int .i64 0, .int .i64 0], .cells true 0 [.int .i64 (tX0 (x0, y0, x1, y1, f, c)), .int .i64 (tY0 (x0, y0, x1, y1, f, c)), .int .i64 (tX1 W (x0, y0, x1, y1, f, c)), .int .i64 (tY1 Hh (x0, y0, x1, y1, f, c))], .cells true 1 (ints .i64 (bl f c.toNat))]) ((bl f c.toNat).length) ?_ ?_
   ·refine ⟨_, _, _, ⟨0, by omega, (fun j h => by omega), rfl, rfl⟩, Abs.byG hbel [] rfl [0, 2, 3, 4] (by decide) ?_⟩
    exact eH
   ·rintro k0 F Hx ⟨i, hm0, hal, rfl, rfl⟩ J0 hJ0
    have g'5 := (jn @ck (jn @cH g'4))
    refine aa g'5 ?_
    refine aj (fun h3 => ?_) (fun h3 => ?_)
    ·have h3d := bsT h3
     have q4 := cV (k := .i64) (xs := bl f c.toNat) (j := i) (by omega)
     have g'6 := (jn @h3 (jn @h3d (jn @q4 g'5)))
     refine aa g'6 ?_
     refine aK (by kernel_rfl) (bad_c _ W Hh _ xs (tX0 (x0, y0, x1, y1, f, c)) (tY0 (x0, y0, x1, y1, f, c)) (tX1 W (x0, y0, x1, y1, f, c)) (tY1 Hh (x0, y0, x1, y1, f, c)) (gi (bl f c.toNat) i) _ sc g ⟨_, _, _, rfl, by first | exact hb0pp _ | exact hbpp⟩ ⟨_, _, _, rfl, by first | exact hb0q _ | exact hbq⟩ hV hg hsB) ?_
     refine aa g'6 ?_
     refine ai (fun h5 => ?_) (fun h5 => ?_)
     ·have h5d := bsT h5
      have hbi := h5d
      have g'7 := (jn @h5 (jn @h5d g'6))
      refine aa g'7 ?_
      have hv1 : (bl f c.toNat).length - i - 1 = (bl f c.toNat).length - (i + 1) := by omega
      refine hJ0 _ _ ⟨k0 - 1, by omega, _, _, _, ⟨i + 1, by omega, fun j hj => by
            rcases Nat.lt_or_ge j i with h | h
            ·exact hal j h
            ·rw [show j = i by omega]; exact hbi, rfl, rfl⟩, Abs.byG hbel [] rfl [0, 1, 2, 3] (by decide) ?_⟩
      exact aM @hv1
     ·have h5d := bsT h5
      have hpi : tP W Hh xs (x0, y0, x1, y1, f, c) sc g i = false := h5d
      have hiN : i < (mkB (x0, y0, x1, y1, f, c)).length := by show i < (bl f c.toNat).length; omega
      have hfinI := tI_i hiN hal hpi
      have hfinO := tOk_y2 hnx hny hiN hfinI
      have g'8 := (jn @h5 (jn @h5d g'6))
      refine aa g'8 ?_
      refine ai (fun h6 => ?_) (fun h6 => ?_)
      ·have h6d := bsT h6
       have h6n := bnT h6
       omega
      ·have h6d := bsT h6
       have h6n := bnT h6
       have g'9 := (jn @h6 (jn @h6n (jn @aU (jn @aT g'8))))
       refine aa g'9 ?_
       refine go_loop try_mixed (by kernel_rfl) (fun k F Hx => ∃ j : Nat, i + k = j ∧ i < j ∧ j ≤ (bl f c.toNat).length ∧ (∀ q : Nat, j ≤ q → q < (mkB (x0, y0, x1, y1, f, c)).length → tP W Hh xs (x0, y0, x1, y1, f, c) sc g q = true) ∧ F = [(2, .sl (some (bq, 0)) sc.length cq), (3, .int .i64 g), (4, .ptr (some (H.length, 0))), (8, .ptr (some (H.length + 1, 0))), (10, .ptr (some (H.length + 2, 0))), (11, .sl (some (H.length + 3, i)) (j - i) none)] ∧ Hx = H ++ [.cells true 0 [.int .i64 W, .int .i64 Hh, .sl (some (bpp, 0)) xs.length cpp], .cells true 0 [.int .i64 0, .int .i64 0, .int .i64 0, .int .i64 0, .int .i64 0, .int .i64 0], .cells true 0 [.int .i64 (tX0 (x0, y0, x1, y1, f, c)), .int .i64 (tY0 (x0, y0, x1, y1, f, c)), .int .i64 (tX1 W (x0, y0, x1, y1, f, c)), .int .i64 (tY1 Hh (x0, y0, x1, y1, f, c))], .cells true 1 (ints .i64 (bl f c.toNat))]) ((bl f c.toNat).length - i) ?_ ?_
       ·refine ⟨_, _, _, ⟨(bl f c.toNat).length, by omega, by omega, Nat.le_refl _, (fun q h1 h2 => by have h2' : q < (bl f c.toNat).length := h2; omega), rfl, rfl⟩, Abs.byG hbel [] rfl [0, 1, 2, 3] (by decide) ?_⟩
        exact eH
       ·rintro k1 F Hx ⟨j, hm1, hij, hjn, hbk, rfl, rfl⟩ J1 hJ1
        have hj1 : ((j - i : Nat) : Int) - 1 = ((j - 1 - i : Nat) : Int) := by omega
        have hj2 : i + (j - 1 - i) = j - 1 := by omega
        have q7 := cV (k := .i64) (xs := bl f c.toNat) (j := j - 1) (by omega)
        have g'10 := (jn @hj1 (jn @hj2 (jn @q7 g'9)))
        refine aa g'10 ?_
        refine aK (by kernel_rfl) (bad_c _ W Hh _ xs (tX0 (x0, y0, x1, y1, f, c)) (tY0 (x0, y0, x1, y1, f, c)) (tX1 W (x0, y0, x1, y1, f, c)) (tY1 Hh (x0, y0, x1, y1, f, c)) (gi (bl f c.toNat) (j - 1)) _ sc g ⟨_, _, _, rfl, by first | exact hb0pp _ | exact hbpp⟩ ⟨_, _, _, rfl, by first | exact hb0q _ | exact hbq⟩ hV hg hsB) ?_
        refine aa g'10 ?_
        refine ai (fun h8 => ?_) (fun h8 => ?_)
        ·have h8d := bsT h8
         have hbj := h8d
         have hne : ¬ j - 1 = i := fun e => by
          have q := hbj
          rw [e] at q
          exact absurd (q.symm.trans hpi) (by decide)
         have g'11 := (jn @h8 (jn @h8d g'10))
         refine aa g'11 ?_
         refine hJ1 _ _ ⟨k1 - 1, by omega, _, _, _, ⟨j - 1, by omega, by omega, by omega, fun q h1 h2 => by
               rcases Nat.lt_or_ge q j with h | h
               ·rw [show q = j - 1 by omega]; exact hbj
               ·exact hbk q h h2, rfl, rfl⟩, Abs.byG hbel [] rfl [0, 1, 2, 3] (by decide) ?_⟩
         exact eH
        ·have h8d := bsT h8
         have hfinJ := tJ_j (W := W) (Hh := Hh) (xs := xs) (b := (x0, y0, x1, y1, f, c)) (s := sc) (g := g) (j := j) (by omega) h8d (by show j ≤ (bl f c.toNat).length; omega) hbk
         have q9 := cV (k := .i64) (xs := bl f c.toNat) (j := i) (by omega)
         have g'12 := (jn @h8 (jn @h8d (jn @q9 g'10)))
         refine aa g'12 ?_
         exact hQ _ _ (ae (.inl rfl) hbel (x := .tup [.agg [.int .i64 (tX0 (x0, y0, x1, y1, f, c)), .int .i64 (tY0 (x0, y0, x1, y1, f, c)), .int .i64 (tX1 W (x0, y0, x1, y1, f, c)), .int .i64 (tY1 Hh (x0, y0, x1, y1, f, c)), .int .i64 (gi (bl f c.toNat) i), .int .i64 ((j - i : Nat) : Int)], .bool true]) (ag Tryz.results89) rfl ⟨by first | (rw [hfinO]; done) | (rw [hfinO]; rfl) | (unfold tB; rw [hfinO, hfinI, hfinJ]; rfl) | skip, rfl⟩)
    ·have h3d := bsT h3
     have hfinO := tOk_n (W := W) (Hh := Hh) (xs := xs) (b := (x0, y0, x1, y1, f, c)) (s := sc) (g := g) (i := i) (by show i = (bl f c.toNat).length; omega) hal
     have g'13 := (jn @h3 (jn @h3d g'5))
     refine aa g'13 ?_
     refine ai (fun h10 => ?_) (fun h10 => ?_)
     ·have h10d := bsT h10
      have h10n := bnT h10
      have g'14 := (jn @h10 (jn @h10n (jn @aU (jn @aT g'13))))
      refine aa g'14 ?_
      exact hQ _ _ (ae (.inl rfl) hbel (x := .tup [.agg [.int .i64 0, .int .i64 0, .int .i64 0, .int .i64 0, .int .i64 0, .int .i64 0], .bool false]) (ag Tryz.results89) rfl ⟨by first | (rw [hfinO]; done) | (rw [hfinO]; rfl) | (unfold tB; rw [hfinO, hfinI, hfinJ]; rfl) | skip, rfl⟩)
     ·have h10d := bsT h10
      have h10n := bnT h10
      omega
 ·have h1d := bsT h1
  have hfinO := tOk_x (W := W) (Hh := Hh) (xs := xs) (b := (x0, y0, x1, y1, f, c)) (s := sc) (g := g) h1d
  have g'15 := (jn @h1 (jn @h1d g'1))
  refine aa g'15 ?_
  exact hQ _ _ (ae (.inl rfl) hbel (x := .tup [.agg [.int .i64 0, .int .i64 0, .int .i64 0, .int .i64 0, .int .i64 0, .int .i64 0], .bool false]) (ag Tryz.results89) rfl ⟨by first | (rw [hfinO]; done) | (rw [hfinO]; rfl) | (unfold tB; rw [hfinO, hfinI, hfinJ]; rfl) | skip, rfl⟩)
theorem trim_t (H : ac) (W Hh : Int) (pp : AV) (xs : List Int) (b : T6) (q : AV) (sc : List (Int × Int)) (g : Int) (hpp : Sl H 1 pp xs.length (ints .u8 xs)) (hq : Sl H 2 q sc.length (prs sc)) (hV : bW W Hh xs = true) (hb : bD b = true) (hsB : ct sc = true) (hg : 1 ≤ g ∧ g ≤ 32) :
  ACalls Tryz.prog 89 [.agg [.int .i64 W, .int .i64 Hh, pp], .agg [.int .i64 b.1, .int .i64 b.2.1, .int .i64 b.2.2.1, .int .i64 b.2.2.2.1, .int .i64 b.2.2.2.2.1, .int .i64 b.2.2.2.2.2], q, .int .i64 g] H (fun v H' => v = .tup [.agg [.int .i64 (mkV (tOk W Hh xs b sc g) (tB W Hh xs b sc g).1), .int .i64 (mkV (tOk W Hh xs b sc g) (tB W Hh xs b sc g).2.1), .int .i64 (mkV (tOk W Hh xs b sc g) (tB W Hh xs b sc g).2.2.1), .int .i64 (mkV (tOk W Hh xs b sc g) (tB W Hh xs b sc g).2.2.2.1), .int .i64 (mkV (tOk W Hh xs b sc g) (tB W Hh xs b sc g).2.2.2.2.1), .int .i64 (mkV (tOk W Hh xs b sc g) (tB W Hh xs b sc g).2.2.2.2.2)], .bool (tOk W Hh xs b sc g)] ∧ H' = H) :=
 trim_c H W Hh pp xs b.1 b.2.1 b.2.2.1 b.2.2.2.1 b.2.2.2.2.1 b.2.2.2.2.2 q sc g hpp hq hV hb hsB hg
open Go.RowKit
theorem mkV_f (n : Int) : mkV false n = 0 := rfl
set_option maxRecDepth 100000 in
theorem lP (H : ac) (s : AV) (l : List T6) (hs : Sl H 6 s l.length (r6 l)) (hl : l.length ≤ 1000000) (h0 : 0 < l.length) : ACalls Tryz.prog 44 [s] H (fun v H' => v = .sl (some (H.length, 0)) l.length none ∧ H' = H ++ [.cells true 6 (r6 l)]) := by
 obtain ⟨b, own, cap, rfl, hb⟩ := hs
 have hbl := getElem?_lt hb
 have hb0 := fun l => aw (l := l) hb
 generalize hm : l.length = m at *
 refine AcT true Tryz.func44 ?_; intro hbel Q hQ
 have htk : List.take (m * 6) (r6 l) = r6 l := List.take_of_length_le (by rw [bV]; omega)
 have hm0 : (m == 0) = false := beq_eq_false_iff_ne.2 (by omega)
 have hm1 : (m != 0) = true := bne_iff_ne.2 (by omega)
 have hln : (r6 l).length = m * 6 := by rw [bV, hm]
 simp -implicitDefEqProofs (disch := omega) only [hb, hb0, Option.isNone_some, hm0, h0, htk, il, hm1, c9, hln, simprocAttr, aB, aC, Function.comp_apply, one1, lenV, ak, ar, au, aop, AV.ofValue, AV.ofCell, AV.cells, AV.flat, AV.one, arep, aN, aD, az]
 repeat refine And.intro (by omega) ?_
 refine hQ _ _ (end_by (.inl rfl) hbel (x1 := .sl (some (H.length + 1, 0)) m none) (.sl (some (H.length, 0)) m none) (ag Tryz.results44) [1] (by decide) ⟨rfl, rfl⟩ ?_)
 exact absTf @bt
theorem vol_c (H : ac) (x0 : Int) (y0 : Int) (x1 : Int) (y1 : Int) (f : Int) (c : Int) : ACalls Tryz.prog 64 [.agg [.int .i64 x0, .int .i64 y0, .int .i64 x1, .int .i64 y1, .int .i64 f, .int .i64 c]] H (fun v H' => v = .int .i64 (dN (x0, y0, x1, y1, f, c)) ∧ H' = H) := by
 refine AcT true Tryz.func64 ?_; intro hbel Q hQ
 refine aY ?_
 refine af (by kernel_rfl) (eO _ x0 y0 x1 y1 f c) ?_
 refine aY ?_
 refine ai (fun h1 => ?_) (fun h1 => ?_)
 ·have h1d := bsT h1
  have hfinV : dN (x0, y0, x1, y1, f, c) = 0 := if_neg (fun k => absurd ((show bxB x0 y0 x1 y1 f c = true from k).symm.trans h1d) (by decide))
  have g'1 := (jn @h1 @h1d)
  refine aa g'1 ?_
  exact hQ _ _ (ae (.inl rfl) hbel (x := .int .i64 0) (ag Tryz.results64) rfl ⟨by first | (rw [hfinV]; done) | (rw [hfinV]; rfl), rfl⟩)
 ·have h1d := bsT h1
  have hbb := bL.1 h1d
  have haa := bH.1 hbb.2.2
  have m1 := bS (a := x1 - x0 + 1) (b := y1 - y0 + 1) (A := 2097153) (B := 2097153) (by omega) (by omega)
  have m2 := bS (a := (x1 - x0 + 1) * (y1 - y0 + 1)) (b := c) (A := 4398050705409) (B := 256) (by omega) (by omega)
  have hfinV : dN (x0, y0, x1, y1, f, c) = (x1 - x0 + 1) * (y1 - y0 + 1) * c := if_pos h1d
  have g'2 := (jn @h1 @h1d)
  refine aa g'2 ?_
  exact hQ _ _ (ae (.inl rfl) hbel (x := .int .i64 ((((x1 - x0) + 1) * ((y1 - y0) + 1)) * c)) (ag Tryz.results64) rfl ⟨by first | (rw [hfinV]; done) | (rw [hfinV]; rfl), rfl⟩)
theorem spl1_c (H : ac) (n : Int) (u : Int) (hn : 0 ≤ n ∧ n ≤ 4194304) (hu : 0 ≤ u ∧ u ≤ 8) : ACalls Tryz.prog 125 [.int .i64 n, .int .i64 u] H (fun v H' => v = .int .i64 (dn n u) ∧ H' = H) := by
 have m1 := bS (a := n) (b := u) (A := 4194304) (B := 8) (by omega) (by omega)
 refine AcT true Tryz.func125 ?_; intro hbel Q hQ
 refine aY ?_
 refine ai (fun h1 => ?_) (fun h1 => ?_)
 ·have h1d := bsT h1
  have g'3 := (jn @h1 (jn @h1d (jn @aU @aT)))
  refine aa g'3 ?_
  exact hQ _ _ (aF (.inl rfl) hbel (x := .int .i64 0) (ag Tryz.results125) rfl ⟨by first | (unfold dn; rw [if_pos (by omega)]; done) | (unfold dn; rw [if_neg (by omega)]; done) | (unfold dn; rw [if_pos (by omega)]; rfl) | (unfold dn; rw [if_neg (by omega)]; rfl), rfl⟩)
 ·have h1d := bsT h1
  have g'4 := (jn @h1 (jn @h1d (jn @aU @aT)))
  refine aa g'4 ?_
  exact hQ _ _ (aF (.inl rfl) hbel (x := .int .i64 (n * u)) (ag Tryz.results125) rfl ⟨by first | (unfold dn; rw [if_pos (by omega)]; done) | (unfold dn; rw [if_neg (by omega)]; done) | (unfold dn; rw [if_pos (by omega)]; rfl) | (unfold dn; rw [if_neg (by omega)]; rfl), rfl⟩)
theorem split_c (H : ac) (x0 : Int) (y0 : Int) (x1 : Int) (y1 : Int) (f : Int) (c : Int) (hb : bxB x0 y0 x1 y1 f c = true) : ACalls Tryz.prog 90 [.agg [.int .i64 x0, .int .i64 y0, .int .i64 x1, .int .i64 y1, .int .i64 f, .int .i64 c]] H (fun v H' => v = .tup [.agg [.int .i64 (mkV (dc (x0, y0, x1, y1, f, c)) ((dF (x0, y0, x1, y1, f, c)).1)), .int .i64 (mkV (dc (x0, y0, x1, y1, f, c)) ((dF (x0, y0, x1, y1, f, c)).2.1)), .int .i64 (mkV (dc (x0, y0, x1, y1, f, c)) ((dF (x0, y0, x1, y1, f, c)).2.2.1)), .int .i64 (mkV (dc (x0, y0, x1, y1, f, c)) ((dF (x0, y0, x1, y1, f, c)).2.2.2.1)), .int .i64 (mkV (dc (x0, y0, x1, y1, f, c)) ((dF (x0, y0, x1, y1, f, c)).2.2.2.2.1)), .int .i64 (mkV (dc (x0, y0, x1, y1, f, c)) ((dF (x0, y0, x1, y1, f, c)).2.2.2.2.2))], .agg [.int .i64 (mkV (dc (x0, y0, x1, y1, f, c)) ((dG (x0, y0, x1, y1, f, c)).1)), .int .i64 (mkV (dc (x0, y0, x1, y1, f, c)) ((dG (x0, y0, x1, y1, f, c)).2.1)), .int .i64 (mkV (dc (x0, y0, x1, y1, f, c)) ((dG (x0, y0, x1, y1, f, c)).2.2.1)), .int .i64 (mkV (dc (x0, y0, x1, y1, f, c)) ((dG (x0, y0, x1, y1, f, c)).2.2.2.1)), .int .i64 (mkV (dc (x0, y0, x1, y1, f, c)) ((dG (x0, y0, x1, y1, f, c)).2.2.2.2.1)), .int .i64 (mkV (dc (x0, y0, x1, y1, f, c)) ((dG (x0, y0, x1, y1, f, c)).2.2.2.2.2))], .bool (dc (x0, y0, x1, y1, f, c))] ∧ H' = H) := by
 have hbb := bL.1 hb
 have haa := bH.1 hbb.2.2
 have et1 : Int.tdiv (x1 - x0 + 1) 2 = (x1 - x0 + 1) / 2 := Int.tdiv_eq_ediv_of_nonneg (by omega)
 have et2 : Int.tdiv (y1 - y0 + 1) 2 = (y1 - y0 + 1) / 2 := Int.tdiv_eq_ediv_of_nonneg (by omega)
 have et3 : Int.tdiv c 2 = c / 2 := Int.tdiv_eq_ediv_of_nonneg (by omega)
 have et4 : Int.tmod (f + c / 2) 256 = (f + c / 2) % 256 := Int.tmod_eq_emod_of_nonneg (by omega)
 (refine bT Tryz.func90 _ rfl (Nat.le_of_ble_eq_true (by kernel_rfl)) rfl ?_; intro hbel Q hQ hQ' c hc; unfold Tryz.f90 at hc; simp only [Option.some.injEq] at hc; subst hc; clear hQ')
 refine aQ fun Q1 hn1 hr1 he1 => ?_
 have hQ1 := fun F H' h => hr1 F H' (hQ F H' h)
 refine aL true try_mixed (by kernel_rfl) ?_
 have g'5 := (jn @et1 (jn @et2 (jn @et3 @et4)))
 refine aa g'5 ?_
 refine hn1 _ _ ?_
 refine aQ fun Q2 hn2 hr2 he2 => ?_
 have hQ2 := fun F H' h => hr2 F H' (hQ F H' h)
 refine aL true try_mixed (by kernel_rfl) ?_
 refine aa g'5 ?_
 refine af (by kernel_rfl) (vol_c _ x0 y0 x1 y1 f c) ?_
 refine aa g'5 ?_
 refine ai (fun h1 => ?_) (fun h1 => ?_)
 ·have h1d := bsT h1
  have hfinV : dc (x0, y0, x1, y1, f, c) = false := by unfold dc; rw [decide_eq_true h1d]; rfl
  have g'6 := (jn @h1 (jn @h1d g'5))
  refine aa g'6 ?_
  exact hQ2 _ _ (ae (.inl rfl) hbel (x := .tup [.agg [.int .i64 0, .int .i64 0, .int .i64 0, .int .i64 0, .int .i64 0, .int .i64 0], .agg [.int .i64 0, .int .i64 0, .int .i64 0, .int .i64 0, .int .i64 0, .int .i64 0], .bool false]) (ag Tryz.results90) rfl ⟨by first | (rw [hfinV]; done) | (rw [hfinV]; rfl) | (rw [hfinV, hfinX, hfinY]; rfl), rfl⟩)
 ·have h1d := bsT h1
  have hfinV : dc (x0, y0, x1, y1, f, c) = true := by unfold dc; rw [decide_eq_false (by omega)]; rfl
  have g'7 := (jn @h1 (jn @h1d g'5))
  refine aa g'7 ?_
  refine hn2 _ _ ?_
  refine aQ fun Q3 hn3 hr3 he3 => ?_
  have hQ3 := fun F H' h => hr3 F H' (hQ F H' h)
  refine aL true try_mixed (by kernel_rfl) ?_
  refine aa g'7 ?_
  refine hn3 _ _ ?_
  refine aQ fun Q4 hn4 hr4 he4 => ?_
  have hQ4 := fun F H' h => hr4 F H' (hQ F H' h)
  refine aL true try_mixed (by kernel_rfl) ?_
  refine aa g'7 ?_
  refine hn4 _ _ ?_
  refine aQ fun Q5 hn5 hr5 he5 => ?_
  have hQ5 := fun F H' h => hr5 F H' (hQ F H' h)
  refine aL true try_mixed (by kernel_rfl) ?_
  refine aa g'7 ?_
  refine aK (by kernel_rfl) (spl1_c _ ((x1 - x0) + 1) 1 (by omega) (by omega)) ?_
  refine aa g'7 ?_
  refine aK (by kernel_rfl) (spl1_c _ ((y1 - y0) + 1) 1 (by omega) (by omega)) ?_
  refine aa g'7 ?_
  refine aK (by kernel_rfl) (spl1_c _ c 8 (by omega) (by omega)) ?_
  refine aa g'7 ?_
  refine hn5 _ _ ?_
  refine cn true try_mixed [[0, 1, 2, 3, 4, 5], [0, 2, 3, 4, 1, 5], [0, 1, 3, 2, 4, 5], [0, 3, 2, 4, 1, 5]] (by kernel_rfl) (fun F2 H2 => F2 = [(1, .ptr (some (H.length, 0))), (2, .ptr (some (H.length + 1, 0))), (3, .ptr (some (H.length + 2, 0))), (4, .bool false), (6, .int .i64 ((x1 - x0) + 1)), (7, .int .i64 ((y1 - y0) + 1)), (8, .int .i64 (dn ((x1 - x0) + 1) 1)), (9, .int .i64 (dn ((y1 - y0) + 1) 1)), (10, .int .i64 (dn c 8)), (11, .ptr (some (H.length + 3, 0))), (12, .ptr (some (H.length + 4, 0)))] ∧ H2 = H ++ [.cells true 0 [.int .i64 x0, .int .i64 y0, .int .i64 x1, .int .i64 y1, .int .i64 f, .int .i64 c], .cells true 0 [.int .i64 0, .int .i64 0, .int .i64 0, .int .i64 0, .int .i64 0, .int .i64 0], .cells true 0 [.int .i64 0, .int .i64 0, .int .i64 0, .int .i64 0, .int .i64 0, .int .i64 0], .cells true 0 [.int .i64 x0, .int .i64 y0, .int .i64 x1, .int .i64 y1, .int .i64 f, .int .i64 c], .cells true 0 [.int .i64 x0, .int .i64 y0, .int .i64 x1, .int .i64 y1, .int .i64 f, .int .i64 c]]) ?_ ?_
  ·refine aG ?_ (aG ?_ (aG ?_ (aG ?_ (cl)))) <;> intro J hJ
   ·skip
    refine aA g'7 ?_
    refine aR (hJ _ _ ⟨_, _, _, ⟨rfl, rfl⟩, Abs.byG hbel [] rfl [0, 1, 2, 3, 4] (by decide) ?_⟩)
    exact be
   ·skip
    refine aA g'7 ?_
    refine aR (hJ _ _ ⟨_, _, _, ⟨rfl, rfl⟩, Abs.byG hbel [] rfl [0, 1, 2, 3, 4] (by decide) ?_⟩)
    exact be
   ·skip
    refine aA g'7 ?_
    refine aR (hJ _ _ ⟨_, _, _, ⟨rfl, rfl⟩, Abs.byG hbel [] rfl [0, 1, 2, 4, 3] (by decide) ?_⟩)
    exact be
   ·skip
    refine aA g'7 ?_
    refine aR (hJ _ _ ⟨_, _, _, ⟨rfl, rfl⟩, Abs.byG hbel [] rfl [0, 1, 2, 4, 3] (by decide) ?_⟩)
    exact be
  rintro F2 H2 ⟨rfl, rfl⟩
  refine aQ fun Q6 hn6 hr6 he6 => ?_
  have hQ6 := fun F H' h => hr6 F H' (hQ F H' h)
  refine dX fun Q7 hn7 hr7 he7 hb7 => ?_
  have hQ7 := fun F H' h => hr7 F H' (hQ6 F H' h)
  refine aQ fun Q8 hn8 hr8 he8 => ?_
  have hQ8 := fun F H' h => hr8 F H' (hQ7 F H' h)
  refine aL true try_mixed (by kernel_rfl) ?_
  refine aa g'7 ?_
  refine aj (fun h2 => ?_) (fun h2 => ?_)
  ·have h2d := bsT h2
   have hc1 : gO (x0, y0, x1, y1, f, c) ≤ gk (x0, y0, x1, y1, f, c) := h2d
   have g'8 := (jn @h2 (jn @h2d g'7))
   refine aa g'8 ?_
   refine hn8 _ _ ?_
   refine fz (decide ((dn c 8) ≤ (dn ((x1 - x0) + 1) 1))) (by rfl) (fun h3 => ?_) (fun h3 => ?_)
   ·have h3d := bsT h3
    have hfinX : dF (x0, y0, x1, y1, f, c) = (x0, y0, x0 + ((x1 - x0) + 1) / 2 - 1, y1, f, c) := if_pos ⟨hc1, h3d⟩
    have hfinY : dG (x0, y0, x1, y1, f, c) = (x0 + ((x1 - x0) + 1) / 2, y0, x1, y1, f, c) := if_pos ⟨hc1, h3d⟩
    refine aL true try_mixed (by kernel_rfl) ?_
    have g'9 := (jn @h3 (jn @h3d g'8))
    refine aa g'9 ?_
    refine hn7 _ _ ?_
    refine hn6 _ _ ?_
    refine cn true try_mixed [[0, 1, 2, 3, 4], [0, 2, 1, 3, 4]] (by kernel_rfl) (fun F2 H2 => F2 = [(2, .ptr (some (H.length, 0))), (3, .ptr (some (H.length + 1, 0))), (4, .bool true)] ∧ H2 = H ++ [.cells true 0 [.int .i64 x0, .int .i64 y0, .int .i64 ((x0 + (((x1 - x0) + 1) / 2)) - 1), .int .i64 y1, .int .i64 f, .int .i64 c], .cells true 0 [.int .i64 (x0 + (((x1 - x0) + 1) / 2)), .int .i64 y0, .int .i64 x1, .int .i64 y1, .int .i64 f, .int .i64 c]]) ?_ ?_
    ·refine aG ?_ (aG ?_ (cl)) <;> intro J hJ
     ·skip
      refine aA g'9 ?_
      refine aR (hJ _ _ ⟨_, _, _, ⟨rfl, rfl⟩, Abs.byG hbel [] rfl [1, 2] (by decide) ?_⟩)
      exact be
     ·skip
      refine aA g'9 ?_
      refine aR (hJ _ _ ⟨_, _, _, ⟨rfl, rfl⟩, Abs.byG hbel [] rfl [1, 2] (by decide) ?_⟩)
      exact be
    rintro F2 H2 ⟨rfl, rfl⟩
    refine aL true try_mixed (by kernel_rfl) ?_
    refine aa g'9 ?_
    exact hQ _ _ (ae (.inl rfl) hbel (x := .tup [.agg [.int .i64 x0, .int .i64 y0, .int .i64 ((x0 + (((x1 - x0) + 1) / 2)) - 1), .int .i64 y1, .int .i64 f, .int .i64 c], .agg [.int .i64 (x0 + (((x1 - x0) + 1) / 2)), .int .i64 y0, .int .i64 x1, .int .i64 y1, .int .i64 f, .int .i64 c], .bool true]) (ag Tryz.results90) rfl ⟨by first | (rw [hfinV]; done) | (rw [hfinV]; rfl) | (rw [hfinV, hfinX, hfinY]; rfl), rfl⟩)
   ·have h3d := bsT h3
    have hc2 : ¬ splC (x0, y0, x1, y1, f, c) ≤ gk (x0, y0, x1, y1, f, c) := by have q := h3d; exact Int.not_le.2 (by first | exact q | exact Int.not_le.1 q)
    have hn1 : ¬ (gO (x0, y0, x1, y1, f, c) ≤ gk (x0, y0, x1, y1, f, c) ∧ splC (x0, y0, x1, y1, f, c) ≤ gk (x0, y0, x1, y1, f, c)) := fun q => hc2 q.2
    refine aQ fun Q9 hn9 hr9 he9 => ?_
    have hQ9 := fun F H' h => hr9 F H' (hQ7 F H' h)
    refine aL true try_mixed (by kernel_rfl) ?_
    have g'10 := (jn @h3 (jn @h3d g'8))
    refine aa g'10 ?_
    refine hn9 _ _ ?_
    refine fz (decide ((dn c 8) ≤ (dn ((y1 - y0) + 1) 1))) (by rfl) (fun h4 => ?_) (fun h4 => ?_)
    ·have h4d := bsT h4
     exact (hc2 (Int.le_trans h4d hc1)).elim
    ·have h4d := bsT h4
     have hc3 : ¬ splC (x0, y0, x1, y1, f, c) ≤ gO (x0, y0, x1, y1, f, c) := by have q := h4d; exact Int.not_le.2 (by first | exact q | exact Int.not_le.1 q)
     have hfinX : dF (x0, y0, x1, y1, f, c) = (x0, y0, x1, y1, f, c / 2) := (if_neg hn1).trans (if_neg hc3)
     have hfinY : dG (x0, y0, x1, y1, f, c) = (x0, y0, x1, y1, (f + c / 2) % 256, c - c / 2) := (if_neg hn1).trans (if_neg hc3)
     refine aQ fun Q10 hn10 hr10 he10 => ?_
     have hQ10 := fun F H' h => hr10 F H' (hQ7 F H' h)
     refine aL true try_mixed (by kernel_rfl) ?_
     have g'11 := (jn @h4 (jn @h4d g'10))
     refine aa g'11 ?_
     refine hn10 _ _ ?_
     refine aQ fun Q11 hn11 hr11 he11 => ?_
     have hQ11 := fun F H' h => hr11 F H' (hQ7 F H' h)
     refine aL true try_mixed (by kernel_rfl) ?_
     refine aa g'11 ?_
     refine hn11 _ _ ?_
     refine gw true try_mixed [[0, 1, 2, 3, 4, 5, 6, 7, 8, 9, 10, 11, 12], [0, 1, 2, 3, 4, 5, 7, 9, 10, 6, 8, 11, 12]] (by kernel_rfl) (fun F2 H2 => F2 = [(2, .ptr (some (H.length, 0))), (3, .ptr (some (H.length + 1, 0))), (11, .ptr (some (H.length + 2, 0))), (12, .ptr (some (H.length + 3, 0)))] ∧ H2 = H ++ [.cells true 0 [.int .i64 0, .int .i64 0, .int .i64 0, .int .i64 0, .int .i64 0, .int .i64 0], .cells true 0 [.int .i64 0, .int .i64 0, .int .i64 0, .int .i64 0, .int .i64 0, .int .i64 0], .cells true 0 [.int .i64 x0, .int .i64 y0, .int .i64 x1, .int .i64 y1, .int .i64 f, .int .i64 (c / 2)], .cells true 0 [.int .i64 x0, .int .i64 y0, .int .i64 x1, .int .i64 y1, .int .i64 ((f + (c / 2)) % 256), .int .i64 (c - (c / 2))]]) ?_ ?_
     ·refine aG ?_ (aG ?_ (cl)) <;> intro J hJ
      ·skip
       refine aA g'11 ?_
       refine aR (hJ _ _ ⟨_, _, _, ⟨rfl, rfl⟩, Abs.byG hbel [] rfl [1, 2, 3, 4] (by decide) ?_⟩)
       exact be
      ·skip
       refine aA g'11 ?_
       refine aR (hJ _ _ ⟨_, _, _, ⟨rfl, rfl⟩, Abs.byG hbel [] rfl [1, 2, 3, 4] (by decide) ?_⟩)
       exact be
     rintro F2 H2 ⟨rfl, rfl⟩
     refine hn7 _ _ ?_
     refine hn6 _ _ ?_
     refine cn true try_mixed [[0, 1, 2, 3, 4], [0, 2, 1, 3, 4]] (by kernel_rfl) (fun F2 H2 => F2 = [(2, .ptr (some (H.length, 0))), (3, .ptr (some (H.length + 1, 0))), (4, .bool true)] ∧ H2 = H ++ [.cells true 0 [.int .i64 x0, .int .i64 y0, .int .i64 x1, .int .i64 y1, .int .i64 f, .int .i64 (c / 2)], .cells true 0 [.int .i64 x0, .int .i64 y0, .int .i64 x1, .int .i64 y1, .int .i64 ((f + (c / 2)) % 256), .int .i64 (c - (c / 2))]]) ?_ ?_
     ·refine aG ?_ (aG ?_ (cl)) <;> intro J hJ
      ·skip
       refine aA g'11 ?_
       refine aR (hJ _ _ ⟨_, _, _, ⟨rfl, rfl⟩, Abs.byG hbel [] rfl [0, 1] (by decide) ?_⟩)
       exact be
      ·skip
       refine aA g'11 ?_
       refine aR (hJ _ _ ⟨_, _, _, ⟨rfl, rfl⟩, Abs.byG hbel [] rfl [0, 1] (by decide) ?_⟩)
       exact be
     rintro F2 H2 ⟨rfl, rfl⟩
     refine aL true try_mixed (by kernel_rfl) ?_
     refine aa g'11 ?_
     exact hQ _ _ (ae (.inl rfl) hbel (x := .tup [.agg [.int .i64 x0, .int .i64 y0, .int .i64 x1, .int .i64 y1, .int .i64 f, .int .i64 (c / 2)], .agg [.int .i64 x0, .int .i64 y0, .int .i64 x1, .int .i64 y1, .int .i64 ((f + (c / 2)) % 256), .int .i64 (c - (c / 2))], .bool true]) (ag Tryz.results90) rfl ⟨by first | (rw [hfinV]; done) | (rw [hfinV]; rfl) | (rw [hfinV, hfinX, hfinY]; rfl), rfl⟩)
  ·have h2d := bsT h2
   have hc1 : ¬ gO (x0, y0, x1, y1, f, c) ≤ gk (x0, y0, x1, y1, f, c) := by have q := h2d; exact Int.not_le.2 (by first | exact q | exact Int.not_le.1 q)
   have hn1 : ¬ (gO (x0, y0, x1, y1, f, c) ≤ gk (x0, y0, x1, y1, f, c) ∧ splC (x0, y0, x1, y1, f, c) ≤ gk (x0, y0, x1, y1, f, c)) := fun q => hc1 q.1
   have g'12 := (jn @h2 (jn @h2d g'7))
   refine aa g'12 ?_
   refine hn8 _ _ ?_
   refine fz false (by rfl) (fun h => by cases h) (fun h => ?_)
   refine aQ fun Q12 hn12 hr12 he12 => ?_
   have hQ12 := fun F H' h => hr12 F H' (hQ7 F H' h)
   refine aL true try_mixed (by kernel_rfl) ?_
   refine aa g'12 ?_
   refine hn12 _ _ ?_
   refine fz (decide ((dn c 8) ≤ (dn ((y1 - y0) + 1) 1))) (by rfl) (fun h5 => ?_) (fun h5 => ?_)
   ·have h5d := bsT h5
    have hfinX : dF (x0, y0, x1, y1, f, c) = (x0, y0, x1, y0 + ((y1 - y0) + 1) / 2 - 1, f, c) := (if_neg hn1).trans (if_pos h5d)
    have hfinY : dG (x0, y0, x1, y1, f, c) = (x0, y0 + ((y1 - y0) + 1) / 2, x1, y1, f, c) := (if_neg hn1).trans (if_pos h5d)
    refine aL true try_mixed (by kernel_rfl) ?_
    have g'13 := (jn @h5 (jn @h5d g'12))
    refine aa g'13 ?_
    refine hn7 _ _ ?_
    refine hn6 _ _ ?_
    refine cn true try_mixed [[0, 1, 2, 3, 4], [0, 2, 1, 3, 4]] (by kernel_rfl) (fun F2 H2 => F2 = [(2, .ptr (some (H.length, 0))), (3, .ptr (some (H.length + 1, 0))), (4, .bool true)] ∧ H2 = H ++ [.cells true 0 [.int .i64 x0, .int .i64 y0, .int .i64 x1, .int .i64 ((y0 + (((y1 - y0) + 1) / 2)) - 1), .int .i64 f, .int .i64 c], .cells true 0 [.int .i64 x0, .int .i64 (y0 + (((y1 - y0) + 1) / 2)), .int .i64 x1, .int .i64 y1, .int .i64 f, .int .i64 c]]) ?_ ?_
    ·refine aG ?_ (aG ?_ (cl)) <;> intro J hJ
     ·skip
      refine aA g'13 ?_
      refine aR (hJ _ _ ⟨_, _, _, ⟨rfl, rfl⟩, Abs.byG hbel [] rfl [1, 2] (by decide) ?_⟩)
      exact be
     ·skip
      refine aA g'13 ?_
      refine aR (hJ _ _ ⟨_, _, _, ⟨rfl, rfl⟩, Abs.byG hbel [] rfl [1, 2] (by decide) ?_⟩)
      exact be
    rintro F2 H2 ⟨rfl, rfl⟩
    refine aL true try_mixed (by kernel_rfl) ?_
    refine aa g'13 ?_
    exact hQ _ _ (ae (.inl rfl) hbel (x := .tup [.agg [.int .i64 x0, .int .i64 y0, .int .i64 x1, .int .i64 ((y0 + (((y1 - y0) + 1) / 2)) - 1), .int .i64 f, .int .i64 c], .agg [.int .i64 x0, .int .i64 (y0 + (((y1 - y0) + 1) / 2)), .int .i64 x1, .int .i64 y1, .int .i64 f, .int .i64 c], .bool true]) (ag Tryz.results90) rfl ⟨by first | (rw [hfinV]; done) | (rw [hfinV]; rfl) | (rw [hfinV, hfinX, hfinY]; rfl), rfl⟩)
   ·have h5d := bsT h5
    have hc3 : ¬ splC (x0, y0, x1, y1, f, c) ≤ gO (x0, y0, x1, y1, f, c) := by have q := h5d; exact Int.not_le.2 (by first | exact q | exact Int.not_le.1 q)
    have hfinX : dF (x0, y0, x1, y1, f, c) = (x0, y0, x1, y1, f, c / 2) := (if_neg hn1).trans (if_neg hc3)
    have hfinY : dG (x0, y0, x1, y1, f, c) = (x0, y0, x1, y1, (f + c / 2) % 256, c - c / 2) := (if_neg hn1).trans (if_neg hc3)
    refine aQ fun Q13 hn13 hr13 he13 => ?_
    have hQ13 := fun F H' h => hr13 F H' (hQ7 F H' h)
    refine aL true try_mixed (by kernel_rfl) ?_
    have g'14 := (jn @h5 (jn @h5d g'12))
    refine aa g'14 ?_
    refine hn13 _ _ ?_
    refine aQ fun Q14 hn14 hr14 he14 => ?_
    have hQ14 := fun F H' h => hr14 F H' (hQ7 F H' h)
    refine aL true try_mixed (by kernel_rfl) ?_
    refine aa g'14 ?_
    refine hn14 _ _ ?_
    refine gw true try_mixed [[0, 1, 2, 3, 4, 5, 6, 7, 8, 9, 10, 11, 12], [0, 1, 2, 3, 4, 5, 7, 9, 10, 6, 8, 11, 12]] (by kernel_rfl) (fun F2 H2 => F2 = [(2, .ptr (some (H.length, 0))), (3, .ptr (some (H.length + 1, 0))), (11, .ptr (some (H.length + 2, 0))), (12, .ptr (some (H.length + 3, 0)))] ∧ H2 = H ++ [.cells true 0 [.int .i64 0, .int .i64 0, .int .i64 0, .int .i64 0, .int .i64 0, .int .i64 0], .cells true 0 [.int .i64 0, .int .i64 0, .int .i64 0, .int .i64 0, .int .i64 0, .int .i64 0], .cells true 0 [.int .i64 x0, .int .i64 y0, .int .i64 x1, .int .i64 y1, .int .i64 f, .int .i64 (c / 2)], .cells true 0 [.int .i64 x0, .int .i64 y0, .int .i64 x1, .int .i64 y1, .int .i64 ((f + (c / 2)) % 256), .int .i64 (c - (c / 2))]]) ?_ ?_
    ·refine aG ?_ (aG ?_ (cl)) <;> intro J hJ
     ·skip
      refine aA g'14 ?_
      refine aR (hJ _ _ ⟨_, _, _, ⟨rfl, rfl⟩, Abs.byG hbel [] rfl [1, 2, 3, 4] (by decide) ?_⟩)
      exact be
     ·skip
      refine aA g'14 ?_
      refine aR (hJ _ _ ⟨_, _, _, ⟨rfl, rfl⟩, Abs.byG hbel [] rfl [1, 2, 3, 4] (by decide) ?_⟩)
      exact be
    rintro F2 H2 ⟨rfl, rfl⟩
    refine hn7 _ _ ?_
    refine hn6 _ _ ?_
    refine cn true try_mixed [[0, 1, 2, 3, 4], [0, 2, 1, 3, 4]] (by kernel_rfl) (fun F2 H2 => F2 = [(2, .ptr (some (H.length, 0))), (3, .ptr (some (H.length + 1, 0))), (4, .bool true)] ∧ H2 = H ++ [.cells true 0 [.int .i64 x0, .int .i64 y0, .int .i64 x1, .int .i64 y1, .int .i64 f, .int .i64 (c / 2)], .cells true 0 [.int .i64 x0, .int .i64 y0, .int .i64 x1, .int .i64 y1, .int .i64 ((f + (c / 2)) % 256), .int .i64 (c - (c / 2))]]) ?_ ?_
    ·refine aG ?_ (aG ?_ (cl)) <;> intro J hJ
     ·skip
      refine aA g'14 ?_
      refine aR (hJ _ _ ⟨_, _, _, ⟨rfl, rfl⟩, Abs.byG hbel [] rfl [0, 1] (by decide) ?_⟩)
      exact be
     ·skip
      refine aA g'14 ?_
      refine aR (hJ _ _ ⟨_, _, _, ⟨rfl, rfl⟩, Abs.byG hbel [] rfl [0, 1] (by decide) ?_⟩)
      exact be
    rintro F2 H2 ⟨rfl, rfl⟩
    refine aL true try_mixed (by kernel_rfl) ?_
    refine aa g'14 ?_
    exact hQ _ _ (ae (.inl rfl) hbel (x := .tup [.agg [.int .i64 x0, .int .i64 y0, .int .i64 x1, .int .i64 y1, .int .i64 f, .int .i64 (c / 2)], .agg [.int .i64 x0, .int .i64 y0, .int .i64 x1, .int .i64 y1, .int .i64 ((f + (c / 2)) % 256), .int .i64 (c - (c / 2))], .bool true]) (ag Tryz.results90) rfl ⟨by first | (rw [hfinV]; done) | (rw [hfinV]; rfl) | (rw [hfinV, hfinX, hfinY]; rfl), rfl⟩)
theorem split_t (H : ac) (b : T6) (hb : bD b = true) (h : dc b = true) : ACalls Tryz.prog 90 [.agg [.int .i64 b.1, .int .i64 b.2.1, .int .i64 b.2.2.1, .int .i64 b.2.2.2.1, .int .i64 b.2.2.2.2.1, .int .i64 b.2.2.2.2.2]] H (fun v H' => v = .tup [.agg [.int .i64 (dF b).1, .int .i64 (dF b).2.1, .int .i64 (dF b).2.2.1, .int .i64 (dF b).2.2.2.1, .int .i64 (dF b).2.2.2.2.1, .int .i64 (dF b).2.2.2.2.2], .agg [.int .i64 (dG b).1, .int .i64 (dG b).2.1, .int .i64 (dG b).2.2.1, .int .i64 (dG b).2.2.2.1, .int .i64 (dG b).2.2.2.2.1, .int .i64 (dG b).2.2.2.2.2], .bool true] ∧ H' = H) := by
 have q := split_c H b.1 b.2.1 b.2.2.1 b.2.2.2.1 b.2.2.2.2.1 b.2.2.2.2.2 hb
 have e : dc (b.1, b.2.1, b.2.2.1, b.2.2.2.1, b.2.2.2.2.1, b.2.2.2.2.2) = true := h
 simp only [e, mkV_t] at q; exact q
theorem split_f (H : ac) (b : T6) (hb : bD b = true) (h : dc b = false) : ACalls Tryz.prog 90 [.agg [.int .i64 b.1, .int .i64 b.2.1, .int .i64 b.2.2.1, .int .i64 b.2.2.2.1, .int .i64 b.2.2.2.2.1, .int .i64 b.2.2.2.2.2]] H (fun v H' => v = .tup [.agg [.int .i64 0, .int .i64 0, .int .i64 0, .int .i64 0, .int .i64 0, .int .i64 0], .agg [.int .i64 0, .int .i64 0, .int .i64 0, .int .i64 0, .int .i64 0, .int .i64 0], .bool false] ∧ H' = H) := by
 have q := split_c H b.1 b.2.1 b.2.2.1 b.2.2.2.1 b.2.2.2.2.1 b.2.2.2.2.2 hb
 have e : dc (b.1, b.2.1, b.2.2.1, b.2.2.2.1, b.2.2.2.2.1, b.2.2.2.2.2) = false := h
 simp only [e, mkV_f] at q; exact q
theorem cmp1_c (H : ac) (x0 : Int) (y0 : Int) (x1 : Int) (y1 : Int) (f : Int) (c : Int) : ACalls Tryz.prog 91 [.agg [.int .i64 x0, .int .i64 y0, .int .i64 x1, .int .i64 y1, .int .i64 f, .int .i64 c]] H (fun v H' => v = .bool (!(bxB x0 y0 x1 y1 f c)) ∧ H' = H) := by
 refine AcT true Tryz.func91 ?_; intro hbel Q hQ
 refine aY ?_
 refine af (by kernel_rfl) (eO _ x0 y0 x1 y1 f c) ?_
 refine aY ?_
 exact hQ _ _ (ae (.inl rfl) hbel (x := .bool (!(bxB x0 y0 x1 y1 f c))) (ag Tryz.results91) rfl ⟨rfl, rfl⟩)
open Go.RowKit
def jE (n : Int) : Bool := decide (n < -2097152) || decide (2097152 < n)
def mvO (x0 y0 x1 y1 a b c d : Int) : Bool := !([x0 + a, x1 + b, y0 + c, y1 + d].any offB)
def mvE (x0 y0 x1 y1 a b c d : Int) : Int := if mvO x0 y0 x1 y1 a b c d = true then 0 else 2
theorem m6 {n : Int} (h : -64 ≤ n ∧ n ≤ 64) : jE n = false := by unfold jE; rw [decide_eq_false (by omega), decide_eq_false (by omega)]; rfl
theorem off2_4 {a b c d : Int} (h1 : -64 ≤ a ∧ a ≤ 64) (h2 : -64 ≤ b ∧ b ≤ 64) (h3 : -64 ≤ c ∧ c ≤ 64) (h4 : -64 ≤ d ∧ d ≤ 64) : [a, b, c, d].any jE = false := by
 simp only [List.any_cons, List.any_nil, m6 h1, m6 h2, m6 h3, m6 h4]; rfl
theorem drch_c (H : ac) (t : Int) (f : Int) (tu : Int) (le : Int) (sl : Int) (ra : Int) (h : Int) (hC : cQ t f = true) (hB : cJ tu le sl ra = true) (hh : 0 ≤ h ∧ h ≤ 255) : ACalls Tryz.prog 163 [.agg [.int .i64 t, .int .i64 f], .agg [.int .i64 tu, .int .i64 le, .int .i64 sl, .int .i64 ra], .int .i64 h] H (fun v H' => v = .tup [.agg [.int .i64 ((rqR f le sl h).1), .int .i64 ((rqR f le sl h).2.1), .int .i64 ((rqR f le sl h).2.2.1), .int .i64 ((rqR f le sl h).2.2.2)], .int .i64 0] ∧ H' = H) := by
 have hCi := hC
 simp only [cQ, Bool.and_eq_true, bu] at hCi
 have hBi := hB
 simp only [cJ, Bool.and_eq_true, bu] at hBi
 have hbt : btw h 0 255 = true := bu.2 hh
 have m1 : 0 ≤ mxI (f - le) 0 ∧ mxI (f - le) 0 ≤ 48 := by unfold mxI; split <;> omega
 have m2 : 0 ≤ mxI (f + le) 0 ∧ mxI (f + le) 0 ≤ 48 := by unfold mxI; split <;> omega
 have w1 := ke h m1.1
 have w2 := ke h m2.1
 have n1 := ei (a := cE h (mxI (f - le) 0)) (b := cE h (mxI (f + le) 0))
 have n2 := ei (a := cF h (mxI (f - le) 0)) (b := cF h (mxI (f + le) 0))
 have n3 := ej (a := cE h (mxI (f - le) 0)) (b := cE h (mxI (f + le) 0))
 have n4 := ej (a := cF h (mxI (f - le) 0)) (b := cF h (mxI (f + le) 0))
 have e1 : (if (cE h (mxI (f + le) 0)) < (cE h (mxI (f - le) 0)) then (cE h (mxI (f + le) 0)) else (cE h (mxI (f - le) 0))) = mnI (cE h (mxI (f - le) 0)) (cE h (mxI (f + le) 0)) := rfl
 have e2 : (if (cF h (mxI (f + le) 0)) < (cF h (mxI (f - le) 0)) then (cF h (mxI (f + le) 0)) else (cF h (mxI (f - le) 0))) = mnI (cF h (mxI (f - le) 0)) (cF h (mxI (f + le) 0)) := rfl
 have e3 : (if (cE h (mxI (f - le) 0)) < (cE h (mxI (f + le) 0)) then (cE h (mxI (f + le) 0)) else (cE h (mxI (f - le) 0))) = mxI (cE h (mxI (f - le) 0)) (cE h (mxI (f + le) 0)) := rfl
 have e4 : (if (cF h (mxI (f - le) 0)) < (cF h (mxI (f + le) 0)) then (cF h (mxI (f + le) 0)) else (cF h (mxI (f - le) 0))) = mxI (cF h (mxI (f - le) 0)) (cF h (mxI (f + le) 0)) := rfl
 (refine bT Tryz.func163 _ rfl (Nat.le_of_ble_eq_true (by kernel_rfl)) rfl ?_; intro hbel Q hQ hQ' c hc; unfold Tryz.f163 at hc; simp only [Option.some.injEq] at hc; subst hc; clear hQ')
 refine aQ fun Q1 hn1 hr1 he1 => ?_
 have hQ1 := fun F H' h => hr1 F H' (hQ F H' h)
 refine aL true try_mixed (by kernel_rfl) ?_
 have g'1 := (jn @hC (jn @hB (jn @hbt (jn @e1 (jn @e2 (jn @e3 @e4))))))
 refine aa g'1 ?_
 refine hn1 _ _ ?_
 refine aQ fun Q2 hn2 hr2 he2 => ?_
 have hQ2 := fun F H' h => hr2 F H' (hQ F H' h)
 refine aL true try_mixed (by kernel_rfl) ?_
 refine aa g'1 ?_
 refine af (by kernel_rfl) (fJ _ t f) ?_
 refine aa g'1 ?_
 refine af (by kernel_rfl) (i8 _ tu le sl ra) ?_
 refine aa g'1 ?_
 refine hn2 _ _ ?_
 refine aQ fun Q3 hn3 hr3 he3 => ?_
 have hQ3 := fun F H' h => hr3 F H' (hQ F H' h)
 refine aL true try_mixed (by kernel_rfl) ?_
 refine aa g'1 ?_
 refine af (by kernel_rfl) (dY _ h 0 255) ?_
 refine aa g'1 ?_
 refine hn3 _ _ ?_
 refine aQ fun Q4 hn4 hr4 he4 => ?_
 have hQ4 := fun F H' h => hr4 F H' (hQ F H' h)
 refine aL true try_mixed (by kernel_rfl) ?_
 refine aa g'1 ?_
 refine ai (fun h1 => ?_) (fun h1 => ?_)
 ·have h1d := bsT h1
  have hfinZ : rqR f le sl h = (0, 0, 0, 0) := if_pos h1d
  have g'2 := (jn @h1 (jn @h1d (jn @aU (jn @aT g'1))))
  refine aa g'2 ?_
  exact hQ4 _ _ (ae (.inl rfl) hbel (x := .tup [.agg [.int .i64 0, .int .i64 0, .int .i64 0, .int .i64 0], .int .i64 0]) (ag Tryz.results163) rfl ⟨by first | (rw [hfinZ]; done) | (rw [hfinZ]; rfl), rfl⟩)
 ·have h1d := bsT h1
  have hfinZ : rqR f le sl h = (mnI (rqA f le h) (rqB f le h) - sl, mnI (rqC f le h) (rqD f le h) - sl, mxI (rqA f le h) (rqB f le h) + sl, mxI (rqC f le h) (rqD f le h) + sl) := if_neg h1d
  have g'3 := (jn @h1 (jn @h1d (jn @aU (jn @aT g'1))))
  refine aa g'3 ?_
  refine hn4 _ _ ?_
  refine cn true try_mixed [[0, 1, 2, 3, 4, 5, 6, 7, 8, 9, 10, 11, 12, 13, 14, 15, 16, 17], [0, 1, 2, 3, 4, 5, 6, 7, 8, 9, 10, 11, 12, 13, 15, 14, 16, 17], [0, 1, 2, 3, 4, 5, 6, 7, 8, 9, 10, 11, 12, 15, 13, 14, 16, 17], [0, 1, 2, 3, 4, 5, 7, 8, 9, 10, 11, 12, 15, 6, 13, 14, 16, 17], [0, 1, 2, 3, 4, 5, 6, 7, 8, 9, 10, 11, 12, 14, 13, 15, 16, 17], [0, 1, 2, 3, 4, 5, 6, 7, 8, 9, 10, 11, 12, 14, 15, 13, 16, 17], [0, 1, 2, 3, 4, 5, 6, 7, 8, 9, 10, 11, 12, 15, 14, 13, 16, 17], [0, 1, 2, 3, 4, 5, 7, 8, 9, 10, 11, 12, 15, 6, 14, 13, 16, 17], [0, 1, 2, 3, 4, 5, 7, 8, 9, 10, 11, 12, 14, 6, 13, 15, 16, 17], [0, 1, 2, 3, 4, 5, 7, 8, 9, 10, 11, 12, 14, 6, 15, 13, 16, 17], [0, 1, 2, 3, 4, 5, 7, 8, 9, 10, 11, 12, 14, 15, 6, 13, 16, 17], [0, 1, 2, 3, 4, 5, 7, 8, 9, 10, 11, 12, 15, 14, 6, 13, 16, 17]] (by kernel_rfl) (fun F2 H2 => F2 = [(4, .ptr (some (H.length, 0))), (6, .ptr (some (H.length + 1, 0))), (7, .int .i64 0), (8, .ptr (some (H.length + 2, 0))), (9, .ptr (some (H.length + 3, 0)))] ∧ H2 = H ++ [.cells true 0 [.int .i64 tu, .int .i64 le, .int .i64 sl, .int .i64 ra], .cells true 0 [.int .i64 0, .int .i64 0, .int .i64 0, .int .i64 0], .cells true 0 [.int .i64 (cE h (mxI (f - le) 0)), .int .i64 (cF h (mxI (f - le) 0))], .cells true 0 [.int .i64 (cE h (mxI (f + le) 0)), .int .i64 (cF h (mxI (f + le) 0))]]) ?_ ?_
  ·refine aG ?_ (aG ?_ (aG ?_ (aG ?_ (aG ?_ (aG ?_ (aG ?_ (aG ?_ (aG ?_ (aG ?_ (aG ?_ (aG ?_ (cl)))))))))))) <;> intro J hJ
   ·skip
    refine aA g'3 ?_
    refine aK (by kernel_rfl) (cm _ h (f - le) (by omega)) ?_
    refine aA g'3 ?_
    refine aK (by kernel_rfl) (cm _ h (f + le) (by omega)) ?_
    refine aA g'3 ?_
    refine aR (hJ _ _ ⟨_, _, _, ⟨rfl, rfl⟩, Abs.byG hbel [] rfl [1, 2, 3, 4] (by decide) ?_⟩)
    exact be
   ·skip
    refine aA g'3 ?_
    refine aK (by kernel_rfl) (cm _ h (f - le) (by omega)) ?_
    refine aA g'3 ?_
    refine aK (by kernel_rfl) (cm _ h (f + le) (by omega)) ?_
    refine aA g'3 ?_
    refine aR (hJ _ _ ⟨_, _, _, ⟨rfl, rfl⟩, Abs.byG hbel [] rfl [1, 2, 4, 3] (by decide) ?_⟩)
    exact be
   ·skip
    refine aA g'3 ?_
    refine aK (by kernel_rfl) (cm _ h (f - le) (by omega)) ?_
    refine aA g'3 ?_
    refine aK (by kernel_rfl) (cm _ h (f + le) (by omega)) ?_
    refine aA g'3 ?_
    refine aR (hJ _ _ ⟨_, _, _, ⟨rfl, rfl⟩, Abs.byG hbel [] rfl [1, 2, 4, 3] (by decide) ?_⟩)
    exact be
   ·skip
    refine aA g'3 ?_
    refine aK (by kernel_rfl) (cm _ h (f - le) (by omega)) ?_
    refine aA g'3 ?_
    refine aK (by kernel_rfl) (cm _ h (f + le) (by omega)) ?_
    refine aA g'3 ?_
    refine aR (hJ _ _ ⟨_, _, _, ⟨rfl, rfl⟩, Abs.byG hbel [] rfl [1, 2, 4, 3] (by decide) ?_⟩)
    exact be
   ·skip
    refine aA g'3 ?_
    refine aK (by kernel_rfl) (cm _ h (f - le) (by omega)) ?_
    refine aA g'3 ?_
    refine aK (by kernel_rfl) (cm _ h (f + le) (by omega)) ?_
    refine aA g'3 ?_
    refine aR (hJ _ _ ⟨_, _, _, ⟨rfl, rfl⟩, Abs.byG hbel [] rfl [1, 2, 3, 4] (by decide) ?_⟩)
    exact be
   ·skip
    refine aA g'3 ?_
    refine aK (by kernel_rfl) (cm _ h (f - le) (by omega)) ?_
    refine aA g'3 ?_
    refine aK (by kernel_rfl) (cm _ h (f + le) (by omega)) ?_
    refine aA g'3 ?_
    refine aR (hJ _ _ ⟨_, _, _, ⟨rfl, rfl⟩, Abs.byG hbel [] rfl [1, 2, 3, 4] (by decide) ?_⟩)
    exact be
   ·skip
    refine aA g'3 ?_
    refine aK (by kernel_rfl) (cm _ h (f - le) (by omega)) ?_
    refine aA g'3 ?_
    refine aK (by kernel_rfl) (cm _ h (f + le) (by omega)) ?_
    refine aA g'3 ?_
    refine aR (hJ _ _ ⟨_, _, _, ⟨rfl, rfl⟩, Abs.byG hbel [] rfl [1, 2, 4, 3] (by decide) ?_⟩)
    exact be
   ·skip
    refine aA g'3 ?_
    refine aK (by kernel_rfl) (cm _ h (f - le) (by omega)) ?_
    refine aA g'3 ?_
    refine aK (by kernel_rfl) (cm _ h (f + le) (by omega)) ?_
    refine aA g'3 ?_
    refine aR (hJ _ _ ⟨_, _, _, ⟨rfl, rfl⟩, Abs.byG hbel [] rfl [1, 2, 4, 3] (by decide) ?_⟩)
    exact be
   ·skip
    refine aA g'3 ?_
    refine aK (by kernel_rfl) (cm _ h (f - le) (by omega)) ?_
    refine aA g'3 ?_
    refine aK (by kernel_rfl) (cm _ h (f + le) (by omega)) ?_
    refine aA g'3 ?_
    refine aR (hJ _ _ ⟨_, _, _, ⟨rfl, rfl⟩, Abs.byG hbel [] rfl [1, 2, 3, 4] (by decide) ?_⟩)
    exact be
   ·skip
    refine aA g'3 ?_
    refine aK (by kernel_rfl) (cm _ h (f - le) (by omega)) ?_
    refine aA g'3 ?_
    refine aK (by kernel_rfl) (cm _ h (f + le) (by omega)) ?_
    refine aA g'3 ?_
    refine aR (hJ _ _ ⟨_, _, _, ⟨rfl, rfl⟩, Abs.byG hbel [] rfl [1, 2, 3, 4] (by decide) ?_⟩)
    exact be
   ·skip
    refine aA g'3 ?_
    refine aK (by kernel_rfl) (cm _ h (f - le) (by omega)) ?_
    refine aA g'3 ?_
    refine aK (by kernel_rfl) (cm _ h (f + le) (by omega)) ?_
    refine aA g'3 ?_
    refine aR (hJ _ _ ⟨_, _, _, ⟨rfl, rfl⟩, Abs.byG hbel [] rfl [1, 2, 3, 4] (by decide) ?_⟩)
    exact be
   ·skip
    refine aA g'3 ?_
    refine aK (by kernel_rfl) (cm _ h (f - le) (by omega)) ?_
    refine aA g'3 ?_
    refine aK (by kernel_rfl) (cm _ h (f + le) (by omega)) ?_
    refine aA g'3 ?_
    refine aR (hJ _ _ ⟨_, _, _, ⟨rfl, rfl⟩, Abs.byG hbel [] rfl [1, 2, 4, 3] (by decide) ?_⟩)
    exact be
  rintro F2 H2 ⟨rfl, rfl⟩
  refine aL true try_mixed (by kernel_rfl) ?_
  refine aa g'3 ?_
  exact hQ _ _ (ae (.inl rfl) hbel (x := .tup [.agg [.int .i64 ((mnI (cE h (mxI (f - le) 0)) (cE h (mxI (f + le) 0))) - sl), .int .i64 ((mnI (cF h (mxI (f - le) 0)) (cF h (mxI (f + le) 0))) - sl), .int .i64 ((mxI (cE h (mxI (f - le) 0)) (cE h (mxI (f + le) 0))) + sl), .int .i64 ((mxI (cF h (mxI (f - le) 0)) (cF h (mxI (f + le) 0))) + sl)], .int .i64 0]) (ag Tryz.results163) rfl ⟨by first | (rw [hfinZ]; done) | (rw [hfinZ]; rfl), rfl⟩)
open Go.RowKit
theorem bmv1_c (H : ac) (n : Int) : ACalls Tryz.prog 194 [.int .i64 n] H (fun v H' => v = .bool (jE n) ∧ H' = H) := by
 refine AcT true Tryz.func194 ?_; intro hbel Q hQ
 refine aY ?_
 refine aj (fun h1 => ?_) (fun h1 => ?_)
 ·have h1d := bsT h1
  have g'1 := (jn @h1 @h1d)
  refine aa g'1 ?_
  exact hQ _ _ (aF (.inl rfl) hbel (x := .bool (decide (2097152 < n))) (ag Tryz.results194) rfl ⟨by simp [jE, h1d], rfl⟩)
 ·have h1d := bsT h1
  have g'2 := (jn @h1 @h1d)
  refine aa g'2 ?_
  exact hQ _ _ (aF (.inl rfl) hbel (x := .bool true) (ag Tryz.results194) rfl ⟨by simp [jE, h1d], rfl⟩)
theorem bxmv_c (H : ac) (x0 : Int) (y0 : Int) (x1 : Int) (y1 : Int) (f : Int) (c : Int) (p : Int) (q : Int) (r : Int) (s : Int) (hb : bxB x0 y0 x1 y1 f c = true) (hd1 : -64 ≤ p ∧ p ≤ q ∧ q ≤ 64) (hd2 : -64 ≤ r ∧ r ≤ s ∧ s ≤ 64) : ACalls Tryz.prog 162 [.agg [.int .i64 x0, .int .i64 y0, .int .i64 x1, .int .i64 y1, .int .i64 f, .int .i64 c], .int .i64 p, .int .i64 q, .int .i64 r, .int .i64 s] H (fun v H' => v = .tup [.agg [.int .i64 (mkV (mvO x0 y0 x1 y1 p q r s) (x0 + p)), .int .i64 (mkV (mvO x0 y0 x1 y1 p q r s) (y0 + r)), .int .i64 (mkV (mvO x0 y0 x1 y1 p q r s) (x1 + q)), .int .i64 (mkV (mvO x0 y0 x1 y1 p q r s) (y1 + s)), .int .i64 (mkV (mvO x0 y0 x1 y1 p q r s) f), .int .i64 (mkV (mvO x0 y0 x1 y1 p q r s) c)], .int .i64 (mvE x0 y0 x1 y1 p q r s)] ∧ H' = H) := by
 have hbb := bL.1 hb
 have ho2 := off2_4 (a := p) (b := q) (c := r) (d := s) (by omega) (by omega) (by omega) (by omega)
 refine AcT true Tryz.func162 ?_; intro hbel Q hQ
 have g'3 := (jn @hb @ho2)
 refine aa g'3 ?_
 refine af (by kernel_rfl) (eO _ x0 y0 x1 y1 f c) ?_
 refine aa g'3 ?_
 refine aj (fun h1 => ?_) (fun h1 => ?_)
 ·have h1d := bsT h1
  have g'4 := (jn @h1 (jn @h1d g'3))
  refine aa g'4 ?_
  refine ai (fun h2 => ?_) (fun h2 => ?_)
  ·have h2d := bsT h2
   omega
  ·have h2d := bsT h2
   have g'5 := (jn @h2 (jn @h2d g'4))
   refine aa g'5 ?_
   refine af (by kernel_rfl) (has_int _ _ [p, q, r, s] ⟨_, _, _, by first | rfl | (rw [List.length_append]; done) | (rw [List.length_append]; rfl), by first | rfl | (rw [ap]; rfl) | (rw [al]; rfl) | (rw [ap, am]; rfl) | (rw [al, am]; rfl)⟩ (by first | omega | simp) _ [] (by kernel_rfl) rfl jE (fun j hj => bmv1_c _ _)) ?_
   refine aa g'5 ?_
   refine af (by kernel_rfl) (small_c _ _ [x0 + p, x1 + q, y0 + r, y1 + s] ⟨_, _, _, by first | rfl | (rw [List.length_append]; done) | (rw [List.length_append]; rfl), by first | rfl | (rw [ap]; rfl) | (rw [al]; rfl) | (rw [ap, am]; rfl) | (rw [al, am]; rfl)⟩ (by first | decide | omega | simp)) ?_
   refine aa g'5 ?_
   refine ai (fun h3 => ?_) (fun h3 => ?_)
   ·have h3d := bsT h3
    have hfinO : mvO x0 y0 x1 y1 p q r s = false := by unfold mvO; rw [h3d]; rfl
    have g'6 := (jn @h3 (jn @h3d g'5))
    refine aa g'6 ?_
    exact hQ _ _ (ae (.inl rfl) hbel (x := .tup [.agg [.int .i64 0, .int .i64 0, .int .i64 0, .int .i64 0, .int .i64 0, .int .i64 0], .int .i64 2]) (ag Tryz.results162) rfl ⟨by unfold mvE; rw [hfinO]; rfl, rfl⟩)
   ·have h3d := bsT h3
    have hfinO : mvO x0 y0 x1 y1 p q r s = true := by unfold mvO; rw [h3d]; rfl
    have g'7 := (jn @h3 (jn @h3d g'5))
    refine aa g'7 ?_
    exact hQ _ _ (ae (.inl rfl) hbel (x := .tup [.agg [.int .i64 (x0 + p), .int .i64 (y0 + r), .int .i64 (x1 + q), .int .i64 (y1 + s), .int .i64 f, .int .i64 c], .int .i64 0]) (ag Tryz.results162) rfl ⟨by unfold mvE; rw [hfinO]; rfl, rfl⟩)
 ·have h1d := bsT h1
  omega
open Go.RowKit
theorem parc_c (H : ac) (x0 : Int) (y0 : Int) (x1 : Int) (y1 : Int) (f : Int) (c : Int) : ACalls Tryz.prog 160 [.agg [.int .i64 x0, .int .i64 y0, .int .i64 x1, .int .i64 y1, .int .i64 f, .int .i64 c]] H (fun v H' => v = .agg [.int .i64 f, .int .i64 c] ∧ H' = H) := by
 refine AcT true Tryz.func160 ?_; intro hbel Q hQ
 refine aY ?_
 exact hQ _ _ (ae (.inl rfl) hbel (x := .agg [.int .i64 f, .int .i64 c]) (ag Tryz.results160) rfl ⟨rfl, rfl⟩)
theorem ptrn_c (H : ac) (x0 : Int) (y0 : Int) (x1 : Int) (y1 : Int) (f : Int) (c : Int) (t : Int) (tu : Int) (ha : cd f c = true) (hu : 0 ≤ tu ∧ tu ≤ 256) : ACalls Tryz.prog 118 [.agg [.int .i64 x0, .int .i64 y0, .int .i64 x1, .int .i64 y1, .int .i64 f, .int .i64 c], .int .i64 t, .int .i64 tu] H (fun v H' => v = .agg [.int .i64 (grF (shF f c t) (cp c) tu), .int .i64 (grC (cp c) tu)] ∧ H' = H) := by
 have ka := bH.1 ha
 have hs2 : cd (shF f c t) (cp c) = true := i9 (by omega)
 refine AcT true Tryz.func118 ?_; intro hbel Q hQ
 refine aY ?_
 refine af (by kernel_rfl) (parc_c _ x0 y0 x1 y1 f c) ?_
 refine aY ?_
 refine af (by kernel_rfl) (hshift_c _ f c t (by assumption)) ?_
 refine aY ?_
 refine af (by kernel_rfl) (hgrow_c _ (shF f c t) (cp c) tu (by assumption) (by omega)) ?_
 refine aY ?_
 exact hQ _ _ (ae (.inl rfl) hbel (x := .agg [.int .i64 (grF (shF f c t) (cp c) tu), .int .i64 (grC (cp c) tu)]) (ag Tryz.results118) rfl ⟨rfl, rfl⟩)
theorem preach_c (H : ac) (t : Int) (g : Int) (tu : Int) (le : Int) (sl : Int) (ra : Int) (bf : Int) (bc : Int) (hC : cQ t g = true) (hB : cJ tu le sl ra = true) (hA : cd bf bc = true) : ACalls Tryz.prog 120 [.agg [.int .i64 t, .int .i64 g], .agg [.int .i64 tu, .int .i64 le, .int .i64 sl, .int .i64 ra], .agg [.int .i64 bf, .int .i64 bc]] H (fun v H' => v = .agg [.int .i64 ((rcS g le sl (bl bf bc.toNat) (bl bf bc.toNat).length).1), .int .i64 ((rcS g le sl (bl bf bc.toNat) (bl bf bc.toNat).length).2.1), .int .i64 ((rcS g le sl (bl bf bc.toNat) (bl bf bc.toNat).length).2.2.1), .int .i64 ((rcS g le sl (bl bf bc.toNat) (bl bf bc.toNat).length).2.2.2)] ∧ H' = H) := by
 have hCi := hC
 simp only [cQ, Bool.and_eq_true, bu] at hCi
 have hBi := hB
 simp only [cJ, Bool.and_eq_true, bu] at hBi
 have ka := bH.1 hA
 have hln := ew bf bc.toNat
 refine AcT true Tryz.func120 ?_; intro hbel Q hQ
 refine aY ?_
 refine af (by kernel_rfl) (nq _ bf bc hA) ?_
 refine aY ?_
 refine go_loop try_mixed (by kernel_rfl) (fun k F Hx => ∃ i : Nat, i + k = (bl bf bc.toNat).length ∧ F = [(3, .ptr (some (H.length, 0))), (4, .ptr (some (H.length + 1, 0))), (6, .ptr (some (H.length + 2, 0))), (7, .ptr (some (H.length + 3, 0))), (13, .sl (some (H.length + 4, 0)) ((bl bf bc.toNat).length) none), (14, .int .i64 (((bl bf bc.toNat).length : Nat) : Int)), (15, .int .i64 ((i : Nat) : Int))] ∧ Hx = H ++ [.cells true 0 [.int .i64 t, .int .i64 g], .cells true 0 [.int .i64 tu, .int .i64 le, .int .i64 sl, .int .i64 ra], .cells true 0 [.int .i64 0, .int .i64 0, .int .i64 0, .int .i64 0], .cells true 0 [.int .i64 ((rcS g le sl (bl bf bc.toNat) i).1), .int .i64 ((rcS g le sl (bl bf bc.toNat) i).2.1), .int .i64 ((rcS g le sl (bl bf bc.toNat) i).2.2.1), .int .i64 ((rcS g le sl (bl bf bc.toNat) i).2.2.2)], .cells true 1 (ints .i64 (bl bf bc.toNat))]) ((bl bf bc.toNat).length) ?_ ?_
 ·refine ⟨_, _, _, ⟨0, by omega, rfl, rfl⟩, Abs.byG hbel [] rfl [0, 1, 3, 4, 5] (by decide) ?_⟩
  exact aM @rcS.eq_1
 ·rintro k0 F Hx ⟨i, hm0, rfl, rfl⟩ J0 hJ0
  have g'1 := (jn @ck @cH)
  refine aa g'1 ?_
  refine ai (fun h1 => ?_) (fun h1 => ?_)
  ·have h1d := bsT h1
   have hiL : i < (bl bf bc.toNat).length := by omega
   have hgi := mrkL_bd (f := bf) (n := bc.toNat) _ (lY hiL)
   have q2 := cV (k := .i64) (xs := bl bf bc.toNat) (j := i) (by omega)
   have g'2 := (jn @h1 (jn @h1d (jn @q2 g'1)))
   refine aa g'2 ?_
   refine af (by kernel_rfl) (drch_c _ t g tu le sl ra (gi (bl bf bc.toNat) i) (by assumption) (by assumption) (by omega)) ?_
   refine aa g'2 ?_
   refine ai (fun h3 => ?_) (fun h3 => ?_)
   ·have h3d := bsT h3
    have h3n := bnT h3
    have hi0 : i = 0 := by have q := h3d; simpa using q
    have hs0 : (rcS g le sl (bl bf bc.toNat) (i + 1)).1 = mnI ((rqR g le sl (gi (bl bf bc.toNat) i)).1) ((rqR g le sl (gi (bl bf bc.toNat) i)).1) := by rw [rcS]; simp only; rw [if_pos hi0]
    have hs1 : (rcS g le sl (bl bf bc.toNat) (i + 1)).2.1 = mnI ((rqR g le sl (gi (bl bf bc.toNat) i)).2.1) ((rqR g le sl (gi (bl bf bc.toNat) i)).2.1) := by rw [rcS]; simp only; rw [if_pos hi0]
    have hs2 : (rcS g le sl (bl bf bc.toNat) (i + 1)).2.2.1 = mxI ((rqR g le sl (gi (bl bf bc.toNat) i)).2.2.1) ((rqR g le sl (gi (bl bf bc.toNat) i)).2.2.1) := by rw [rcS]; simp only; rw [if_pos hi0]
    have hs3 : (rcS g le sl (bl bf bc.toNat) (i + 1)).2.2.2 = mxI ((rqR g le sl (gi (bl bf bc.toNat) i)).2.2.2) ((rqR g le sl (gi (bl bf bc.toNat) i)).2.2.2) := by rw [rcS]; simp only; rw [if_pos hi0]
    have g'3 := (jn @h3 (jn @h3n (jn @aU (jn @aT g'2))))
    refine aa g'3 ?_
    refine hJ0 _ _ ⟨k0 - 1, by omega, _, _, _, ⟨i + 1, by omega, rfl, rfl⟩, Abs.byG hbel [] rfl [0, 1, 2, 3, 4] (by decide) ?_⟩
    exact aM (jn @hs0 (jn @hs1 (jn @hs2 @hs3)))
   ·have h3d := bsT h3
    have h3n := bnT h3
    have hi0 : ¬ i = 0 := by have q := h3d; simpa using q
    have hs0 : (rcS g le sl (bl bf bc.toNat) (i + 1)).1 = mnI ((rcS g le sl (bl bf bc.toNat) i).1) ((rqR g le sl (gi (bl bf bc.toNat) i)).1) := by rw [rcS]; simp only; rw [if_neg hi0]
    have hs1 : (rcS g le sl (bl bf bc.toNat) (i + 1)).2.1 = mnI ((rcS g le sl (bl bf bc.toNat) i).2.1) ((rqR g le sl (gi (bl bf bc.toNat) i)).2.1) := by rw [rcS]; simp only; rw [if_neg hi0]
    have hs2 : (rcS g le sl (bl bf bc.toNat) (i + 1)).2.2.1 = mxI ((rcS g le sl (bl bf bc.toNat) i).2.2.1) ((rqR g le sl (gi (bl bf bc.toNat) i)).2.2.1) := by rw [rcS]; simp only; rw [if_neg hi0]
    have hs3 : (rcS g le sl (bl bf bc.toNat) (i + 1)).2.2.2 = mxI ((rcS g le sl (bl bf bc.toNat) i).2.2.2) ((rqR g le sl (gi (bl bf bc.toNat) i)).2.2.2) := by rw [rcS]; simp only; rw [if_neg hi0]
    have g'4 := (jn @h3 (jn @h3n (jn @aU (jn @aT g'2))))
    refine aa g'4 ?_
    refine hJ0 _ _ ⟨k0 - 1, by omega, _, _, _, ⟨i + 1, by omega, rfl, rfl⟩, Abs.byG hbel [] rfl [0, 1, 2, 3, 4] (by decide) ?_⟩
    exact aM (jn @hs0 (jn @hs1 (jn @hs2 @hs3)))
  ·have h1d := bsT h1
   obtain rfl : i = (bl bf bc.toNat).length := by omega
   have g'5 := (jn @h1 (jn @h1d g'1))
   refine aa g'5 ?_
   exact hQ _ _ (ae (.inl rfl) hbel (x := .agg [.int .i64 ((rcS g le sl (bl bf bc.toNat) (bl bf bc.toNat).length).1), .int .i64 ((rcS g le sl (bl bf bc.toNat) (bl bf bc.toNat).length).2.1), .int .i64 ((rcS g le sl (bl bf bc.toNat) (bl bf bc.toNat).length).2.2.1), .int .i64 ((rcS g le sl (bl bf bc.toNat) (bl bf bc.toNat).length).2.2.2)]) (ag Tryz.results120) rfl ⟨rfl, rfl⟩)
open Go.RowKit
theorem pval_c (H : ac) (x0 : Int) (y0 : Int) (x1 : Int) (y1 : Int) (f : Int) (c : Int) (t : Int) (g : Int) (tu : Int) (le : Int) (sl : Int) (ra : Int) : ACalls Tryz.prog 117 [.agg [.int .i64 x0, .int .i64 y0, .int .i64 x1, .int .i64 y1, .int .i64 f, .int .i64 c], .agg [.int .i64 t, .int .i64 g], .agg [.int .i64 tu, .int .i64 le, .int .i64 sl, .int .i64 ra]] H (fun v H' => v = .bool (bxB x0 y0 x1 y1 f c && cQ t g && cJ tu le sl ra) ∧ H' = H) := by
 refine AcT true Tryz.func117 ?_; intro hbel Q hQ
 refine aY ?_
 refine af (by kernel_rfl) (eO _ x0 y0 x1 y1 f c) ?_
 refine aY ?_
 refine aj (fun h1 => ?_) (fun h1 => ?_)
 ·have h1d := bsT h1
  have g'1 := (jn @h1 @h1d)
  refine aa g'1 ?_
  refine af (by kernel_rfl) (fJ _ t g) ?_
  refine aa g'1 ?_
  refine aj (fun h2 => ?_) (fun h2 => ?_)
  ·have h2d := bsT h2
   have g'2 := (jn @h2 (jn @h2d g'1))
   refine aa g'2 ?_
   refine af (by kernel_rfl) (i8 _ tu le sl ra) ?_
   refine aa g'2 ?_
   exact hQ _ _ (ae (.inl rfl) hbel (x := .bool (cJ tu le sl ra)) (ag Tryz.results117) rfl ⟨by simp [h1d, h2d], rfl⟩)
  ·have h2d := bsT h2
   have g'3 := (jn @h2 (jn @h2d g'1))
   refine aa g'3 ?_
   exact hQ _ _ (ae (.inl rfl) hbel (x := .bool false) (ag Tryz.results117) rfl ⟨by simp [h1d, h2d], rfl⟩)
 ·have h1d := bsT h1
  have g'4 := (jn @h1 @h1d)
  refine aa g'4 ?_
  exact hQ _ _ (ae (.inl rfl) hbel (x := .bool false) (ag Tryz.results117) rfl ⟨by simp [h1d], rfl⟩)
theorem pmvd_c (H : ac) (x0 : Int) (y0 : Int) (x1 : Int) (y1 : Int) (f : Int) (c : Int) (nf : Int) (nc : Int) (p : Int) (r : Int) (q : Int) (s : Int) (hb : bxB x0 y0 x1 y1 f c = true) (ha : cd nf nc = true) (hd1 : -64 ≤ p ∧ p ≤ q ∧ q ≤ 64) (hd2 : -64 ≤ r ∧ r ≤ s ∧ s ≤ 64) : ACalls Tryz.prog 119 [.agg [.int .i64 x0, .int .i64 y0, .int .i64 x1, .int .i64 y1, .int .i64 f, .int .i64 c], .agg [.int .i64 nf, .int .i64 nc], .agg [.int .i64 p, .int .i64 r, .int .i64 q, .int .i64 s]] H (fun v H' => v = .tup [.agg [.int .i64 (mkV (mvO x0 y0 x1 y1 p q r s) (x0 + p)), .int .i64 (mkV (mvO x0 y0 x1 y1 p q r s) (y0 + r)), .int .i64 (mkV (mvO x0 y0 x1 y1 p q r s) (x1 + q)), .int .i64 (mkV (mvO x0 y0 x1 y1 p q r s) (y1 + s)), .int .i64 (mkV (mvO x0 y0 x1 y1 p q r s) nf), .int .i64 (mkV (mvO x0 y0 x1 y1 p q r s) nc)], .int .i64 (mvE x0 y0 x1 y1 p q r s)] ∧ H' = H) := by
 have hbb := bL.1 hb
 have hb2 : bxB x0 y0 x1 y1 nf nc = true := bL.2 ⟨hbb.1, hbb.2.1, ha⟩
 (refine bT Tryz.func119 _ rfl (Nat.le_of_ble_eq_true (by kernel_rfl)) rfl ?_; intro hbel Q hQ hQ' c hc; unfold Tryz.f119 at hc; simp only [Option.some.injEq] at hc; subst hc; clear hQ')
 refine aQ fun Q1 hn1 hr1 he1 => ?_
 have hQ1 := fun F H' h => hr1 F H' (hQ F H' h)
 refine aL true try_mixed (by kernel_rfl) ?_
 refine aY ?_
 refine hn1 _ _ ?_
 refine cn true try_mixed [[0, 1, 2, 3, 4, 5, 6, 7], [0, 1, 2, 4, 5, 3, 6, 7]] (by kernel_rfl) (fun F2 H2 => F2 = [(3, .ptr (some (H.length, 0))), (5, .ptr (some (H.length + 1, 0))), (6, .ptr (some (H.length + 2, 0))), (7, .int .i64 0)] ∧ H2 = H ++ [.cells true 0 [.int .i64 x0, .int .i64 y0, .int .i64 x1, .int .i64 y1, .int .i64 nf, .int .i64 nc], .cells true 0 [.int .i64 p, .int .i64 r, .int .i64 q, .int .i64 s], .cells true 0 [.int .i64 0, .int .i64 0, .int .i64 0, .int .i64 0, .int .i64 0, .int .i64 0]]) ?_ ?_
 ·refine aG ?_ (aG ?_ (cl)) <;> intro J hJ
  ·skip
   refine runD ?_
   refine aR (hJ _ _ ⟨_, _, _, ⟨rfl, rfl⟩, Abs.byG hbel [] rfl [0, 2, 3] (by decide) ?_⟩)
   exact be
  ·skip
   refine runD ?_
   refine aR (hJ _ _ ⟨_, _, _, ⟨rfl, rfl⟩, Abs.byG hbel [] rfl [0, 2, 3] (by decide) ?_⟩)
   exact be
 rintro F2 H2 ⟨rfl, rfl⟩
 refine aL true try_mixed (by kernel_rfl) ?_
 refine aY ?_
 refine af (by kernel_rfl) (bxmv_c _ x0 y0 x1 y1 nf nc p q r s (by assumption) (by omega) (by omega)) ?_
 refine aY ?_
 exact hQ _ _ (ae (.inl rfl) hbel (x := .tup [.agg [.int .i64 (mkV (mvO x0 y0 x1 y1 p q r s) (x0 + p)), .int .i64 (mkV (mvO x0 y0 x1 y1 p q r s) (y0 + r)), .int .i64 (mkV (mvO x0 y0 x1 y1 p q r s) (x1 + q)), .int .i64 (mkV (mvO x0 y0 x1 y1 p q r s) (y1 + s)), .int .i64 (mkV (mvO x0 y0 x1 y1 p q r s) nf), .int .i64 (mkV (mvO x0 y0 x1 y1 p q r s) nc)], .int .i64 (mvE x0 y0 x1 y1 p q r s)]) (ag Tryz.results119) rfl ⟨rfl, rfl⟩)
theorem preachq_c (H : ac) (t g tu le sl ra f c : Int) (hC : cQ t g = true) (hB : cJ tu le sl ra = true) (ha : cd f c = true) (hu : 0 ≤ tu ∧ tu ≤ 8) {x0 y0 x1 y1 : Int} : ACalls Tryz.prog 120 [.agg [.int .i64 t, .int .i64 g], .agg [.int .i64 tu, .int .i64 le, .int .i64 sl, .int .i64 ra], .agg [.int .i64 (grF (shF f c t) (cp c) tu), .int .i64 (grC (cp c) tu)]] H (fun v H' => v = .agg [.int .i64 (imR (x0, y0, x1, y1, f, c) t g tu le sl).1, .int .i64 (imR (x0, y0, x1, y1, f, c) t g tu le sl).2.1, .int .i64 (imR (x0, y0, x1, y1, f, c) t g tu le sl).2.2.1, .int .i64 (imR (x0, y0, x1, y1, f, c) t g tu le sl).2.2.2] ∧ H' = H) :=
 preach_c H t g tu le sl ra _ _ hC hB (by have k := bH.1 ha; refine i9 ?_; unfold cp; split <;> omega)
theorem image_c (H : ac) (x0 : Int) (y0 : Int) (x1 : Int) (y1 : Int) (f : Int) (c : Int) (t : Int) (g : Int) (tu : Int) (le : Int) (sl : Int) (ra : Int) (hb : bxB x0 y0 x1 y1 f c = true) (hC : cQ t g = true) (hB : cJ tu le sl ra = true) : ACalls Tryz.prog 84 [.agg [.int .i64 x0, .int .i64 y0, .int .i64 x1, .int .i64 y1, .int .i64 f, .int .i64 c], .agg [.int .i64 t, .int .i64 g], .agg [.int .i64 tu, .int .i64 le, .int .i64 sl, .int .i64 ra]] H (fun v H' => v = .tup [.agg [.int .i64 (mkV (mvO x0 y0 x1 y1 (imR (x0, y0, x1, y1, f, c) t g tu le sl).1 (imR (x0, y0, x1, y1, f, c) t g tu le sl).2.2.1 (imR (x0, y0, x1, y1, f, c) t g tu le sl).2.1 (imR (x0, y0, x1, y1, f, c) t g tu le sl).2.2.2) (x0 + (imR (x0, y0, x1, y1, f, c) t g tu le sl).1)), .int .i64 (mkV (mvO x0 y0 x1 y1 (imR (x0, y0, x1, y1, f, c) t g tu le sl).1 (imR (x0, y0, x1, y1, f, c) t g tu le sl).2.2.1 (imR (x0, y0, x1, y1, f, c) t g tu le sl).2.1 (imR (x0, y0, x1, y1, f, c) t g tu le sl).2.2.2) (y0 + (imR (x0, y0, x1, y1, f, c) t g tu le sl).2.1)), .int .i64 (mkV (mvO x0 y0 x1 y1 (imR (x0, y0, x1, y1, f, c) t g tu le sl).1 (imR (x0, y0, x1, y1, f, c) t g tu le sl).2.2.1 (imR (x0, y0, x1, y1, f, c) t g tu le sl).2.1 (imR (x0, y0, x1, y1, f, c) t g tu le sl).2.2.2) (x1 + (imR (x0, y0, x1, y1, f, c) t g tu le sl).2.2.1)), .int .i64 (mkV (mvO x0 y0 x1 y1 (imR (x0, y0, x1, y1, f, c) t g tu le sl).1 (imR (x0, y0, x1, y1, f, c) t g tu le sl).2.2.1 (imR (x0, y0, x1, y1, f, c) t g tu le sl).2.1 (imR (x0, y0, x1, y1, f, c) t g tu le sl).2.2.2) (y1 + (imR (x0, y0, x1, y1, f, c) t g tu le sl).2.2.2)), .int .i64 (mkV (mvO x0 y0 x1 y1 (imR (x0, y0, x1, y1, f, c) t g tu le sl).1 (imR (x0, y0, x1, y1, f, c) t g tu le sl).2.2.1 (imR (x0, y0, x1, y1, f, c) t g tu le sl).2.1 (imR (x0, y0, x1, y1, f, c) t g tu le sl).2.2.2) (grF (shF f c t) (cp c) tu)), .int .i64 (mkV (mvO x0 y0 x1 y1 (imR (x0, y0, x1, y1, f, c) t g tu le sl).1 (imR (x0, y0, x1, y1, f, c) t g tu le sl).2.2.1 (imR (x0, y0, x1, y1, f, c) t g tu le sl).2.1 (imR (x0, y0, x1, y1, f, c) t g tu le sl).2.2.2) (grC (cp c) tu))], .int .i64 (mvE x0 y0 x1 y1 (imR (x0, y0, x1, y1, f, c) t g tu le sl).1 (imR (x0, y0, x1, y1, f, c) t g tu le sl).2.2.1 (imR (x0, y0, x1, y1, f, c) t g tu le sl).2.1 (imR (x0, y0, x1, y1, f, c) t g tu le sl).2.2.2)] ∧ H' = H) := by
 have hCi := hC
 simp only [cQ, Bool.and_eq_true, bu] at hCi
 have hBi := hB
 simp only [cJ, Bool.and_eq_true, bu] at hBi
 have hbb := bL.1 hb
 have hab := hbb.2.2
 have ka := bH.1 hab
 have hs2 : cd (shF f c t) (cp c) = true := i9 (by omega)
 have htu : 0 ≤ tu ∧ tu ≤ 8 := by omega
 have hg2 : cd (grF (shF f c t) (cp c) tu) (grC (cp c) tu) = true := i9 (by unfold cp; split <;> omega)
 have hbd : (-64 ≤ (imR (x0, y0, x1, y1, f, c) t g tu le sl).1 ∧ (imR (x0, y0, x1, y1, f, c) t g tu le sl).1 ≤ (imR (x0, y0, x1, y1, f, c) t g tu le sl).2.2.1 ∧ (imR (x0, y0, x1, y1, f, c) t g tu le sl).2.2.1 ≤ 64) ∧ -64 ≤ (imR (x0, y0, x1, y1, f, c) t g tu le sl).2.1 ∧ (imR (x0, y0, x1, y1, f, c) t g tu le sl).2.1 ≤ (imR (x0, y0, x1, y1, f, c) t g tu le sl).2.2.2 ∧ (imR (x0, y0, x1, y1, f, c) t g tu le sl).2.2.2 ≤ 64 := rcS_bd (by omega) (by omega) (by omega) _
 (refine bT Tryz.func84 _ rfl (Nat.le_of_ble_eq_true (by kernel_rfl)) rfl ?_; intro hbel Q hQ hQ' c hc; unfold Tryz.f84 at hc; simp only [Option.some.injEq] at hc; subst hc; clear hQ')
 refine aQ fun Q2 hn2 hr2 he2 => ?_
 have hQ2 := fun F H' h => hr2 F H' (hQ F H' h)
 refine aL true try_mixed (by kernel_rfl) ?_
 have g'5 := (jn @hb (jn @hC @hB))
 refine aa g'5 ?_
 refine hn2 _ _ ?_
 refine aQ fun Q3 hn3 hr3 he3 => ?_
 have hQ3 := fun F H' h => hr3 F H' (hQ F H' h)
 refine aL true try_mixed (by kernel_rfl) ?_
 refine aa g'5 ?_
 refine af (by kernel_rfl) (pval_c _ x0 y0 x1 y1 f c t g tu le sl ra) ?_
 refine aa g'5 ?_
 refine hn3 _ _ ?_
 refine aQ fun Q4 hn4 hr4 he4 => ?_
 have hQ4 := fun F H' h => hr4 F H' (hQ F H' h)
 refine aL true try_mixed (by kernel_rfl) ?_
 refine aa g'5 ?_
 refine af (by kernel_rfl) (ptrn_c _ x0 y0 x1 y1 f c t tu (by assumption) (by omega)) ?_
 refine aa g'5 ?_
 refine hn4 _ _ ?_
 refine cn true try_mixed [[0, 1, 2, 3, 4, 5, 6, 7, 8, 9, 10]] (by kernel_rfl) (fun F2 H2 => F2 = [(6, .ptr (some (H.length, 0))), (7, .int .i64 (mvE x0 y0 x1 y1 ((imR (x0, y0, x1, y1, f, c) t g tu le sl).1) ((imR (x0, y0, x1, y1, f, c) t g tu le sl).2.2.1) ((imR (x0, y0, x1, y1, f, c) t g tu le sl).2.1) ((imR (x0, y0, x1, y1, f, c) t g tu le sl).2.2.2)))] ∧ H2 = H ++ [.cells true 0 [.int .i64 (mkV (mvO x0 y0 x1 y1 ((imR (x0, y0, x1, y1, f, c) t g tu le sl).1) ((imR (x0, y0, x1, y1, f, c) t g tu le sl).2.2.1) ((imR (x0, y0, x1, y1, f, c) t g tu le sl).2.1) ((imR (x0, y0, x1, y1, f, c) t g tu le sl).2.2.2)) (x0 + ((imR (x0, y0, x1, y1, f, c) t g tu le sl).1))), .int .i64 (mkV (mvO x0 y0 x1 y1 ((imR (x0, y0, x1, y1, f, c) t g tu le sl).1) ((imR (x0, y0, x1, y1, f, c) t g tu le sl).2.2.1) ((imR (x0, y0, x1, y1, f, c) t g tu le sl).2.1) ((imR (x0, y0, x1, y1, f, c) t g tu le sl).2.2.2)) (y0 + ((imR (x0, y0, x1, y1, f, c) t g tu le sl).2.1))), .int .i64 (mkV (mvO x0 y0 x1 y1 ((imR (x0, y0, x1, y1, f, c) t g tu le sl).1) ((imR (x0, y0, x1, y1, f, c) t g tu le sl).2.2.1) ((imR (x0, y0, x1, y1, f, c) t g tu le sl).2.1) ((imR (x0, y0, x1, y1, f, c) t g tu le sl).2.2.2)) (x1 + ((imR (x0, y0, x1, y1, f, c) t g tu le sl).2.2.1))), .int .i64 (mkV (mvO x0 y0 x1 y1 ((imR (x0, y0, x1, y1, f, c) t g tu le sl).1) ((imR (x0, y0, x1, y1, f, c) t g tu le sl).2.2.1) ((imR (x0, y0, x1, y1, f, c) t g tu le sl).2.1) ((imR (x0, y0, x1, y1, f, c) t g tu le sl).2.2.2)) (y1 + ((imR (x0, y0, x1, y1, f, c) t g tu le sl).2.2.2))), .int .i64 (mkV (mvO x0 y0 x1 y1 ((imR (x0, y0, x1, y1, f, c) t g tu le sl).1) ((imR (x0, y0, x1, y1, f, c) t g tu le sl).2.2.1) ((imR (x0, y0, x1, y1, f, c) t g tu le sl).2.1) ((imR (x0, y0, x1, y1, f, c) t g tu le sl).2.2.2)) (grF (shF f c t) (cp c) tu)), .int .i64 (mkV (mvO x0 y0 x1 y1 ((imR (x0, y0, x1, y1, f, c) t g tu le sl).1) ((imR (x0, y0, x1, y1, f, c) t g tu le sl).2.2.1) ((imR (x0, y0, x1, y1, f, c) t g tu le sl).2.1) ((imR (x0, y0, x1, y1, f, c) t g tu le sl).2.2.2)) (grC (cp c) tu))]]) ?_ ?_
 ·refine aG ?_ (cl) <;> intro J hJ
  ·skip
   refine aA g'5 ?_
   refine aK (by kernel_rfl) (preachq_c (x0 := x0) (y0 := y0) (x1 := x1) (y1 := y1) _ t g tu le sl ra f c hC hB hab htu) ?_
   refine aA g'5 ?_
   refine aK (by kernel_rfl) (pmvd_c _ x0 y0 x1 y1 f c (grF (shF f c t) (cp c) tu) (grC (cp c) tu) ((imR (x0, y0, x1, y1, f, c) t g tu le sl).1) ((imR (x0, y0, x1, y1, f, c) t g tu le sl).2.1) ((imR (x0, y0, x1, y1, f, c) t g tu le sl).2.2.1) ((imR (x0, y0, x1, y1, f, c) t g tu le sl).2.2.2) (by assumption) (by assumption) (by omega) (by omega)) ?_
   refine aA g'5 ?_
   refine aR (hJ _ _ ⟨_, _, _, ⟨rfl, rfl⟩, Abs.byG hbel [] rfl [3] (by decide) ?_⟩)
   exact be
 rintro F2 H2 ⟨rfl, rfl⟩
 refine aL true try_mixed (by kernel_rfl) ?_
 refine aa g'5 ?_
 exact hQ _ _ (ae (.inl rfl) hbel (x := .tup [.agg [.int .i64 (mkV (mvO x0 y0 x1 y1 ((imR (x0, y0, x1, y1, f, c) t g tu le sl).1) ((imR (x0, y0, x1, y1, f, c) t g tu le sl).2.2.1) ((imR (x0, y0, x1, y1, f, c) t g tu le sl).2.1) ((imR (x0, y0, x1, y1, f, c) t g tu le sl).2.2.2)) (x0 + ((imR (x0, y0, x1, y1, f, c) t g tu le sl).1))), .int .i64 (mkV (mvO x0 y0 x1 y1 ((imR (x0, y0, x1, y1, f, c) t g tu le sl).1) ((imR (x0, y0, x1, y1, f, c) t g tu le sl).2.2.1) ((imR (x0, y0, x1, y1, f, c) t g tu le sl).2.1) ((imR (x0, y0, x1, y1, f, c) t g tu le sl).2.2.2)) (y0 + ((imR (x0, y0, x1, y1, f, c) t g tu le sl).2.1))), .int .i64 (mkV (mvO x0 y0 x1 y1 ((imR (x0, y0, x1, y1, f, c) t g tu le sl).1) ((imR (x0, y0, x1, y1, f, c) t g tu le sl).2.2.1) ((imR (x0, y0, x1, y1, f, c) t g tu le sl).2.1) ((imR (x0, y0, x1, y1, f, c) t g tu le sl).2.2.2)) (x1 + ((imR (x0, y0, x1, y1, f, c) t g tu le sl).2.2.1))), .int .i64 (mkV (mvO x0 y0 x1 y1 ((imR (x0, y0, x1, y1, f, c) t g tu le sl).1) ((imR (x0, y0, x1, y1, f, c) t g tu le sl).2.2.1) ((imR (x0, y0, x1, y1, f, c) t g tu le sl).2.1) ((imR (x0, y0, x1, y1, f, c) t g tu le sl).2.2.2)) (y1 + ((imR (x0, y0, x1, y1, f, c) t g tu le sl).2.2.2))), .int .i64 (mkV (mvO x0 y0 x1 y1 ((imR (x0, y0, x1, y1, f, c) t g tu le sl).1) ((imR (x0, y0, x1, y1, f, c) t g tu le sl).2.2.1) ((imR (x0, y0, x1, y1, f, c) t g tu le sl).2.1) ((imR (x0, y0, x1, y1, f, c) t g tu le sl).2.2.2)) (grF (shF f c t) (cp c) tu)), .int .i64 (mkV (mvO x0 y0 x1 y1 ((imR (x0, y0, x1, y1, f, c) t g tu le sl).1) ((imR (x0, y0, x1, y1, f, c) t g tu le sl).2.2.1) ((imR (x0, y0, x1, y1, f, c) t g tu le sl).2.1) ((imR (x0, y0, x1, y1, f, c) t g tu le sl).2.2.2)) (grC (cp c) tu))], .int .i64 (mvE x0 y0 x1 y1 ((imR (x0, y0, x1, y1, f, c) t g tu le sl).1) ((imR (x0, y0, x1, y1, f, c) t g tu le sl).2.2.1) ((imR (x0, y0, x1, y1, f, c) t g tu le sl).2.1) ((imR (x0, y0, x1, y1, f, c) t g tu le sl).2.2.2))]) (ag Tryz.results84) rfl ⟨rfl, rfl⟩)
theorem image_t (H : ac) (b : T6) (t g tu le sl ra : Int) (hb : bD b = true) (hC : cQ t g = true) (hB : cJ tu le sl ra = true) : ACalls Tryz.prog 84 [.agg [.int .i64 b.1, .int .i64 b.2.1, .int .i64 b.2.2.1, .int .i64 b.2.2.2.1, .int .i64 b.2.2.2.2.1, .int .i64 b.2.2.2.2.2], .agg [.int .i64 t, .int .i64 g], .agg [.int .i64 tu, .int .i64 le, .int .i64 sl, .int .i64 ra]] H (fun v H' => v = .tup [.agg [.int .i64 (mkV (imO b t g tu le sl) (imB b t g tu le sl).1), .int .i64 (mkV (imO b t g tu le sl) (imB b t g tu le sl).2.1), .int .i64 (mkV (imO b t g tu le sl) (imB b t g tu le sl).2.2.1), .int .i64 (mkV (imO b t g tu le sl) (imB b t g tu le sl).2.2.2.1), .int .i64 (mkV (imO b t g tu le sl) (imB b t g tu le sl).2.2.2.2.1), .int .i64 (mkV (imO b t g tu le sl) (imB b t g tu le sl).2.2.2.2.2)], .int .i64 (imE b t g tu le sl)] ∧ H' = H) :=
 image_c H b.1 b.2.1 b.2.2.1 b.2.2.2.1 b.2.2.2.2.1 b.2.2.2.2.2 t g tu le sl ra hb hC hB
open Go.RowKit
def stF (b : Bool) (g : Int) : Int := if b = true then 0 else g
theorem kS {t g : Int} (b : Bool) (h : cQ t g = true) : cQ t (stF b g) = true := by
 cases b
 ·exact h
 ·show cQ t 0 = true
  unfold cQ at h ⊢
  rw [Bool.and_eq_true] at h ⊢
  exact ⟨h.1, by decide⟩
theorem kT (H : ac) (b : T6) (t g tu le sl ra : Int) (hb : bD b = true) (hC : cQ t g = true) (hB : cJ tu le sl ra = true) (h : imO b t g tu le sl = true) : ACalls Tryz.prog 84 [.agg [.int .i64 b.1, .int .i64 b.2.1, .int .i64 b.2.2.1, .int .i64 b.2.2.2.1, .int .i64 b.2.2.2.2.1, .int .i64 b.2.2.2.2.2], .agg [.int .i64 t, .int .i64 g], .agg [.int .i64 tu, .int .i64 le, .int .i64 sl, .int .i64 ra]] H (fun v H' => v = .tup [.agg [.int .i64 (imB b t g tu le sl).1, .int .i64 (imB b t g tu le sl).2.1, .int .i64 (imB b t g tu le sl).2.2.1, .int .i64 (imB b t g tu le sl).2.2.2.1, .int .i64 (imB b t g tu le sl).2.2.2.2.1, .int .i64 (imB b t g tu le sl).2.2.2.2.2], .int .i64 0] ∧ H' = H) := by
 have k := image_t H b t g tu le sl ra hb hC hB
 unfold imE mkV at k
 simp only [h, if_true] at k
 exact k
theorem image_n (H : ac) (b : T6) (t g tu le sl ra : Int) (hb : bD b = true) (hC : cQ t g = true) (hB : cJ tu le sl ra = true) (h : imO b t g tu le sl = false) : ACalls Tryz.prog 84 [.agg [.int .i64 b.1, .int .i64 b.2.1, .int .i64 b.2.2.1, .int .i64 b.2.2.2.1, .int .i64 b.2.2.2.2.1, .int .i64 b.2.2.2.2.2], .agg [.int .i64 t, .int .i64 g], .agg [.int .i64 tu, .int .i64 le, .int .i64 sl, .int .i64 ra]] H (fun v H' => v = .tup [.agg [.int .i64 0, .int .i64 0, .int .i64 0, .int .i64 0, .int .i64 0, .int .i64 0], .int .i64 2] ∧ H' = H) := by
 have k := image_t H b t g tu le sl ra hb hC hB
 unfold imE mkV at k
 simp only [h, Bool.false_eq_true, if_false] at k
 exact k
theorem imA_at {l : List T6} {t f tu le sl : Int} (h : imA l t f tu le sl = true) {j : Nat} (hj : j < l.length) : imO (g6 l j) t f tu le sl = true := List.all_eq_true.1 h _ (cL hj)
theorem imA_y {l : List T6} {t f tu le sl : Int} (h : ∀ j : Nat, j < l.length → imO (g6 l j) t f tu le sl = true) : imA l t f tu le sl = true := List.all_eq_true.2 fun b hb => by
 obtain ⟨j, hj, rfl⟩ := List.mem_iff_getElem.1 hb
 rw [← gu hj]; exact h j hj
theorem boxes_y (H : ac) (s : AV) (l : List T6) (t : Int) (g : Int) (tu : Int) (le : Int) (sl : Int) (ra : Int) (still : Bool) (hs : Sl H 6 s l.length (r6 l)) (hS : bP l = true) (hC : cQ t g = true) (hB : cJ tu le sl ra = true) (hA : imA l t (stF still g) tu le sl = true) : ACalls Tryz.prog 52 [s, .agg [.int .i64 t, .int .i64 g], .agg [.int .i64 tu, .int .i64 le, .int .i64 sl, .int .i64 ra], .bool still] H (fun v H' => v = .tup [.sl (some (H.length, 0)) ((imS l t (stF still g) tu le sl l.length).length) (bG (imS l t (stF still g) tu le sl l.length).length), .int .i64 0] ∧ H' = H ++ [.cells (bm (imS l t (stF still g) tu le sl l.length).length) 6 (r6 (imS l t (stF still g) tu le sl l.length))]) := by
 obtain ⟨bs, os, cs, rfl, hbs⟩ := hs
 have hbls := getElem?_lt hbs
 have hb0s := fun l => aw (l := l) hbs
 have hSS := bU.1 hS
 have hl16 := hSS.1
 have hC2 := kS still hC
 refine AcT true Tryz.func52 ?_; intro hbel Q hQ
 have g'1 := (jn @hbs (jn @hb0s (jn @hC @hB)))
 refine aa g'1 ?_
 refine aj (fun h1 => ?_) (fun h1 => ?_)
 ·have h1d := bsT h1
  have g'2 := (jn @h1 (jn @h1d g'1))
  refine aa g'2 ?_
  refine af (by kernel_rfl) (fJ _ t g) ?_
  refine aa g'2 ?_
  refine af (by kernel_rfl) (i8 _ tu le sl ra) ?_
  refine aa g'2 ?_
  refine go_loop try_mixed (by kernel_rfl) (fun k F Hx => ∃ i : Nat, i + k = l.length ∧ F = [(0, .sl (some (bs, 0)) l.length cs), (3, .bool still), (5, .ptr (some (H.length, 0))), (6, .ptr (some (H.length + 1, 0))), (30, .sl (some (bs, 0)) l.length cs), (31, .int .i64 ((l.length : Nat) : Int)), (32, .int .i64 ((i : Nat) : Int))] ∧ Hx = H ++ [.cells true 0 [.int .i64 t, .int .i64 g], .cells true 0 [.int .i64 tu, .int .i64 le, .int .i64 sl, .int .i64 ra]]) (l.length) ?_ ?_
  ·refine ⟨_, _, _, ⟨0, by omega, rfl, rfl⟩, Abs.byG hbel [] rfl [0, 1] (by decide) ?_⟩
   exact be
  ·rintro k0 F Hx ⟨i, hm0, rfl, rfl⟩ J0 hJ0
   refine aa g'2 ?_
   refine ai (fun h2 => ?_) (fun h2 => ?_)
   ·have h2d := bsT h2
    have hlt : i < l.length := by omega
    have q3 := dd (l := l) (j := i) (by omega)
    have g'3 := (jn @h2 (jn @h2d (jn @bV (jn @q3 g'2))))
    refine aa g'3 ?_
    refine af (by kernel_rfl) (eO _ (g61 l i) (g62 l i) (g63 l i) (g64 l i) (g65 l i) (g66 l i)) ?_
    refine aa g'3 ?_
    refine ai (fun h4 => ?_) (fun h4 => ?_)
    ·have h4d := bsT h4
     exact absurd ((show bD (g6 l i) = true from hSS.2 _ (cL hlt)).symm.trans h4d) (by decide)
    ·have h4d := bsT h4
     have g'4 := (jn @h4 (jn @h4d g'3))
     refine aa g'4 ?_
     refine hJ0 _ _ ⟨k0 - 1, by omega, _, _, _, ⟨i + 1, by omega, rfl, rfl⟩, Abs.byG hbel [] rfl [0, 1] (by decide) ?_⟩
     exact be
   ·have h2d := bsT h2
    obtain rfl : i = l.length := by omega
    have g'5 := (jn @h2 (jn @h2d g'2))
    refine aa g'5 ?_
    refine ai (fun h5 => ?_) (fun h5 => ?_)
    ·have h5d := bsT h5
     have hst0 : stF still g = 0 := by unfold stF; rw [h5d]; rfl
     rw [hst0] at hA hC2
     have g'6 := (jn @h5 (jn @h5d g'5))
     refine aa g'6 ?_
     refine go_loop try_mixed (by kernel_rfl) (fun k F Hx => ∃ i : Nat, i + k = l.length ∧ F = [(5, .ptr (some (H.length, 0))), (6, .ptr (some (H.length + 1, 0))), (12, .sl (some (H.length + 2, 0)) ((imS l t 0 tu le sl i).length) (bG (imS l t 0 tu le sl i).length)), (42, .sl (some (bs, 0)) l.length cs), (43, .int .i64 ((l.length : Nat) : Int)), (44, .int .i64 ((i : Nat) : Int))] ∧ Hx = H ++ [.cells true 0 [.int .i64 t, .int .i64 0], .cells true 0 [.int .i64 tu, .int .i64 le, .int .i64 sl, .int .i64 ra], .cells (bm (imS l t 0 tu le sl i).length) 6 (r6 (imS l t 0 tu le sl i))]) (l.length) ?_ ?_
     ·refine ⟨_, _, _, ⟨0, by omega, rfl, rfl⟩, Abs.byG hbel [.cells false 6 []] rfl [0, 1, 2] (by decide) ?_⟩
      exact aM (jn @imS.eq_1 (jn @bi (jn @bj (jn @bA @bt))))
     ·rintro k1 F Hx ⟨i, hm1, rfl, rfl⟩ J1 hJ1
      have hil0 := dI (l := l) (t := t) (f := 0) (tu := tu) (le := le) (sl := sl) i
      have g'7 := (jn @bV (jn @c9 g'6))
      refine aa g'7 ?_
      refine ai (fun h6 => ?_) (fun h6 => ?_)
      ·have h6d := bsT h6
       have hlt : i < l.length := by omega
       have hbv : bD (g6 l i) = true := hSS.2 _ (cL hlt)
       have hil := dI (l := l) (t := t) (f := 0) (tu := tu) (le := le) (sl := sl) i
       have q7 := dd (l := l) (j := i) (by omega)
       have g'8 := (jn @h6 (jn @h6d (jn @q7 g'7)))
       refine aa g'8 ?_
       rcases Bool.eq_false_or_eq_true (imO (g6 l i) t 0 tu le sl) with h8 | h8
       ·have h8d := h8
        refine af (by kernel_rfl) (kT _ (g6 l i) t 0 tu le sl ra (by assumption) (by assumption) (by assumption) (by assumption)) ?_
        have g'9 := (jn @h8 (jn @h8d (jn @bK (jn @d9 g'8))))
        refine aa g'9 ?_
        refine hJ1 _ _ ⟨k1 - 1, by omega, _, _, _, ⟨i + 1, by omega, rfl, rfl⟩, Abs.byG hbel [] rfl [0, 1, 6] (by decide) ?_⟩
        exact aM (jn @imS.eq_2 (jn @bi (jn @bj (jn @bA @bt))))
       ·have h8d := h8
        exact absurd ((imA_at hA hlt).symm.trans h8d) (by decide)
      ·have h6d := bsT h6
       obtain rfl : i = l.length := by omega
       have g'10 := (jn @h6 (jn @h6d g'7))
       refine aa g'10 ?_
       refine hQ _ _ (bB (.inl rfl) hbel (x1 := .tup [.sl (some (H.length + 2, 0)) ((imS l t 0 tu le sl l.length).length) (bG (imS l t 0 tu le sl l.length).length), .int .i64 0]) (l2 := [.cells (bm (imS l t 0 tu le sl l.length).length) 6 (r6 (imS l t 0 tu le sl l.length))]) (.tup [.sl (some (H.length, 0)) ((imS l t 0 tu le sl l.length).length) (bG (imS l t 0 tu le sl l.length).length), .int .i64 0]) (ag Tryz.results52) [] rfl [2] (by decide) ⟨by first | rfl | (rw [hst0]; done) | (rw [hst0]; rfl), by first | rfl | (rw [hst0]; done) | (rw [hst0]; rfl)⟩ ?_)
       exact bp @bt
    ·have h5d := bsT h5
     have hst0 : stF still g = g := by unfold stF; rw [h5d]; rfl
     rw [hst0] at hA hC2
     have g'11 := (jn @h5 (jn @h5d g'5))
     refine aa g'11 ?_
     refine go_loop try_mixed (by kernel_rfl) (fun k F Hx => ∃ i : Nat, i + k = l.length ∧ F = [(5, .ptr (some (H.length, 0))), (6, .ptr (some (H.length + 1, 0))), (12, .sl (some (H.length + 2, 0)) ((imS l t g tu le sl i).length) (bG (imS l t g tu le sl i).length)), (42, .sl (some (bs, 0)) l.length cs), (43, .int .i64 ((l.length : Nat) : Int)), (44, .int .i64 ((i : Nat) : Int))] ∧ Hx = H ++ [.cells true 0 [.int .i64 t, .int .i64 g], .cells true 0 [.int .i64 tu, .int .i64 le, .int .i64 sl, .int .i64 ra], .cells (bm (imS l t g tu le sl i).length) 6 (r6 (imS l t g tu le sl i))]) (l.length) ?_ ?_
     ·refine ⟨_, _, _, ⟨0, by omega, rfl, rfl⟩, Abs.byG hbel [.cells false 6 []] rfl [0, 1, 2] (by decide) ?_⟩
      exact aM (jn @imS.eq_1 (jn @bi (jn @bj (jn @bA @bt))))
     ·rintro k2 F Hx ⟨i, hm2, rfl, rfl⟩ J2 hJ2
      have hil0 := dI (l := l) (t := t) (f := g) (tu := tu) (le := le) (sl := sl) i
      have g'12 := (jn @bV (jn @c9 g'11))
      refine aa g'12 ?_
      refine ai (fun h9 => ?_) (fun h9 => ?_)
      ·have h9d := bsT h9
       have hlt : i < l.length := by omega
       have hbv : bD (g6 l i) = true := hSS.2 _ (cL hlt)
       have hil := dI (l := l) (t := t) (f := g) (tu := tu) (le := le) (sl := sl) i
       have q10 := dd (l := l) (j := i) (by omega)
       have g'13 := (jn @h9 (jn @h9d (jn @q10 g'12)))
       refine aa g'13 ?_
       rcases Bool.eq_false_or_eq_true (imO (g6 l i) t g tu le sl) with h11 | h11
       ·have h11d := h11
        refine af (by kernel_rfl) (kT _ (g6 l i) t g tu le sl ra (by assumption) (by assumption) (by assumption) (by assumption)) ?_
        have g'14 := (jn @h11 (jn @h11d (jn @bK (jn @d9 g'13))))
        refine aa g'14 ?_
        refine hJ2 _ _ ⟨k2 - 1, by omega, _, _, _, ⟨i + 1, by omega, rfl, rfl⟩, Abs.byG hbel [] rfl [0, 1, 6] (by decide) ?_⟩
        exact aM (jn @imS.eq_2 (jn @bi (jn @bj (jn @bA @bt))))
       ·have h11d := h11
        exact absurd ((imA_at hA hlt).symm.trans h11d) (by decide)
      ·have h9d := bsT h9
       obtain rfl : i = l.length := by omega
       have g'15 := (jn @h9 (jn @h9d g'12))
       refine aa g'15 ?_
       refine hQ _ _ (bB (.inl rfl) hbel (x1 := .tup [.sl (some (H.length + 2, 0)) ((imS l t g tu le sl l.length).length) (bG (imS l t g tu le sl l.length).length), .int .i64 0]) (l2 := [.cells (bm (imS l t g tu le sl l.length).length) 6 (r6 (imS l t g tu le sl l.length))]) (.tup [.sl (some (H.length, 0)) ((imS l t g tu le sl l.length).length) (bG (imS l t g tu le sl l.length).length), .int .i64 0]) (ag Tryz.results52) [] rfl [2] (by decide) ⟨by first | rfl | (rw [hst0]; done) | (rw [hst0]; rfl), by first | rfl | (rw [hst0]; done) | (rw [hst0]; rfl)⟩ ?_)
       exact bp @bt
 ·have h1d := bsT h1
  omega
theorem boxes_n (H : ac) (s : AV) (l : List T6) (t : Int) (g : Int) (tu : Int) (le : Int) (sl : Int) (ra : Int) (still : Bool) (hs : Sl H 6 s l.length (r6 l)) (hS : bP l = true) (hC : cQ t g = true) (hB : cJ tu le sl ra = true) (hA : imA l t (stF still g) tu le sl = false) : ACalls Tryz.prog 52 [s, .agg [.int .i64 t, .int .i64 g], .agg [.int .i64 tu, .int .i64 le, .int .i64 sl, .int .i64 ra], .bool still] H (fun v H' => v = .tup [.sl none 0 (some 0), .int .i64 2] ∧ H' = H) := by
 obtain ⟨bs, os, cs, rfl, hbs⟩ := hs
 have hbls := getElem?_lt hbs
 have hb0s := fun l => aw (l := l) hbs
 have hSS := bU.1 hS
 have hl16 := hSS.1
 have hC2 := kS still hC
 refine AcT true Tryz.func52 ?_; intro hbel Q hQ
 have g'16 := (jn @hbs (jn @hb0s (jn @hC @hB)))
 refine aa g'16 ?_
 refine aj (fun h1 => ?_) (fun h1 => ?_)
 ·have h1d := bsT h1
  have g'17 := (jn @h1 (jn @h1d g'16))
  refine aa g'17 ?_
  refine af (by kernel_rfl) (fJ _ t g) ?_
  refine aa g'17 ?_
  refine af (by kernel_rfl) (i8 _ tu le sl ra) ?_
  refine aa g'17 ?_
  refine go_loop try_mixed (by kernel_rfl) (fun k F Hx => ∃ i : Nat, i + k = l.length ∧ F = [(0, .sl (some (bs, 0)) l.length cs), (3, .bool still), (5, .ptr (some (H.length, 0))), (6, .ptr (some (H.length + 1, 0))), (30, .sl (some (bs, 0)) l.length cs), (31, .int .i64 ((l.length : Nat) : Int)), (32, .int .i64 ((i : Nat) : Int))] ∧ Hx = H ++ [.cells true 0 [.int .i64 t, .int .i64 g], .cells true 0 [.int .i64 tu, .int .i64 le, .int .i64 sl, .int .i64 ra]]) (l.length) ?_ ?_
  ·refine ⟨_, _, _, ⟨0, by omega, rfl, rfl⟩, Abs.byG hbel [] rfl [0, 1] (by decide) ?_⟩
   exact be
  ·rintro k0 F Hx ⟨i, hm0, rfl, rfl⟩ J0 hJ0
   refine aa g'17 ?_
   refine ai (fun h2 => ?_) (fun h2 => ?_)
   ·have h2d := bsT h2
    have hlt : i < l.length := by omega
    have q3 := dd (l := l) (j := i) (by omega)
    have g'18 := (jn @h2 (jn @h2d (jn @bV (jn @q3 g'17))))
    refine aa g'18 ?_
    refine af (by kernel_rfl) (eO _ (g61 l i) (g62 l i) (g63 l i) (g64 l i) (g65 l i) (g66 l i)) ?_
    refine aa g'18 ?_
    refine ai (fun h4 => ?_) (fun h4 => ?_)
    ·have h4d := bsT h4
     exact absurd ((show bD (g6 l i) = true from hSS.2 _ (cL hlt)).symm.trans h4d) (by decide)
    ·have h4d := bsT h4
     have g'19 := (jn @h4 (jn @h4d g'18))
     refine aa g'19 ?_
     refine hJ0 _ _ ⟨k0 - 1, by omega, _, _, _, ⟨i + 1, by omega, rfl, rfl⟩, Abs.byG hbel [] rfl [0, 1] (by decide) ?_⟩
     exact be
   ·have h2d := bsT h2
    obtain rfl : i = l.length := by omega
    have g'20 := (jn @h2 (jn @h2d g'17))
    refine aa g'20 ?_
    refine ai (fun h5 => ?_) (fun h5 => ?_)
    ·have h5d := bsT h5
     have hst0 : stF still g = 0 := by unfold stF; rw [h5d]; rfl
     rw [hst0] at hA hC2
     have g'21 := (jn @h5 (jn @h5d g'20))
     refine aa g'21 ?_
     refine go_loop try_mixed (by kernel_rfl) (fun k F Hx => ∃ i : Nat, i + k = l.length ∧ (∀ j : Nat, j < i → imO (g6 l j) t 0 tu le sl = true) ∧ F = [(5, .ptr (some (H.length, 0))), (6, .ptr (some (H.length + 1, 0))), (12, .sl (some (H.length + 2, 0)) ((imS l t 0 tu le sl i).length) (bG (imS l t 0 tu le sl i).length)), (42, .sl (some (bs, 0)) l.length cs), (43, .int .i64 ((l.length : Nat) : Int)), (44, .int .i64 ((i : Nat) : Int))] ∧ Hx = H ++ [.cells true 0 [.int .i64 t, .int .i64 0], .cells true 0 [.int .i64 tu, .int .i64 le, .int .i64 sl, .int .i64 ra], .cells (bm (imS l t 0 tu le sl i).length) 6 (r6 (imS l t 0 tu le sl i))]) (l.length) ?_ ?_
     ·refine ⟨_, _, _, ⟨0, by omega, fun j h => by omega, rfl, rfl⟩, Abs.byG hbel [.cells false 6 []] rfl [0, 1, 2] (by decide) ?_⟩
      exact aM (jn @imS.eq_1 (jn @bi (jn @bj (jn @bA @bt))))
     ·rintro k1 F Hx ⟨i, hm1, hall, rfl, rfl⟩ J1 hJ1
      have hil0 := dI (l := l) (t := t) (f := 0) (tu := tu) (le := le) (sl := sl) i
      have g'22 := (jn @bV (jn @c9 g'21))
      refine aa g'22 ?_
      refine ai (fun h6 => ?_) (fun h6 => ?_)
      ·have h6d := bsT h6
       have hlt : i < l.length := by omega
       have hbv : bD (g6 l i) = true := hSS.2 _ (cL hlt)
       have hil := dI (l := l) (t := t) (f := 0) (tu := tu) (le := le) (sl := sl) i
       have q7 := dd (l := l) (j := i) (by omega)
       have g'23 := (jn @h6 (jn @h6d (jn @q7 g'22)))
       refine aa g'23 ?_
       rcases Bool.eq_false_or_eq_true (imO (g6 l i) t 0 tu le sl) with h8 | h8
       ·have h8d := h8
        have hio := h8d
        refine af (by kernel_rfl) (kT _ (g6 l i) t 0 tu le sl ra (by assumption) (by assumption) (by assumption) (by assumption)) ?_
        have g'24 := (jn @h8 (jn @h8d (jn @bK (jn @d9 g'23))))
        refine aa g'24 ?_
        refine hJ1 _ _ ⟨k1 - 1, by omega, _, _, _, ⟨i + 1, by omega, fun j hj => by
              rcases Nat.lt_or_ge j i with hji | hji
              ·exact hall j hji
              ·rw [show j = i by omega]; exact hio, rfl, rfl⟩, Abs.byG hbel [] rfl [0, 1, 6] (by decide) ?_⟩
        exact aM (jn @imS.eq_2 (jn @bi (jn @bj (jn @bA @bt))))
       ·have h8d := h8
        refine af (by kernel_rfl) (image_n _ (g6 l i) t 0 tu le sl ra (by assumption) (by assumption) (by assumption) (by assumption)) ?_
        have g'25 := (jn @h8 (jn @h8d g'23))
        refine aa g'25 ?_
        exact hQ _ _ (ae (.inl rfl) hbel (x := .tup [.sl none 0 (some 0), .int .i64 2]) (ag Tryz.results52) rfl ⟨by first | rfl | (rw [hst0]; done) | (rw [hst0]; rfl), rfl⟩)
      ·have h6d := bsT h6
       obtain rfl : i = l.length := by omega
       exact absurd ((imA_y hall).symm.trans hA) (by decide)
    ·have h5d := bsT h5
     have hst0 : stF still g = g := by unfold stF; rw [h5d]; rfl
     rw [hst0] at hA hC2
     have g'26 := (jn @h5 (jn @h5d g'20))
     refine aa g'26 ?_
     refine go_loop try_mixed (by kernel_rfl) (fun k F Hx => ∃ i : Nat, i + k = l.length ∧ (∀ j : Nat, j < i → imO (g6 l j) t g tu le sl = true) ∧ F = [(5, .ptr (some (H.length, 0))), (6, .ptr (some (H.length + 1, 0))), (12, .sl (some (H.length + 2, 0)) ((imS l t g tu le sl i).length) (bG (imS l t g tu le sl i).length)), (42, .sl (some (bs, 0)) l.length cs), (43, .int .i64 ((l.length : Nat) : Int)), (44, .int .i64 ((i : Nat) : Int))] ∧ Hx = H ++ [.cells true 0 [.int .i64 t, .int .i64 g], .cells true 0 [.int .i64 tu, .int .i64 le, .int .i64 sl, .int .i64 ra], .cells (bm (imS l t g tu le sl i).length) 6 (r6 (imS l t g tu le sl i))]) (l.length) ?_ ?_
     ·refine ⟨_, _, _, ⟨0, by omega, fun j h => by omega, rfl, rfl⟩, Abs.byG hbel [.cells false 6 []] rfl [0, 1, 2] (by decide) ?_⟩
      exact aM (jn @imS.eq_1 (jn @bi (jn @bj (jn @bA @bt))))
     ·rintro k2 F Hx ⟨i, hm2, hall, rfl, rfl⟩ J2 hJ2
      have hil0 := dI (l := l) (t := t) (f := g) (tu := tu) (le := le) (sl := sl) i
      have g'27 := (jn @bV (jn @c9 g'26))
      refine aa g'27 ?_
      refine ai (fun h9 => ?_) (fun h9 => ?_)
      ·have h9d := bsT h9
       have hlt : i < l.length := by omega
       have hbv : bD (g6 l i) = true := hSS.2 _ (cL hlt)
       have hil := dI (l := l) (t := t) (f := g) (tu := tu) (le := le) (sl := sl) i
       have q10 := dd (l := l) (j := i) (by omega)
       have g'28 := (jn @h9 (jn @h9d (jn @q10 g'27)))
       refine aa g'28 ?_
       rcases Bool.eq_false_or_eq_true (imO (g6 l i) t g tu le sl) with h11 | h11
       ·have h11d := h11
        have hio := h11d
        refine af (by kernel_rfl) (kT _ (g6 l i) t g tu le sl ra (by assumption) (by assumption) (by assumption) (by assumption)) ?_
        have g'29 := (jn @h11 (jn @h11d (jn @bK (jn @d9 g'28))))
        refine aa g'29 ?_
        refine hJ2 _ _ ⟨k2 - 1, by omega, _, _, _, ⟨i + 1, by omega, fun j hj => by
              rcases Nat.lt_or_ge j i with hji | hji
              ·exact hall j hji
              ·rw [show j = i by omega]; exact hio, rfl, rfl⟩, Abs.byG hbel [] rfl [0, 1, 6] (by decide) ?_⟩
        exact aM (jn @imS.eq_2 (jn @bi (jn @bj (jn @bA @bt))))
       ·have h11d := h11
        refine af (by kernel_rfl) (image_n _ (g6 l i) t g tu le sl ra (by assumption) (by assumption) (by assumption) (by assumption)) ?_
        have g'30 := (jn @h11 (jn @h11d g'28))
        refine aa g'30 ?_
        exact hQ _ _ (ae (.inl rfl) hbel (x := .tup [.sl none 0 (some 0), .int .i64 2]) (ag Tryz.results52) rfl ⟨by first | rfl | (rw [hst0]; done) | (rw [hst0]; rfl), rfl⟩)
      ·have h9d := bsT h9
       obtain rfl : i = l.length := by omega
       exact absurd ((imA_y hall).symm.trans hA) (by decide)
 ·have h1d := bsT h1
  omega
open Go.RowKit
theorem way_mid {h m1 m m2 : Int} (h1 : m1 ≤ m) (h2 : m ≤ m2) : (mnI (cE h m1) (cE h m2) ≤ cE h m ∧ cE h m ≤ mxI (cE h m1) (cE h m2)) ∧ mnI (cF h m1) (cF h m2) ≤ cF h m ∧ cF h m ≤ mxI (cF h m1) (cF h m2) := by
 have hd : 1 ≤ (cB h).2.2 := (dq.1 (fW h)).1.1
 have key : ∀ a : Int, mnI (m1 * a / (cB h).2.2) (m2 * a / (cB h).2.2) ≤ m * a / (cB h).2.2 ∧ m * a / (cB h).2.2 ≤ mxI (m1 * a / (cB h).2.2) (m2 * a / (cB h).2.2) := fun a => by
  have n := ei (a := m1 * a / (cB h).2.2) (b := m2 * a / (cB h).2.2)
  have x := ej (a := m1 * a / (cB h).2.2) (b := m2 * a / (cB h).2.2)
  rcases Int.le_total 0 a with ha | ha
  ·have a1 := Int.ediv_le_ediv (show 0 < (cB h).2.2 by omega) (Int.mul_le_mul_of_nonneg_right h1 ha)
   have a2 := Int.ediv_le_ediv (show 0 < (cB h).2.2 by omega) (Int.mul_le_mul_of_nonneg_right h2 ha)
   omega
  ·have a1 := Int.ediv_le_ediv (show 0 < (cB h).2.2 by omega) (Int.mul_le_mul_of_nonpos_right h1 ha)
   have a2 := Int.ediv_le_ediv (show 0 < (cB h).2.2 by omega) (Int.mul_le_mul_of_nonpos_right h2 ha)
   omega
 exact ⟨key _, key _⟩
def wiC (f le sl dx dy h : Int) (j : Nat) : Bool := bZ (dx - cE h (mxI (f + (0 - le + (j : Int))) 0)) sl && bZ (dy - cF h (mxI (f + (0 - le + (j : Int))) 0)) sl
def wiA (f le sl dx dy h : Int) : Bool := (List.range (2 * le + 1).toNat).any (wiC f le sl dx dy h)
theorem wiA_y {f le sl dx dy h : Int} {j : Nat} (hj : (j : Int) ≤ 2 * le) (k : wiC f le sl dx dy h j = true) : wiA f le sl dx dy h = true := List.any_eq_true.2 ⟨j, List.mem_range.2 (by omega), k⟩
theorem wiA_n {f le sl dx dy h : Int} (k : ∀ j : Nat, (j : Int) ≤ 2 * le → wiC f le sl dx dy h j = false) : wiA f le sl dx dy h = false := by
 unfold wiA
 rw [List.any_eq_false]
 intro j hj
 rw [List.mem_range] at hj
 rw [k j (by omega)]; decide
def eL (tu le sl ra x y h t f u v w : Int) (st : Bool) : Bool := cJ tu le sl ra && (fL x y h && (cQ t f && (fL u v w && (bZ (delI ((((h + t) % 256).toNat : Nat) : Int) w) tu && (bif st || f == 0 then (u - x == 0) && (v - y == 0) else wiA f le sl (u - x) (v - y) w)))))
theorem wth_in {b : T6} {tu le sl ra x y h t f u v w : Int} {st : Bool} (hb : bD b = true) (hi : InP b x y h) (k : eL tu le sl ra x y h t f u v w st = true) : InP (imB b t (stF st f) tu le sl) u v w := by
 unfold eL at k
 simp only [Bool.and_eq_true] at k
 obtain ⟨kB, kp, kC, kq, kd, k⟩ := k
 simp only [cJ, Bool.and_eq_true, bu] at kB
 have kC2 := kS st kC
 have hp := bu.1 (fc.1 kp).2
 have hq := bu.1 (fc.1 kq).2
 rw [br] at kd
 have hb6 := bL.1 hb
 have hm := mark_in2 (t := t) (e := delI ((((h + t) % 256).toNat : Nat) : Int) w) (tu := tu) hb6.2.2 hi.2.2 hp (by omega) (by omega)
 have hw : nhI h t (delI ((((h + t) % 256).toNat : Nat) : Int) w) = w := by unfold nhI delI; split <;> omega
 rw [hw] at hm
 obtain ⟨j, hj, hjw⟩ := List.mem_iff_getElem.1 hm
 have hjg : gi (gI b.2.2.2.2.1 b.2.2.2.2.2 t tu) j = w := by rw [iN hj]; exact hjw
 have hr := rcS_has (f := stF st f) (le := le) (sl := sl) (L := gI b.2.2.2.2.1 b.2.2.2.2.2 t tu) hj
 rw [hjg] at hr
 have hR : (rqR (stF st f) le sl w).1 ≤ u - x ∧ u - x ≤ (rqR (stF st f) le sl w).2.2.1 ∧ (rqR (stF st f) le sl w).2.1 ≤ v - y ∧ v - y ≤ (rqR (stF st f) le sl w).2.2.2 := by
  by_cases h0 : stF st f = 0
  ·unfold rqR
   rw [if_pos h0]
   have hc : (st || f == 0) = true := by
    unfold stF at h0
    split at h0
    ·rename_i q; rw [q]; rfl
    ·rw [h0]; simp
   rw [hc, cond_true, Bool.and_eq_true, beq_iff_eq, beq_iff_eq] at k
   simp only; omega
  ·have hst : ¬ (st = true ∨ f = 0) := fun q => h0 (by
    unfold stF
    rcases q with q | q
    ·rw [if_pos q]
    ·split <;> first | rfl | exact q)
   have hf : stF st f = f := by unfold stF; rw [if_neg (fun q => hst (.inl q))]
   have hcf : (st || f == 0) = false := by
    cases hq : (st || f == 0) with
    | false => rfl
    | true =>
     rw [Bool.or_eq_true, beq_iff_eq] at hq
     exact absurd hq hst
   rw [hcf, cond_false] at k
   obtain ⟨i, hi, hc⟩ := List.any_eq_true.1 k
   rw [List.mem_range] at hi
   unfold wiC at hc
   rw [Bool.and_eq_true, br, br] at hc
   rw [hf] at h0 ⊢
   have hmid := way_mid (h := w) (m1 := mxI (f - le) 0) (m := mxI (f + (0 - le + (i : Int))) 0) (m2 := mxI (f + le) 0) (by unfold mxI; split <;> split <;> omega) (by unfold mxI; split <;> split <;> omega)
   have e1 : rqA f le w = cE w (mxI (f - le) 0) := rfl
   have e2 : rqB f le w = cE w (mxI (f + le) 0) := rfl
   have e3 : rqC f le w = cF w (mxI (f - le) 0) := rfl
   have e4 : rqD f le w = cF w (mxI (f + le) 0) := rfl
   unfold rqR
   rw [if_neg h0, e1, e2, e3, e4]
   simp only
   omega
 unfold InP at hi ⊢
 unfold imB
 have e0 : imR b t (stF st f) tu le sl = rcS (stF st f) le sl (gI b.2.2.2.2.1 b.2.2.2.2.2 t tu) (gI b.2.2.2.2.1 b.2.2.2.2.2 t tu).length := rfl
 simp only
 rw [e0]
 refine ⟨by omega, by omega, ?_⟩
 unfold dP
 have hin : w ∈ bl (grF (shF b.2.2.2.2.1 b.2.2.2.2.2 t) (cp b.2.2.2.2.2) tu) (grC (cp b.2.2.2.2.2) tu).toNat := hm
 unfold bl at hin
 obtain ⟨i, hir, hiw⟩ := List.mem_map.1 hin
 rw [List.mem_range] at hir
 have hg : 1 ≤ grC (cp b.2.2.2.2.2) tu ∧ grC (cp b.2.2.2.2.2) tu ≤ 256 := by
  have := bH.1 hb6.2.2
  unfold grC cp; split <;> split <;> omega
 omega
theorem wth_set {l : List T6} {tu le sl ra x y h t f u v w : Int} {st : Bool} (hv : ∀ b ∈ l, bD b = true) (hc : ∃ b ∈ l, InP b x y h) (k : eL tu le sl ra x y h t f u v w st = true) : ∃ b ∈ imS l t (stF st f) tu le sl l.length, InP b u v w := by
 obtain ⟨b, hb, hi⟩ := hc
 obtain ⟨j, hj, rfl⟩ := List.mem_iff_getElem.1 hb
 rw [← show g6 l j = l[j] from gu hj] at hi hb
 exact ⟨_, nv.2 ⟨j, hj, rfl⟩, wth_in (hv _ hb) hi k⟩
theorem imS_ok {l : List T6} {t f tu le sl : Int} (hv : ∀ b ∈ l, bD b = true) (hf : 0 ≤ f ∧ f ≤ 32) (hu : 0 ≤ tu ∧ tu ≤ 8) (hl : 0 ≤ le ∧ le ≤ 16) (hs : 0 ≤ sl ∧ sl ≤ 8) (hA : imA l t f tu le sl = true) : ∀ b ∈ imS l t f tu le sl l.length, bD b = true := fun b hb => by
 obtain ⟨j, hj, rfl⟩ := nv.1 hb
 exact imB_ok (hv _ (cL hj)) hf hu hl hs (List.all_eq_true.1 hA _ (cL hj))
open Go.RowKit
def stdB (W Hh : Int) (xs : List Int) (x y h : Int) : Bool := inpB W Hh xs x y && btw h 0 255
theorem lQ {W Hh : Int} {xs : List Int} {x y : Int} : inpB W Hh xs x y = (bW W Hh xs && (btw x 0 (64 * W) && btw y 0 (64 * Hh))) := by
 unfold inpB btw; simp only [Bool.and_assoc]
theorem we {px py vx vy vd : Int} {b : Int × Int} : fpN px py vx vy vd (some b) = peN px py vx vy vd b := rfl
theorem wg {px py vx vy vd : Int} {b : Int × Int} : fpD px py vx vy vd (some b) = peD px py vx vy vd b := rfl
theorem jg (H : ac) (n : Int) (lo : Int) (hi : Int) : ACalls Tryz.prog 82 [.int .i64 n, .int .i64 lo, .int .i64 hi] H (fun v H' => v = .bool (btw n lo hi) ∧ H' = H) := by
 refine AcT true Tryz.func82 ?_; intro hbel Q hQ
 refine aY ?_
 refine aj (fun h1 => ?_) (fun h1 => ?_)
 ·have h1d := bsT h1
  have g'1 := (jn @h1 @h1d)
  refine aa g'1 ?_
  exact hQ _ _ (aF (.inl rfl) hbel (x := .bool (decide (n ≤ hi))) (ag Tryz.results82) rfl ⟨by simp [btw, h1d], rfl⟩)
 ·have h1d := bsT h1
  have g'2 := (jn @h1 @h1d)
  refine aa g'2 ?_
  exact hQ _ _ (aF (.inl rfl) hbel (x := .bool false) (ag Tryz.results82) rfl ⟨by simp [btw, h1d], rfl⟩)
theorem dist_n (H : ac) (n0 : Nat) (d0 : Nat) (vx : Int) (vy : Int) (vd0 : Nat) (h1 : n0 ≤ 8388608) (h2 : 0 < d0) (h3 : d0 ≤ 67108864) (h4 : 0 < vd0) (h5 : vd0 ≤ 67108864) : ACalls Tryz.prog 191 [.agg [.int .i64 ((n0 : Nat) : Int), .int .i64 ((d0 : Nat) : Int)], .agg [.int .i64 vx, .int .i64 vy, .int .i64 ((vd0 : Nat) : Int)]] H (fun v H' => v = .agg [.int .i64 (Int.tdiv ((n0 * vd0 : Nat) : Int) ((Nat.gcd (n0 * vd0) d0 : Nat) : Int)), .int .i64 (Int.tdiv ((d0 : Nat) : Int) ((Nat.gcd (n0 * vd0) d0 : Nat) : Int))] ∧ H' = H) := by
 have hpm : ((n0 : Nat) : Int) * ((vd0 : Nat) : Int) = ((n0 * vd0 : Nat) : Int) := (Int.natCast_mul _ _).symm
 have hpb : n0 * vd0 ≤ 8388608 * 67108864 := Nat.mul_le_mul h1 h5
 have hgp : 0 < Nat.gcd (n0 * vd0) d0 := Nat.gcd_pos_of_pos_right _ h2
 have hgl : Nat.gcd (n0 * vd0) d0 ≤ d0 := Nat.gcd_le_right _ h2
 refine AcT true Tryz.func191 ?_; intro hbel Q hQ
 have g'3 := (jn @hpm @rem_nat)
 refine aa g'3 ?_
 refine go_loop try_mixed (by kernel_rfl) (fun k F Hx => ∃ a : Nat, ∃ b : Nat, b = k ∧ Nat.gcd a b = Nat.gcd (n0 * vd0) d0 ∧ F = [(4, .ptr (some (H.length, 0))), (5, .int .i64 ((n0 * vd0 : Nat) : Int)), (6, .int .i64 ((d0 : Nat) : Int)), (7, .int .i64 ((a : Nat) : Int)), (8, .int .i64 ((b : Nat) : Int))] ∧ Hx = H ++ [.cells true 0 [.int .i64 0, .int .i64 0]]) (d0) ?_ ?_
 ·refine ⟨_, _, _, ⟨n0 * vd0, d0, by omega, rfl, rfl, rfl⟩, Abs.byG hbel [] rfl [2] (by decide) ?_⟩
  exact be
 ·rintro k0 F Hx ⟨a, b, hm0, hG, rfl, rfl⟩ J0 hJ0
  refine aa g'3 ?_
  refine ai (fun h1 => ?_) (fun h1 => ?_)
  ·have h1d := bsT h1
   have hlt : a % b < b := Nat.mod_lt _ (by omega)
   have g'4 := (jn @h1 (jn @h1d (jn @aU (jn @aT g'3))))
   refine aa g'4 ?_
   refine hJ0 _ _ ⟨a % b, by omega, _, _, _, ⟨b, a % b, by omega, by rw [← hG, lA], rfl, rfl⟩, Abs.byG hbel [] rfl [0] (by decide) ?_⟩
   exact bp @h1d
  ·have h1d := bsT h1
   obtain rfl : b = 0 := by omega
   rw [Nat.gcd_zero_right] at hG
   have hfing := hG
   have ht1 := fX (a := ((n0 * vd0 : Nat) : Int)) (b := ((a : Nat) : Int)) (by omega) (by omega)
   have ht2 := fX (a := ((d0 : Nat) : Int)) (b := ((a : Nat) : Int)) (by omega) (by omega)
   have g'5 := (jn @h1 (jn @h1d (jn @aU (jn @aT g'3))))
   refine aa g'5 ?_
   refine ai (fun h2 => ?_) (fun h2 => ?_)
   ·have h2d := bsT h2
    omega
   ·have h2d := bsT h2
    have g'6 := (jn @h2 (jn @h2d g'5))
    refine aa g'6 ?_
    exact hQ _ _ (ae (.inl rfl) hbel (x := .agg [.int .i64 (Int.tdiv ((n0 * vd0 : Nat) : Int) ((a : Nat) : Int)), .int .i64 (Int.tdiv ((d0 : Nat) : Int) ((a : Nat) : Int))]) (ag Tryz.results191) rfl ⟨by rw [hfing], rfl⟩)
theorem dist_x (H : ac) (n d vx vy vd : Int) (hn : 0 ≤ n ∧ n ≤ 8388608) (hd : 0 < d ∧ d ≤ 67108864) (hv : 0 < vd ∧ vd ≤ 67108864) : ACalls Tryz.prog 191 [.agg [.int .i64 n, .int .i64 d], .agg [.int .i64 vx, .int .i64 vy, .int .i64 vd]] H (fun v H' => v = .agg [.int .i64 (lwN (n * vd) d), .int .i64 (lwD (n * vd) d)] ∧ H' = H) := by
 obtain ⟨a, rfl⟩ := Int.eq_ofNat_of_zero_le hn.1
 obtain ⟨b, rfl⟩ := Int.eq_ofNat_of_zero_le (Int.le_of_lt hd.1)
 obtain ⟨c, rfl⟩ := Int.eq_ofNat_of_zero_le (Int.le_of_lt hv.1)
 have k := dist_n H a b vx vy c (by omega) (by omega) (by omega) (by omega) (by omega)
 have hl := lw_tdiv (n := ((a : Nat) : Int) * ((c : Nat) : Int)) (d := ((b : Nat) : Int)) (Int.mul_nonneg (by omega) (by omega)) (by omega)
 have e : Int.gcd (((a : Nat) : Int) * ((c : Nat) : Int)) ((b : Nat) : Int) = Nat.gcd (a * c) b := by
  rw [← Int.natCast_mul]; rfl
 rw [e] at hl
 rw [← hl.1, ← hl.2]
 exact k
theorem ent_c (H : ac) (px : Int) (py : Int) (vx : Int) (vy : Int) (vd : Int) (x0 : Int) (y0 : Int) (x1 : Int) (y1 : Int) (ho : thO px py vx vy vd x0 y0 x1 y1 = true) : ACalls Tryz.prog 157 [.agg [.int .i64 px, .int .i64 py], .agg [.int .i64 vx, .int .i64 vy, .int .i64 vd], .agg [.int .i64 x0, .int .i64 y0, .int .i64 x1, .int .i64 y1]] H (fun v H' => v = .tup [.agg [.int .i64 (lwN ((thS px py vx vy x0 y0 x1 y1).1.1 * vd) (thS px py vx vy x0 y0 x1 y1).1.2), .int .i64 (lwD ((thS px py vx vy x0 y0 x1 y1).1.1 * vd) (thS px py vx vy x0 y0 x1 y1).1.2)], .bool true] ∧ H' = H) := by
 refine AcT true Tryz.func157 ?_; intro hbel Q hQ
 refine aY ?_
 rcases Bool.eq_false_or_eq_true (thO px py vx vy vd x0 y0 x1 y1) with h1 | h1
 ·have h1d := h1
  have hgT := (iP ho).1
  have hbS := (kh hgT).2
  obtain ⟨⟨hb1, hb2⟩, hb3, hb4⟩ := hbS
  have hvT := bh.1 (cA.1 hgT).2.1
  have hn0 := ((kJ gC.1 (iP ho).2).1 (th_lo (eF hgT).2 (iP ho).2)).1.1
  refine af (by kernel_rfl) (ki _ px py vx vy vd x0 y0 x1 y1 (by assumption)) ?_
  have g'7 := (jn @h1 @h1d)
  refine aa g'7 ?_
  refine af (by kernel_rfl) (dist_x _ ((thS px py vx vy x0 y0 x1 y1).1.1) ((thS px py vx vy x0 y0 x1 y1).1.2) vx vy vd (by omega) (by omega) (by omega)) ?_
  refine aa g'7 ?_
  exact hQ _ _ (ae (.inl rfl) hbel (x := .tup [.agg [.int .i64 (lwN (((thS px py vx vy x0 y0 x1 y1).1.1) * vd) ((thS px py vx vy x0 y0 x1 y1).1.2)), .int .i64 (lwD (((thS px py vx vy x0 y0 x1 y1).1.1) * vd) ((thS px py vx vy x0 y0 x1 y1).1.2))], .bool true]) (ag Tryz.results157) rfl ⟨rfl, rfl⟩)
 ·have h1d := h1
  exact absurd (ho.symm.trans h1d) (by decide)
theorem entC_t (H : ac) (px py vx vy vd cx cy : Int) (h : onC px py vx vy vd (cx, cy) = true) : ACalls Tryz.prog 157 [.agg [.int .i64 px, .int .i64 py], .agg [.int .i64 vx, .int .i64 vy, .int .i64 vd], .agg [.int .i64 (cx * 64), .int .i64 (cy * 64), .int .i64 (cx * 64 + 64), .int .i64 (cy * 64 + 64)]] H (fun v H' => v = .tup [.agg [.int .i64 (peN px py vx vy vd (cx, cy)), .int .i64 (peD px py vx vy vd (cx, cy))], .bool true] ∧ H' = H) := ent_c H px py vx vy vd (cx * 64) (cy * 64) (cx * 64 + 64) (cy * 64 + 64) h
theorem rpin_c (H : ac) (W : Int) (Hh : Int) (pp : AV) (xs : List Int) (x : Int) (y : Int) (hpp : Sl H 1 pp xs.length (ints .u8 xs)) : ACalls Tryz.prog 114 [.agg [.int .i64 W, .int .i64 Hh, pp], .agg [.int .i64 x, .int .i64 y]] H (fun v H' => v = .bool (inpB W Hh xs x y) ∧ H' = H) := by
 obtain ⟨bpp, opp, cpp, rfl, hbpp⟩ := hpp
 have hblpp := getElem?_lt hbpp
 have hb0pp := fun l => aw (l := l) hbpp
 refine AcT true Tryz.func114 ?_; intro hbel Q hQ
 have g'8 := (jn @hbpp @hb0pp)
 refine aa g'8 ?_
 refine af (by kernel_rfl) (gb _ W Hh _ xs (.inr ⟨_, _, _, rfl, by first | exact hb0pp _ | exact hbpp⟩)) ?_
 refine aa g'8 ?_
 refine aj (fun h1 => ?_) (fun h1 => ?_)
 ·have h1d := bsT h1
  have hVV := bM.1 h1d
  have hw1 := hVV.w1
  have hw0 := hVV.w0
  have hh1 := hVV.h1
  have hh0 := hVV.h0
  have g'9 := (jn @h1 (jn @h1d g'8))
  refine aa g'9 ?_
  refine af (by kernel_rfl) (jg _ x 0 (64 * W)) ?_
  refine aa g'9 ?_
  refine aj (fun h2 => ?_) (fun h2 => ?_)
  ·have h2d := bsT h2
   have g'10 := (jn @h2 (jn @h2d g'9))
   refine aa g'10 ?_
   refine af (by kernel_rfl) (jg _ y 0 (64 * Hh)) ?_
   refine aa g'10 ?_
   exact hQ _ _ (ae (.inl rfl) hbel (x := .bool (btw y 0 (64 * Hh))) (ag Tryz.results114) rfl ⟨by rw [lQ]; simp [h1d, h2d], rfl⟩)
  ·have h2d := bsT h2
   have g'11 := (jn @h2 (jn @h2d g'9))
   refine aa g'11 ?_
   exact hQ _ _ (ae (.inl rfl) hbel (x := .bool false) (ag Tryz.results114) rfl ⟨by rw [lQ]; simp [h1d, h2d], rfl⟩)
 ·have h1d := bsT h1
  have g'12 := (jn @h1 (jn @h1d g'8))
  refine aa g'12 ?_
  exact hQ _ _ (ae (.inl rfl) hbel (x := .bool false) (ag Tryz.results114) rfl ⟨by rw [lQ]; simp [h1d], rfl⟩)
theorem rpst_c (H : ac) (W : Int) (Hh : Int) (pp : AV) (xs : List Int) (x : Int) (y : Int) (h : Int) (hpp : Sl H 1 pp xs.length (ints .u8 xs)) : ACalls Tryz.prog 80 [.agg [.int .i64 W, .int .i64 Hh, pp], .agg [.int .i64 x, .int .i64 y, .int .i64 h]] H (fun v H' => v = .bool (stdB W Hh xs x y h) ∧ H' = H) := by
 obtain ⟨bpp, opp, cpp, rfl, hbpp⟩ := hpp
 have hblpp := getElem?_lt hbpp
 have hb0pp := fun l => aw (l := l) hbpp
 refine AcT true Tryz.func80 ?_; intro hbel Q hQ
 have g'13 := (jn @hbpp @hb0pp)
 refine aa g'13 ?_
 refine af (by kernel_rfl) (rpin_c _ W Hh _ xs x y ⟨_, _, _, rfl, by first | exact hb0pp _ | exact hbpp⟩) ?_
 refine aa g'13 ?_
 refine aj (fun h1 => ?_) (fun h1 => ?_)
 ·have h1d := bsT h1
  have g'14 := (jn @h1 (jn @h1d g'13))
  refine aa g'14 ?_
  refine af (by kernel_rfl) (jg _ h 0 255) ?_
  refine aa g'14 ?_
  exact hQ _ _ (ae (.inl rfl) hbel (x := .bool (btw h 0 255)) (ag Tryz.results80) rfl ⟨by first | (simp [stdB, h1d]; done) | (unfold stdB; simp [h1d]; done), rfl⟩)
 ·have h1d := bsT h1
  have g'15 := (jn @h1 (jn @h1d g'13))
  refine aa g'15 ?_
  exact hQ _ _ (ae (.inl rfl) hbel (x := .bool false) (ag Tryz.results80) rfl ⟨by first | (simp [stdB, h1d]; done) | (unfold stdB; simp [h1d]; done), rfl⟩)
theorem first_c (H : ac) (W : Int) (Hh : Int) (pp : AV) (xs : List Int) (px : Int) (py : Int) (vx : Int) (vy : Int) (vd : Int) (most : Int) (hpp : Sl H 1 pp xs.length (ints .u8 xs)) (hi : inpB W Hh xs px py = true) (hv : cZ vx vy vd = true) (hm : 0 ≤ most ∧ most ≤ 1056) : ACalls Tryz.prog 115 [.agg [.int .i64 W, .int .i64 Hh, pp], .agg [.int .i64 px, .int .i64 py], .agg [.int .i64 vx, .int .i64 vy, .int .i64 vd], .int .i64 most] H (fun v H' => v = .tup [.agg [.int .i64 (fpN px py vx vy vd (fpZ W Hh xs px py vx vy vd most)), .int .i64 (fpD px py vx vy vd (fpZ W Hh xs px py vx vy vd most))], .agg [.int .i64 (oX (fpZ W Hh xs px py vx vy vd most)), .int .i64 (oY (fpZ W Hh xs px py vx vy vd most))], .bool ((fpZ W Hh xs px py vx vy vd most).isSome)] ∧ H' = H) := by
 obtain ⟨bpp, opp, cpp, rfl, hbpp⟩ := hpp
 have hblpp := getElem?_lt hbpp
 have hb0pp := fun l => aw (l := l) hbpp
 have hV := (iD.1 hi).1
 have hVV := bM.1 hV
 have hw1 := hVV.w1
 have hw0 := hVV.w0
 have hh1 := hVV.h1
 have hh0 := hVV.h0
 have hbb1 := (iD.1 hi).2
 have hte : ((trE px py vx vy vd 0 most) != 0) = false := by rw [(trE_0 (ge.2 (by omega)) hv (by omega)).1]; rfl
 have htl := jc px py vx vy vd 0 most
 (refine bT Tryz.func115 _ rfl (Nat.le_of_ble_eq_true (by kernel_rfl)) rfl ?_; intro hbel Q hQ hQ' c hc; unfold Tryz.f115 at hc; simp only [Option.some.injEq] at hc; subst hc; clear hQ')
 refine aQ fun Q1 hn1 hr1 he1 => ?_
 have hQ1 := fun F H' h => hr1 F H' (hQ F H' h)
 refine aL true try_mixed (by kernel_rfl) ?_
 have g'16 := (jn @hbpp (jn @hb0pp (jn @hi @hte)))
 refine aa g'16 ?_
 refine hn1 _ _ ?_
 refine aQ fun Q2 hn2 hr2 he2 => ?_
 have hQ2 := fun F H' h => hr2 F H' (hQ F H' h)
 refine aL true try_mixed (by kernel_rfl) ?_
 refine aa g'16 ?_
 refine af (by kernel_rfl) (rpin_c _ W Hh _ xs px py ⟨_, _, _, rfl, by first | exact hb0pp _ | exact hbpp⟩) ?_
 refine aa g'16 ?_
 refine hn2 _ _ ?_
 refine aQ fun Q3 hn3 hr3 he3 => ?_
 have hQ3 := fun F H' h => hr3 F H' (hQ F H' h)
 refine aL true try_mixed (by kernel_rfl) ?_
 refine aa g'16 ?_
 refine af (by kernel_rfl) (jx _ px py vx vy vd 0 most) ?_
 refine aa g'16 ?_
 refine hn3 _ _ ?_
 refine aQ fun Q4 hn4 hr4 he4 => ?_
 have hQ4 := fun F H' h => hr4 F H' (hQ F H' h)
 refine aL true try_mixed (by kernel_rfl) ?_
 refine aa g'16 ?_
 refine hn4 _ _ ?_
 refine aQ fun Q5 hn5 hr5 he5 => ?_
 have hQ5 := fun F H' h => hr5 F H' (hQ F H' h)
 refine aL true try_mixed (by kernel_rfl) ?_
 refine aa g'16 ?_
 refine hn5 _ _ ?_
 refine aQ fun Q6 hn6 hr6 he6 => ?_
 have hQ6 := fun F H' h => hr6 F H' (hQ F H' h)
 refine aL true try_mixed (by kernel_rfl) ?_
 refine aa g'16 ?_
 refine hn6 _ _ ?_
 refine aQ fun Q7 hn7 hr7 he7 => ?_
 have hQ7 := fun F H' h => hr7 F H' (hQ F H' h)
 refine aL true try_mixed (by kernel_rfl) ?_
 refine aa g'16 ?_
 refine hn7 _ _ ?_
 refine aQ fun Q8 hn8 hr8 he8 => ?_
 have hQ8 := fun F H' h => hr8 F H' (hQ F H' h)
 refine aQ fun Q9 hn9 hr9 he9 => ?_
 have hQ9 := fun F H' h => hr9 F H' (hQ8 F H' h)
 refine aL true try_mixed (by kernel_rfl) ?_
 refine aa g'16 ?_
 refine hn9 _ _ ?_
 refine dX fun Q10 hn10 hr10 he10 hb10 => ?_
 have hQ10 := fun F H' h => hr10 F H' (hQ8 F H' h)
 refine lz (fun k F Hx => ∃ i : Nat, i + k = (trL px py vx vy vd 0 most).length ∧ F = [(4, .ptr (some (H.length, 0))), (5, .ptr (some (H.length + 1, 0))), (6, .ptr (some (H.length + 2, 0))), (8, .ptr (some (H.length + 3, 0))), (9, .ptr (some (H.length + 4, 0))), (13, .ptr (some (H.length + 6, 0))), (14, .ptr (some (H.length + 7, 0))), (15, .bool ((fpA W Hh xs px py vx vy vd most i).isSome)), (39, .sl (some (H.length + 5, 0)) ((trL px py vx vy vd 0 most).length) (bG (trL px py vx vy vd 0 most).length)), (40, .int .i64 (((trL px py vx vy vd 0 most).length : Nat) : Int)), (41, .int .i64 ((i : Nat) : Int))] ∧ Hx = H ++ [.cells true 0 [.int .i64 W, .int .i64 Hh, .sl (some (bpp, 0)) xs.length cpp], .cells true 0 [.int .i64 px, .int .i64 py], .cells true 0 [.int .i64 vx, .int .i64 vy, .int .i64 vd], .cells true 0 [.int .i64 0, .int .i64 0], .cells true 0 [.int .i64 0, .int .i64 0], .cells (bm (trL px py vx vy vd 0 most).length) 2 (prs (trL px py vx vy vd 0 most)), .cells true 0 [.int .i64 (fpN px py vx vy vd (fpA W Hh xs px py vx vy vd most i)), .int .i64 (fpD px py vx vy vd (fpA W Hh xs px py vx vy vd most i))], .cells true 0 [.int .i64 (oX (fpA W Hh xs px py vx vy vd most i)), .int .i64 (oY (fpA W Hh xs px py vx vy vd most i))]]) ((trL px py vx vy vd 0 most).length) ?_ ?_
 ·refine ⟨_, _, _, ⟨0, by omega, rfl, rfl⟩, Abs.byG hbel [] rfl [0, 1, 2, 3, 4, 5, 6, 7] (by decide) ?_⟩
  exact aM (jn @fpA_0 (jn @fpN.eq_1 (jn @fpD.eq_1 (jn @oX.eq_1 (jn @oY.eq_1 @Option.isSome_none.{0})))))
 ·rintro k0 F Hx ⟨i, hm0, rfl, rfl⟩ Q11 hJ0 hr11 he11
  have hQ11 := fun F H' h => hr11 F H' (hQ10 F H' h)
  refine aQ fun Q12 hn12 hr12 he12 => ?_
  have hQ12 := fun F H' h => hr12 F H' (hQ11 F H' h)
  refine aL true try_mixed (by kernel_rfl) ?_
  have g'17 := (jn @bK (jn @cO g'16))
  refine aa g'17 ?_
  refine hn12 _ _ ?_
  refine aQ fun Q13 hn13 hr13 he13 => ?_
  have hQ13 := fun F H' h => hr13 F H' (hQ11 F H' h)
  refine aL true try_mixed (by kernel_rfl) ?_
  refine aa g'17 ?_
  refine ai (fun h1 => ?_) (fun h1 => ?_)
  ·have h1d := bsT h1
   have hlt : i < (trL px py vx vy vd 0 most).length := by omega
   have hcm := List.getElem_mem hlt
   rw [← cw hlt] at hcm
   have hme := (gm (v := (vx, vy, vd)) (by omega) (by omega) hv ⟨hm.1, by omega⟩).1 hcm
   have hco := (me_on hme)
   have hon : onC px py vx vy vd (g1 (trL px py vx vy vd 0 most) i, g2 (trL px py vx vy vd 0 most) i) = true := hco.1
   have hcp := kR hon
   have hcl : peN px py vx vy vd (g1 (trL px py vx vy vd 0 most) i, g2 (trL px py vx vy vd 0 most) i) ≤ most * peD px py vx vy vd (g1 (trL px py vx vy vd 0 most) i, g2 (trL px py vx vy vd 0 most) i) := hco.2
   have hcb : peN px py vx vy vd (g1 (trL px py vx vy vd 0 most) i, g2 (trL px py vx vy vd 0 most) i) ≤ 70866960384 := by have q := Int.mul_le_mul hm.2 hcp.2.2.1 (Int.le_of_lt hcp.2.1) (by decide); omega
   have hcn := nu hme
   simp only at hcn
   have hsq : sqO (g1 (trL px py vx vy vd 0 most) i) (g2 (trL px py vx vy vd 0 most) i) = true := by unfold sqO; rw [br.2 (by omega), br.2 (by omega)]; rfl
   have g'18 := (jn @h1 (jn @h1d g'17))
   refine aa g'18 ?_
   refine hn13 _ _ ?_
   refine aQ fun Q14 hn14 hr14 he14 => ?_
   have hQ14 := fun F H' h => hr14 F H' (hQ11 F H' h)
   refine dX fun Q15 hn15 hr15 he15 hb15 => ?_
   have hQ15 := fun F H' h => hr15 F H' (hQ14 F H' h)
   refine aQ fun Q16 hn16 hr16 he16 => ?_
   have hQ16 := fun F H' h => hr16 F H' (hQ15 F H' h)
   refine aL true try_mixed (by kernel_rfl) ?_
   have q2 := cI (l := trL px py vx vy vd 0 most) (j := i) (by omega)
   have g'19 := (jn @q2 g'18)
   refine aa g'19 ?_
   refine hn16 _ _ ?_
   refine aQ fun Q17 hn17 hr17 he17 => ?_
   have hQ17 := fun F H' h => hr17 F H' (hQ15 F H' h)
   refine aL true try_mixed (by kernel_rfl) ?_
   refine aa g'19 ?_
   refine af (by kernel_rfl) (pat_c _ W Hh _ xs (g1 (trL px py vx vy vd 0 most) i) (g2 (trL px py vx vy vd 0 most) i) ⟨_, _, _, rfl, by first | exact hb0pp _ | exact hbpp⟩ hV) ?_
   refine aa g'19 ?_
   refine ai (fun h3 => ?_) (fun h3 => ?_)
   ·have h3d := bsT h3
    have h3n := bnT h3
    have hst : fpA W Hh xs px py vx vy vd most (i + 1) = fpA W Hh xs px py vx vy vd most i := (fpA_s hlt).trans (fsStep_no (by unfold wlB; exact beq_eq_false_iff_ne.2 (by first | exact h3d | simpa using h3d)))
    have hs1 := hst
    have hs2 := hst
    have hs3 := hst
    have g'20 := (jn @h3 (jn @h3n (jn @aU (jn @aT g'19))))
    refine aa g'20 ?_
    refine he17 _ _ _ ?_
    refine hb15 _ _ ?_
    refine hn14 _ _ ?_
    refine aL true try_mixed (by kernel_rfl) ?_
    refine aa g'20 ?_
    refine hJ0 _ _ ⟨k0 - 1, by omega, _, _, _, ⟨i + 1, by omega, rfl, rfl⟩, Abs.byG hbel [] rfl [0, 1, 2, 3, 4, 5, 6, 7] (by decide) ?_⟩
    exact aM (jn @hst (jn @hs1 (jn @hs2 (jn @hs3 (jn @oX.eq_2 (jn @oY.eq_2 @Option.isSome_some.{0}))))))
   ·have h3d := bsT h3
    have h3n := bnT h3
    have hat : atI W Hh xs (g1 (trL px py vx vy vd 0 most) i) (g2 (trL px py vx vy vd 0 most) i) = 2 := by first | exact h3d | simpa using h3d
    have hQ : wlB W Hh xs (g1 (trL px py vx vy vd 0 most) i, g2 (trL px py vx vy vd 0 most) i) = true := by unfold wlB; rw [hat]; rfl
    have g'21 := (jn @h3 (jn @h3n (jn @aU (jn @aT g'19))))
    refine aa g'21 ?_
    refine hn17 _ _ ?_
    refine aQ fun Q18 hn18 hr18 he18 => ?_
    have hQ18 := fun F H' h => hr18 F H' (hQ15 F H' h)
    refine aL true try_mixed (by kernel_rfl) ?_
    refine aa g'21 ?_
    rcases Bool.eq_false_or_eq_true (sqO (g1 (trL px py vx vy vd 0 most) i) (g2 (trL px py vx vy vd 0 most) i)) with h4 | h4
    ·have h4d := h4
     refine af (by kernel_rfl) (psqr_t _ (g1 (trL px py vx vy vd 0 most) i) (g2 (trL px py vx vy vd 0 most) i) (by assumption)) ?_
     have g'22 := (jn @h4 (jn @h4d g'21))
     refine aa g'22 ?_
     refine hn18 _ _ ?_
     refine aQ fun Q19 hn19 hr19 he19 => ?_
     have hQ19 := fun F H' h => hr19 F H' (hQ15 F H' h)
     refine aL true try_mixed (by kernel_rfl) ?_
     refine aa g'22 ?_
     refine af (by kernel_rfl) (entC_t _ px py vx vy vd (g1 (trL px py vx vy vd 0 most) i) (g2 (trL px py vx vy vd 0 most) i) (by assumption)) ?_
     refine aa g'22 ?_
     refine hn19 _ _ ?_
     refine aQ fun Q20 hn20 hr20 he20 => ?_
     have hQ20 := fun F H' h => hr20 F H' (hQ15 F H' h)
     refine aL true try_mixed (by kernel_rfl) ?_
     refine aa g'22 ?_
     refine aj (fun h5 => ?_) (fun h5 => ?_)
     ·have h5d := bsT h5
      obtain ⟨bb, hbb⟩ := Option.isSome_iff_exists.1 h5d
      have hbm := fpA_mem hbb
      have hbo := me_on ((gm (v := (vx, vy, vd)) (by omega) (by omega) hv ⟨hm.1, by omega⟩).1 hbm.1)
      have hbp := kR (px := px) (py := py) (vx := vx) (vy := vy) (vd := vd) (c := bb) hbo.1
      have hbl : peN px py vx vy vd bb ≤ most * peD px py vx vy vd bb := hbo.2
      have hn1 : fpN px py vx vy vd (fpA W Hh xs px py vx vy vd most i) = peN px py vx vy vd bb := by rw [hbb]; rfl
      have hn2 : fpD px py vx vy vd (fpA W Hh xs px py vx vy vd most i) = peD px py vx vy vd bb := by rw [hbb]; rfl
      have hsm := h5d
      have hb9 : 0 ≤ fpN px py vx vy vd (fpA W Hh xs px py vx vy vd most i) ∧ fpN px py vx vy vd (fpA W Hh xs px py vx vy vd most i) ≤ 70866960384 := by rw [hn1]; have q := Int.mul_le_mul hm.2 hbp.2.2.1 (Int.le_of_lt hbp.2.1) (by decide); omega
      have hb8 : 0 ≤ fpD px py vx vy vd (fpA W Hh xs px py vx vy vd most i) ∧ fpD px py vx vy vd (fpA W Hh xs px py vx vy vd most i) ≤ 67108864 := by rw [hn2]; omega
      have hm8 := bS (a := peN px py vx vy vd (g1 (trL px py vx vy vd 0 most) i, g2 (trL px py vx vy vd 0 most) i)) (b := fpD px py vx vy vd (fpA W Hh xs px py vx vy vd most i)) (A := 70866960384) (B := 67108864) (by omega) (by omega)
      have hm9 := bS (a := fpN px py vx vy vd (fpA W Hh xs px py vx vy vd most i)) (b := peD px py vx vy vd (g1 (trL px py vx vy vd 0 most) i, g2 (trL px py vx vy vd 0 most) i)) (A := 70866960384) (B := 67108864) (by omega) (by omega)
      have g'23 := (jn @h5 (jn @h5d g'22))
      refine aa g'23 ?_
      refine hn20 _ _ ?_
      refine fz (decide (((peN px py vx vy vd (g1 (trL px py vx vy vd 0 most) i, g2 (trL px py vx vy vd 0 most) i)) * (fpD px py vx vy vd (fpA W Hh xs px py vx vy vd most i))) < ((fpN px py vx vy vd (fpA W Hh xs px py vx vy vd most i)) * (peD px py vx vy vd (g1 (trL px py vx vy vd 0 most) i, g2 (trL px py vx vy vd 0 most) i))))) (by rfl) (fun h6 => ?_) (fun h6 => ?_)
      ·have h6d := bsT h6
       have hst : fpA W Hh xs px py vx vy vd most (i + 1) = some (g1 (trL px py vx vy vd 0 most) i, g2 (trL px py vx vy vd 0 most) i) := (fpA_s hlt).trans (by rw [hbb]; exact wE hQ (show peN px py vx vy vd (g1 (trL px py vx vy vd 0 most) i, g2 (trL px py vx vy vd 0 most) i) * peD px py vx vy vd bb < peN px py vx vy vd bb * peD px py vx vy vd (g1 (trL px py vx vy vd 0 most) i, g2 (trL px py vx vy vd 0 most) i) by rw [← hn1, ← hn2]; exact h6d))
       have hs1 := @we px py vx vy vd (g1 (trL px py vx vy vd 0 most) i, g2 (trL px py vx vy vd 0 most) i)
       have hs2 := @wg px py vx vy vd (g1 (trL px py vx vy vd 0 most) i, g2 (trL px py vx vy vd 0 most) i)
       have hs3 := hst
       refine gw true try_mixed [[0, 1, 2, 3, 4], [0, 2, 1, 3, 4]] (by kernel_rfl) (fun F2 H2 => F2 = [(4, .ptr (some (H.length, 0))), (5, .ptr (some (H.length + 1, 0))), (6, .ptr (some (H.length + 2, 0))), (8, .ptr (some (H.length + 3, 0))), (9, .ptr (some (H.length + 4, 0))), (13, .ptr (some (H.length + 6, 0))), (14, .ptr (some (H.length + 7, 0))), (15, .bool true), (39, .sl (some (H.length + 5, 0)) ((trL px py vx vy vd 0 most).length) (bG (trL px py vx vy vd 0 most).length)), (40, .int .i64 (((trL px py vx vy vd 0 most).length : Nat) : Int)), (41, .int .i64 ((i : Nat) : Int))] ∧ H2 = H ++ [.cells true 0 [.int .i64 W, .int .i64 Hh, .sl (some (bpp, 0)) xs.length cpp], .cells true 0 [.int .i64 px, .int .i64 py], .cells true 0 [.int .i64 vx, .int .i64 vy, .int .i64 vd], .cells true 0 [.int .i64 0, .int .i64 0], .cells true 0 [.int .i64 0, .int .i64 0], .cells (bm (trL px py vx vy vd 0 most).length) 2 (prs (trL px py vx vy vd 0 most)), .cells true 0 [.int .i64 (peN px py vx vy vd (g1 (trL px py vx vy vd 0 most) i, g2 (trL px py vx vy vd 0 most) i)), .int .i64 (peD px py vx vy vd (g1 (trL px py vx vy vd 0 most) i, g2 (trL px py vx vy vd 0 most) i))], .cells true 0 [.int .i64 (g1 (trL px py vx vy vd 0 most) i), .int .i64 (g2 (trL px py vx vy vd 0 most) i)]]) ?_ ?_
       ·refine aG ?_ (aG ?_ (cl)) <;> intro J hJ
        ·skip
         have g'24 := (jn @h6 (jn @h6d g'23))
         refine aA g'24 ?_
         refine aR (hJ _ _ ⟨_, _, _, ⟨rfl, rfl⟩, Abs.byG hbel [] rfl [0, 1, 2, 3, 4, 5, 6, 7] (by decide) ?_⟩)
         exact eH
        ·skip
         have g'25 := (jn @h6 (jn @h6d g'23))
         refine aA g'25 ?_
         refine aR (hJ _ _ ⟨_, _, _, ⟨rfl, rfl⟩, Abs.byG hbel [] rfl [0, 1, 2, 3, 4, 5, 6, 7] (by decide) ?_⟩)
         exact eH
       rintro F2 H2 ⟨rfl, rfl⟩
       refine hn15 _ _ ?_
       refine hn14 _ _ ?_
       refine aL true try_mixed (by kernel_rfl) ?_
       have g'26 := (jn @h6 (jn @h6d g'23))
       refine aa g'26 ?_
       refine hJ0 _ _ ⟨k0 - 1, by omega, _, _, _, ⟨i + 1, by omega, rfl, rfl⟩, Abs.byG hbel [] rfl [0, 1, 2, 3, 4, 5, 6, 7] (by decide) ?_⟩
       exact aM (jn @hst (jn @hs1 (jn @hs2 (jn @hs3 (jn @oX.eq_2 (jn @oY.eq_2 @Option.isSome_some.{0}))))))
      ·have h6d := bsT h6
       have hst : fpA W Hh xs px py vx vy vd most (i + 1) = fpA W Hh xs px py vx vy vd most i := (fpA_s hlt).trans (by rw [hbb]; exact wV (show ¬ peN px py vx vy vd (g1 (trL px py vx vy vd 0 most) i, g2 (trL px py vx vy vd 0 most) i) * peD px py vx vy vd bb < peN px py vx vy vd bb * peD px py vx vy vd (g1 (trL px py vx vy vd 0 most) i, g2 (trL px py vx vy vd 0 most) i) by rw [← hn1, ← hn2]; exact h6d))
       have hs1 := hst
       have hs2 := hst
       have hs3 := hsm
       refine aL true try_mixed (by kernel_rfl) ?_
       have g'27 := (jn @h6 (jn @h6d g'23))
       refine aa g'27 ?_
       refine hn15 _ _ ?_
       refine hn14 _ _ ?_
       refine aL true try_mixed (by kernel_rfl) ?_
       refine aa g'27 ?_
       refine hJ0 _ _ ⟨k0 - 1, by omega, _, _, _, ⟨i + 1, by omega, rfl, rfl⟩, Abs.byG hbel [] rfl [0, 1, 2, 3, 4, 5, 6, 7] (by decide) ?_⟩
       exact aM (jn @hst (jn @hs1 (jn @hs2 (jn @hs3 (jn @oX.eq_2 (jn @oY.eq_2 @Option.isSome_some.{0}))))))
     ·have h5d := bsT h5
      have hnn : fpA W Hh xs px py vx vy vd most i = none := by simpa using h5d
      have hst : fpA W Hh xs px py vx vy vd most (i + 1) = some (g1 (trL px py vx vy vd 0 most) i, g2 (trL px py vx vy vd 0 most) i) := (fpA_s hlt).trans (by rw [hnn]; exact wW hQ)
      have hs1 := @we px py vx vy vd (g1 (trL px py vx vy vd 0 most) i, g2 (trL px py vx vy vd 0 most) i)
      have hs2 := @wg px py vx vy vd (g1 (trL px py vx vy vd 0 most) i, g2 (trL px py vx vy vd 0 most) i)
      have hs3 := hst
      have g'28 := (jn @h5 (jn @h5d g'22))
      refine aa g'28 ?_
      refine hn20 _ _ ?_
      refine fz true (by rfl) (fun h => ?_) (fun h => by cases h)
      refine gw true try_mixed [[0, 1, 2, 3, 4], [0, 2, 1, 3, 4]] (by kernel_rfl) (fun F2 H2 => F2 = [(4, .ptr (some (H.length, 0))), (5, .ptr (some (H.length + 1, 0))), (6, .ptr (some (H.length + 2, 0))), (8, .ptr (some (H.length + 3, 0))), (9, .ptr (some (H.length + 4, 0))), (13, .ptr (some (H.length + 6, 0))), (14, .ptr (some (H.length + 7, 0))), (15, .bool true), (39, .sl (some (H.length + 5, 0)) ((trL px py vx vy vd 0 most).length) (bG (trL px py vx vy vd 0 most).length)), (40, .int .i64 (((trL px py vx vy vd 0 most).length : Nat) : Int)), (41, .int .i64 ((i : Nat) : Int))] ∧ H2 = H ++ [.cells true 0 [.int .i64 W, .int .i64 Hh, .sl (some (bpp, 0)) xs.length cpp], .cells true 0 [.int .i64 px, .int .i64 py], .cells true 0 [.int .i64 vx, .int .i64 vy, .int .i64 vd], .cells true 0 [.int .i64 0, .int .i64 0], .cells true 0 [.int .i64 0, .int .i64 0], .cells (bm (trL px py vx vy vd 0 most).length) 2 (prs (trL px py vx vy vd 0 most)), .cells true 0 [.int .i64 (peN px py vx vy vd (g1 (trL px py vx vy vd 0 most) i, g2 (trL px py vx vy vd 0 most) i)), .int .i64 (peD px py vx vy vd (g1 (trL px py vx vy vd 0 most) i, g2 (trL px py vx vy vd 0 most) i))], .cells true 0 [.int .i64 (g1 (trL px py vx vy vd 0 most) i), .int .i64 (g2 (trL px py vx vy vd 0 most) i)]]) ?_ ?_
      ·refine aG ?_ (aG ?_ (cl)) <;> intro J hJ
       ·skip
        refine aA g'28 ?_
        refine aR (hJ _ _ ⟨_, _, _, ⟨rfl, rfl⟩, Abs.byG hbel [] rfl [0, 1, 2, 3, 4, 5, 6, 7] (by decide) ?_⟩)
        exact eH
       ·skip
        refine aA g'28 ?_
        refine aR (hJ _ _ ⟨_, _, _, ⟨rfl, rfl⟩, Abs.byG hbel [] rfl [0, 1, 2, 3, 4, 5, 6, 7] (by decide) ?_⟩)
        exact eH
      rintro F2 H2 ⟨rfl, rfl⟩
      refine hn15 _ _ ?_
      refine hn14 _ _ ?_
      refine aL true try_mixed (by kernel_rfl) ?_
      refine aa g'28 ?_
      refine hJ0 _ _ ⟨k0 - 1, by omega, _, _, _, ⟨i + 1, by omega, rfl, rfl⟩, Abs.byG hbel [] rfl [0, 1, 2, 3, 4, 5, 6, 7] (by decide) ?_⟩
      exact aM (jn @hst (jn @hs1 (jn @hs2 (jn @hs3 (jn @oX.eq_2 (jn @oY.eq_2 @Option.isSome_some.{0}))))))
    ·have h4d := h4
     exact absurd (hsq.symm.trans h4d) (by decide)
  ·have h1d := bsT h1
   obtain rfl : i = (trL px py vx vy vd 0 most).length := by omega
   have g'29 := (jn @h1 (jn @h1d g'17))
   refine aa g'29 ?_
   refine he13 _ _ _ ?_
   refine he11 _ _ _ ?_
   refine hb10 _ _ ?_
   refine hn8 _ _ ?_
   refine cn true try_mixed [[0, 1, 2, 3, 4, 5], [0, 2, 3, 1, 4, 5]] (by kernel_rfl) (fun F2 H2 => F2 = [(8, .ptr (some (H.length, 0))), (9, .ptr (some (H.length + 1, 0))), (10, .bool ((fpA W Hh xs px py vx vy vd most (trL px py vx vy vd 0 most).length).isSome))] ∧ H2 = H ++ [.cells true 0 [.int .i64 (fpN px py vx vy vd (fpA W Hh xs px py vx vy vd most (trL px py vx vy vd 0 most).length)), .int .i64 (fpD px py vx vy vd (fpA W Hh xs px py vx vy vd most (trL px py vx vy vd 0 most).length))], .cells true 0 [.int .i64 (oX (fpA W Hh xs px py vx vy vd most (trL px py vx vy vd 0 most).length)), .int .i64 (oY (fpA W Hh xs px py vx vy vd most (trL px py vx vy vd 0 most).length))]]) ?_ ?_
   ·refine aG ?_ (aG ?_ (cl)) <;> intro J hJ
    ·skip
     refine aA g'29 ?_
     refine aR (hJ _ _ ⟨_, _, _, ⟨rfl, rfl⟩, Abs.byG hbel [] rfl [3, 4] (by decide) ?_⟩)
     exact be
    ·skip
     refine aA g'29 ?_
     refine aR (hJ _ _ ⟨_, _, _, ⟨rfl, rfl⟩, Abs.byG hbel [] rfl [3, 4] (by decide) ?_⟩)
     exact be
   rintro F2 H2 ⟨rfl, rfl⟩
   refine aL true try_mixed (by kernel_rfl) ?_
   refine aa g'29 ?_
   exact hQ _ _ (ae (.inl rfl) hbel (x := .tup [.agg [.int .i64 (fpN px py vx vy vd (fpA W Hh xs px py vx vy vd most (trL px py vx vy vd 0 most).length)), .int .i64 (fpD px py vx vy vd (fpA W Hh xs px py vx vy vd most (trL px py vx vy vd 0 most).length))], .agg [.int .i64 (oX (fpA W Hh xs px py vx vy vd most (trL px py vx vy vd 0 most).length)), .int .i64 (oY (fpA W Hh xs px py vx vy vd most (trL px py vx vy vd 0 most).length))], .bool ((fpA W Hh xs px py vx vy vd most (trL px py vx vy vd 0 most).length).isSome)]) (ag Tryz.results115) rfl ⟨rfl, rfl⟩)
theorem dC (H : ac) (W Hh : Int) (pp : AV) (xs : List Int) (x y h m most : Int) (hpp : Sl H 1 pp xs.length (ints .u8 xs)) (hi : inpB W Hh xs x y = true) (hm : 0 ≤ most ∧ most ≤ 1056) : ACalls Tryz.prog 115 [.agg [.int .i64 W, .int .i64 Hh, pp], .agg [.int .i64 x, .int .i64 y], .agg [.int .i64 (aZ h m).1, .int .i64 (aZ h m).2.1, .int .i64 (aZ h m).2.2], .int .i64 most] H (fun v H' => v = .tup [.agg [.int .i64 (lkN W Hh xs x y h m most), .int .i64 (lkD W Hh xs x y h m most)], .agg [.int .i64 (oX (lkS W Hh xs x y h m most)), .int .i64 (oY (lkS W Hh xs x y h m most))], .bool (lkS W Hh xs x y h m most).isSome] ∧ H' = H) :=
 first_c H W Hh pp xs x y (aZ h m).1 (aZ h m).2.1 (aZ h m).2.2 most hpp hi (ic _ _) hm
open Go.RowKit
def plC (W Hh : Int) (xs : List Int) (x y h g : Int) (e : Int × Int) : Bool := if e.2 = -1 then !(lkS W Hh xs x y h e.1 (1024 - g)).isSome else (lkS W Hh xs x y h e.1 (e.2 + g)).isSome && decide ((e.2 - g) * lkD W Hh xs x y h e.1 (e.2 + g) ≤ lkN W Hh xs x y h e.1 (e.2 + g))
def plB (W Hh : Int) (xs : List Int) (x y h g : Int) (e : Int × Int) : Bool := stdB W Hh xs x y h && (dm e && (btw g 1 32 && plC W Hh xs x y h g e))
def plL (W Hh : Int) (xs : List Int) (x y h g : Int) (s : List (Int × Int)) : Bool := s.all (plB W Hh xs x y h g) && decide (((s.length : Nat) : Int) ≤ 32)
theorem plB_ok {W Hh : Int} {xs : List Int} {x y h g : Int} {e : Int × Int} (k : plB W Hh xs x y h g e = true) : (stdB W Hh xs x y h = true ∧ dm e = true ∧ 1 ≤ g ∧ g ≤ 32) ∧ gx W Hh xs x y h g e := by
 unfold plB at k
 rw [Bool.and_eq_true, Bool.and_eq_true, Bool.and_eq_true, bu] at k
 obtain ⟨k1, k2, k3, k4⟩ := k
 refine ⟨⟨k1, k2, k3⟩, ?_⟩
 have k1' := k1
 unfold stdB at k1'
 rw [Bool.and_eq_true] at k1'
 obtain ⟨hV, hx, hy⟩ := iD.1 k1'.1
 have hv := bM.1 hV
 have h1 := hv.w1
 have h2 := hv.h1
 have hb := e6.1 k2
 obtain ⟨m, z⟩ := e
 simp only at hb
 unfold plC at k4
 simp only at k4
 split at k4
 ·rename_i hz
  subst hz
  have hn : lkS W Hh xs x y h m (1024 - g) = none := by
   cases q : lkS W Hh xs x y h m (1024 - g) with
   | none => rfl
   | some c => rw [q] at k4; exact absurd k4 (by simp)
  exact plau_none (fp_no (v := aZ h m) (by omega) (by omega) (ic _ _) (by omega) hn (by omega))
 ·rename_i hz
  rw [Bool.and_eq_true, decide_eq_true_eq] at k4
  obtain ⟨c, hf⟩ := Option.isSome_iff_exists.1 k4.1
  have hbd := lk_bd (by omega) (by omega) (by omega) hf
  have eN : lkN W Hh xs x y h m (z + g) = peN x y (aZ h m).1 (aZ h m).2.1 (aZ h m).2.2 c := by unfold lkN; rw [hf]; rfl
  have eD : lkD W Hh xs x y h m (z + g) = peD x y (aZ h m).1 (aZ h m).2.1 (aZ h m).2.2 c := by unfold lkD; rw [hf]; rfl
  have k5 := k4.2
  have k6 := hbd.1.2
  rw [eN, eD] at k5 k6
  exact plau_some (by omega) (by omega) (by omega) k3 (most := z + g) (by omega) (by omega) hf k5 k6
theorem plL_ok {W Hh : Int} {xs : List Int} {x y h g : Int} {s : List (Int × Int)} (k : plL W Hh xs x y h g s = true) : ct s = true ∧ ∀ e ∈ s, gx W Hh xs x y h g e := by
 unfold plL at k
 rw [Bool.and_eq_true, List.all_eq_true, decide_eq_true_eq] at k
 exact ⟨da.2 ⟨by omega, fun e he => (plB_ok (k.1 e he)).1.2.1⟩, fun e he => (plB_ok (k.1 e he)).2⟩
theorem plL_n {W Hh : Int} {xs : List Int} {x y h g : Int} {s : List (Int × Int)} {i : Nat} (hi : i < s.length) (k : plB W Hh xs x y h g (g1 s i, g2 s i) = false) : plL W Hh xs x y h g s = false := by
 rw [← Bool.not_eq_true]; intro q
 unfold plL at q
 rw [Bool.and_eq_true, List.all_eq_true] at q
 have := q.1 (g1 s i, g2 s i) (by rw [cw hi]; exact List.getElem_mem hi)
 rw [k] at this; cases this
theorem plL_y {W Hh : Int} {xs : List Int} {x y h g : Int} {s : List (Int × Int)} (k : ∀ j : Nat, j < s.length → plB W Hh xs x y h g (g1 s j, g2 s j) = true) : plL W Hh xs x y h g s = decide (((s.length : Nat) : Int) ≤ 32) := by
 unfold plL
 rw [show s.all (plB W Hh xs x y h g) = true from List.all_eq_true.2 fun e he => by
  obtain ⟨j, hj, rfl⟩ := List.mem_iff_getElem.1 he
  rw [← cw hj]; exact k j hj]
 rfl
open Go.RowKit
theorem r6_drop {l : List T6} {j : Nat} : (r6 l).drop (j * 6) = r6 (l.drop j) := by
 induction l generalizing j with
 | nil => simp [bA]
 | cons p l ih =>
  cases j with
  | zero => simp
  | succ j => rw [bj, show (j + 1) * 6 = j * 6 + 1 + 1 + 1 + 1 + 1 + 1 by omega, List.drop_succ_cons, List.drop_succ_cons, List.drop_succ_cons, List.drop_succ_cons, List.drop_succ_cons, List.drop_succ_cons, ih]; rfl
theorem r6_dropv {l : List T6} {k : Nat} (h : k ≤ l.length) : List.take ((l.length - k) * 6) (List.drop (k * 6) (r6 l)) = r6 (List.drop k l) := by
 rw [r6_drop]
 exact List.take_of_length_le (by rw [bV, List.length_drop]; omega)
theorem ny {l : List T6} {j : Nat} (h : j < l.length) : l.drop j = g6 l j :: l.drop (j + 1) := by
 rw [List.drop_eq_getElem_cons h, ← gu h]; rfl
section
variable {W Hh : Int} {xs : List Int} {s : List (Int × Int)} {g : Int} {QA O R : List T6} {j K k : Nat}
theorem rfn_no (hj : j < QA.length) (hk : QA.length - j + 2 * K = k) (ht : tOk W Hh xs (g6 QA j) s g = false) (h : rfn W Hh xs s g k (QA.drop j) K O = R) : rfn W Hh xs s g (k - 1) (QA.drop (j + 1)) K O = R := by
 obtain ⟨n, rfl⟩ : ∃ n, k = n + 1 := ⟨k - 1, by omega⟩
 rw [ny hj] at h
 unfold rfn at h
 rw [if_neg (by rw [ht]; decide)] at h
 exact h
theorem rfn_two (hj : j < QA.length) (hk : QA.length - j + 2 * K = k) (ht : tOk W Hh xs (g6 QA j) s g = true) (h2 : 0 < K ∧ dc (tB W Hh xs (g6 QA j) s g) = true) (h : rfn W Hh xs s g k (QA.drop j) K O = R) : rfn W Hh xs s g (k - 1) ((QA.drop (j + 1) ++ [dF (tB W Hh xs (g6 QA j) s g), dG (tB W Hh xs (g6 QA j) s g)]).drop 0) (K - 1) O = R := by
 obtain ⟨n, rfl⟩ : ∃ n, k = n + 1 := ⟨k - 1, by omega⟩
 rw [ny hj] at h
 unfold rfn at h
 rw [if_pos ht, if_pos h2] at h
 exact h
theorem rfn_out (hj : j < QA.length) (hk : QA.length - j + 2 * K = k) (ht : tOk W Hh xs (g6 QA j) s g = true) (h2 : ¬ (0 < K ∧ dc (tB W Hh xs (g6 QA j) s g) = true)) (h : rfn W Hh xs s g k (QA.drop j) K O = R) : rfn W Hh xs s g (k - 1) (QA.drop (j + 1)) K (O ++ [tB W Hh xs (g6 QA j) s g]) = R := by
 obtain ⟨n, rfl⟩ : ∃ n, k = n + 1 := ⟨k - 1, by omega⟩
 rw [ny hj] at h
 unfold rfn at h
 rw [if_pos ht, if_neg h2] at h
 exact h
theorem rfn_end (hj : QA.length ≤ j) (h : rfn W Hh xs s g k (QA.drop j) K O = R) : R = O := by
 rw [List.drop_eq_nil_of_le hj] at h
 cases k <;> exact h.symm
end
theorem cright_t (H : ac) (W Hh : Int) (pp : AV) (xs : List Int) (q : AV) (sc : List (Int × Int)) (g : Int) (hpp : Sl H 1 pp xs.length (ints .u8 xs)) (hq : Sl H 2 q sc.length (prs sc)) (hV : bW W Hh xs = true) (hsB : ct sc = true) (hg : 1 ≤ g ∧ g ≤ 32) : ACalls Tryz.prog 87 [.agg [.int .i64 W, .int .i64 Hh, pp], q, .int .i64 g] H (fun v H' => v = .bool true ∧ H' = H) := by
 have k := cright_c H W Hh pp xs q sc g hpp hq (by have := (da.1 hsB).1; omega)
 rw [hV, hsB, bu.2 hg] at k
 exact k
theorem lR (H : ac) (W : Int) (Hh : Int) (pp : AV) (xs : List Int) (s : AV) (l : List T6) (q : AV) (sc : List (Int × Int)) (g : Int) (K0 : Nat) (hpp : Sl H 1 pp xs.length (ints .u8 xs)) (hs : Sl H 6 s l.length (r6 l)) (hq : Sl H 2 q sc.length (prs sc)) (hV : bW W Hh xs = true) (hS : bP l = true) (hl0 : 0 < l.length) (hsB : ct sc = true) (hg : 1 ≤ g ∧ g ≤ 32) (hK0 : K0 ≤ 64) : ACalls Tryz.prog 54 [.agg [.int .i64 W, .int .i64 Hh, pp], s, q, .int .i64 g, .int .i64 ((K0 : Nat) : Int)] H (fun v H' => v = .tup [.sl (some (H.length, 0)) ((bE W Hh xs l sc g K0).length) (bG (bE W Hh xs l sc g K0).length), .int .i64 0] ∧ H' = H ++ [.cells (bm (bE W Hh xs l sc g K0).length) 6 (r6 (bE W Hh xs l sc g K0))]) := by
 obtain ⟨bpp, opp, cpp, rfl, hbpp⟩ := hpp
 have hblpp := getElem?_lt hbpp
 have hb0pp := fun l => aw (l := l) hbpp
 obtain ⟨bs, os, cs, rfl, hbs⟩ := hs
 have hbls := getElem?_lt hbs
 have hb0s := fun l => aw (l := l) hbs
 obtain ⟨bq, oq, cq, rfl, hbq⟩ := hq
 have hblq := getElem?_lt hbq
 have hb0q := fun l => aw (l := l) hbq
 have hsl0 : (l.length == 0) = false := beq_eq_false_iff_ne.2 (by omega)
 have hsl1 : decide (0 < l.length) = true := decide_eq_true hl0
 have hSS := bU.1 hS
 have hl16 := hSS.1
 have hkb : btw ((K0 : Nat) : Int) 0 64 = true := bu.2 (by omega)
 have hVV := bM.1 hV
 have hWW : 1 ≤ W ∧ W ≤ 64 := ⟨hVV.w0, hVV.w1⟩
 have hHH : 1 ≤ Hh ∧ Hh ≤ 64 := ⟨hVV.h0, hVV.h1⟩
 (refine bT Tryz.func54 _ rfl (Nat.le_of_ble_eq_true (by kernel_rfl)) rfl ?_; intro hbel Q hQ hQ' c hc; unfold Tryz.f54 at hc; simp only [Option.some.injEq] at hc; subst hc; clear hQ')
 refine aQ fun Q1 hn1 hr1 he1 => ?_
 have hQ1 := fun F H' h => hr1 F H' (hQ F H' h)
 refine aL true try_mixed (by kernel_rfl) ?_
 have g'1 := (jn @hbpp (jn @hb0pp (jn @hbs (jn @hb0s (jn @hbq (jn @hb0q (jn @mkV_t (jn @hkb (jn @hsl0 @hsl1)))))))))
 refine aa g'1 ?_
 refine hn1 _ _ ?_
 refine aQ fun Q2 hn2 hr2 he2 => ?_
 have hQ2 := fun F H' h => hr2 F H' (hQ F H' h)
 refine aL true try_mixed (by kernel_rfl) ?_
 refine aa g'1 ?_
 refine af (by kernel_rfl) (cright_t _ W Hh _ xs _ sc g ⟨_, _, _, rfl, by first | exact hb0pp _ | exact hbpp⟩ ⟨_, _, _, rfl, by first | exact hb0q _ | exact hbq⟩ hV hsB hg) ?_
 refine aa g'1 ?_
 refine ai (fun h1 => ?_) (fun h1 => ?_)
 ·have h1d := bsT h1
  omega
 ·have h1d := bsT h1
  have g'2 := (jn @h1 (jn @h1d g'1))
  refine aa g'2 ?_
  refine hn2 _ _ ?_
  refine aQ fun Q3 hn3 hr3 he3 => ?_
  have hQ3 := fun F H' h => hr3 F H' (hQ F H' h)
  refine aL true try_mixed (by kernel_rfl) ?_
  refine aa g'2 ?_
  refine go_loop try_mixed (by kernel_rfl) (fun k F Hx => ∃ i : Nat, i + k = l.length ∧ F = [(1, .sl (some (bs, 0)) l.length cs), (2, .sl (some (bq, 0)) sc.length cq), (3, .int .i64 g), (4, .int .i64 ((K0 : Nat) : Int)), (5, .ptr (some (H.length, 0))), (31, .sl (some (bs, 0)) l.length cs), (32, .int .i64 ((l.length : Nat) : Int)), (33, .int .i64 ((i : Nat) : Int))] ∧ Hx = H ++ [.cells true 0 [.int .i64 W, .int .i64 Hh, .sl (some (bpp, 0)) xs.length cpp]]) (l.length) ?_ ?_
  ·refine ⟨_, _, _, ⟨0, by omega, rfl, rfl⟩, Abs.byG hbel [] rfl [0] (by decide) ?_⟩
   exact be
  ·rintro k0 F Hx ⟨i, hm0, rfl, rfl⟩ J0 hJ0
   refine aa g'2 ?_
   refine ai (fun h2 => ?_) (fun h2 => ?_)
   ·have h2d := bsT h2
    have hlt : i < l.length := by omega
    have q3 := dd (l := l) (j := i) (by omega)
    have g'3 := (jn @h2 (jn @h2d (jn @bV (jn @q3 g'2))))
    refine aa g'3 ?_
    refine af (by kernel_rfl) (eO _ (g61 l i) (g62 l i) (g63 l i) (g64 l i) (g65 l i) (g66 l i)) ?_
    refine aa g'3 ?_
    refine ai (fun h4 => ?_) (fun h4 => ?_)
    ·have h4d := bsT h4
     exact absurd ((show bD (g6 l i) = true from hSS.2 _ (cL hlt)).symm.trans h4d) (by decide)
    ·have h4d := bsT h4
     have g'4 := (jn @h4 (jn @h4d g'3))
     refine aa g'4 ?_
     refine hJ0 _ _ ⟨k0 - 1, by omega, _, _, _, ⟨i + 1, by omega, rfl, rfl⟩, Abs.byG hbel [] rfl [0] (by decide) ?_⟩
     exact be
   ·have h2d := bsT h2
    obtain rfl : i = l.length := by omega
    have g'5 := (jn @h2 (jn @h2d g'2))
    refine aa g'5 ?_
    refine hn3 _ _ ?_
    refine aQ fun Q4 hn4 hr4 he4 => ?_
    have hQ4 := fun F H' h => hr4 F H' (hQ F H' h)
    refine aL true try_mixed (by kernel_rfl) ?_
    refine aa g'5 ?_
    refine af (by kernel_rfl) (dH _ ((K0 : Nat) : Int) 0 64) ?_
    refine aa g'5 ?_
    refine hn4 _ _ ?_
    refine aQ fun Q5 hn5 hr5 he5 => ?_
    have hQ5 := fun F H' h => hr5 F H' (hQ F H' h)
    refine aL true try_mixed (by kernel_rfl) ?_
    refine aa g'5 ?_
    refine hn5 _ _ ?_
    refine aQ fun Q6 hn6 hr6 he6 => ?_
    have hQ6 := fun F H' h => hr6 F H' (hQ F H' h)
    refine aL true try_mixed (by kernel_rfl) ?_
    have g'6 := (jn @bV (jn @c9 (jn @r6_all g'5)))
    refine aa g'6 ?_
    refine hn6 _ _ ?_
    refine aQ fun Q7 hn7 hr7 he7 => ?_
    have hQ7 := fun F H' h => hr7 F H' (hQ F H' h)
    refine dX fun Q8 hn8 hr8 he8 hb8 => ?_
    have hQ8 := fun F H' h => hr8 F H' (hQ7 F H' h)
    refine lz (fun k F Hx => ∃ QA : List T6, ∃ j : Nat, ∃ K : Nat, ∃ O : List T6, QA.length - j + 2 * K = k ∧ j ≤ QA.length ∧ QA.length - j + K ≤ l.length + K0 ∧ QA.length ≤ l.length + K0 ∧ O.length + (QA.length - j) + K ≤ l.length + K0 ∧ (∀ b ∈ QA, bD b = true) ∧ rfn W Hh xs sc g k (QA.drop j) K O = bE W Hh xs l sc g K0 ∧ F = [(2, .sl (some (bq, 0)) sc.length cq), (3, .int .i64 g), (4, .int .i64 ((K : Nat) : Int)), (5, .ptr (some (H.length, 0))), (14, .sl (some (H.length + 1, 0)) O.length (bG O.length)), (15, .sl (some (H.length + 2, j * 6)) (QA.length - j) none)] ∧ Hx = H ++ [.cells true 0 [.int .i64 W, .int .i64 Hh, .sl (some (bpp, 0)) xs.length cpp], .cells (bm O.length) 6 (r6 O), .cells true 6 (r6 QA)]) (l.length + 2 * K0) ?_ ?_
    ·refine ⟨_, _, _, ⟨l, 0, K0, [], by first | omega | (simp only [List.length_append, List.length_drop, List.length_cons, List.length_nil]; omega), Nat.zero_le _, by omega, by omega, by simp only [List.length_nil]; omega, hSS.2, rfl, rfl, rfl⟩, Abs.byG hbel [.cells false 6 []] rfl [0, 3, 2] (by decide) ?_⟩
     exact aM (jn @Nat.zero_mul (jn @Nat.sub_zero (jn @bi (jn @bj (jn @bA @bt)))))
    ·rintro k1 F Hx ⟨QA, j, K, O, hm1, hjq, hqb, hql, hol, hqv, hrf, rfl, rfl⟩ Q9 hJ1 hr9 he9
     have hQ9 := fun F H' h => hr9 F H' (hQ8 F H' h)
     refine aQ fun Q10 hn10 hr10 he10 => ?_
     have hQ10 := fun F H' h => hr10 F H' (hQ9 F H' h)
     refine aL true try_mixed (by kernel_rfl) ?_
     refine aa g'6 ?_
     refine ai (fun h5 => ?_) (fun h5 => ?_)
     ·have h5d := bsT h5
      have hjl : j < QA.length := by omega
      have hbv : bD (g6 QA j) = true := hqv _ (cL hjl)
      have hsf1 : QA.length - j - 1 = QA.length - (j + 1) := by omega
      have hsf2 : j * 6 + 6 = (j + 1) * 6 := by omega
      have g'7 := (jn @h5 (jn @h5d (jn @hsf1 (jn @hsf2 g'6))))
      refine aa g'7 ?_
      refine hn10 _ _ ?_
      refine dX fun Q11 hn11 hr11 he11 hb11 => ?_
      have hQ11 := fun F H' h => hr11 F H' (hQ9 F H' h)
      refine cn true try_mixed [[0, 1, 2, 3, 4, 5, 6, 7, 8, 9, 10, 11, 12], [0, 1, 2, 3, 4, 5, 10, 6, 7, 8, 9, 11, 12]] (by kernel_rfl) (fun F2 H2 => F2 = [(2, .sl (some (bq, 0)) sc.length cq), (3, .int .i64 g), (4, .int .i64 ((K : Nat) : Int)), (5, .ptr (some (H.length, 0))), (14, .sl (some (H.length + 1, 0)) O.length (bG O.length)), (15, .sl (some (H.length + 2, j * 6)) (QA.length - j) none), (16, .ptr (some (H.length + 3, 0))), (17, .bool (tOk W Hh xs (g6 QA j) sc g))] ∧ H2 = H ++ [.cells true 0 [.int .i64 W, .int .i64 Hh, .sl (some (bpp, 0)) xs.length cpp], .cells (bm O.length) 6 (r6 O), .cells true 6 (r6 QA), .cells true 0 [.int .i64 (mkV (tOk W Hh xs (g6 QA j) sc g) ((tB W Hh xs (g6 QA j) sc g).1)), .int .i64 (mkV (tOk W Hh xs (g6 QA j) sc g) ((tB W Hh xs (g6 QA j) sc g).2.1)), .int .i64 (mkV (tOk W Hh xs (g6 QA j) sc g) ((tB W Hh xs (g6 QA j) sc g).2.2.1)), .int .i64 (mkV (tOk W Hh xs (g6 QA j) sc g) ((tB W Hh xs (g6 QA j) sc g).2.2.2.1)), .int .i64 (mkV (tOk W Hh xs (g6 QA j) sc g) ((tB W Hh xs (g6 QA j) sc g).2.2.2.2.1)), .int .i64 (mkV (tOk W Hh xs (g6 QA j) sc g) ((tB W Hh xs (g6 QA j) sc g).2.2.2.2.2))]]) ?_ ?_
      ·refine aG ?_ (aG ?_ (cl)) <;> intro J hJ
       ·skip
        have q6 := dd (l := QA) (j := j) (by omega)
        have g'8 := (jn @q6 g'7)
        refine aA g'8 ?_
        refine aK (by kernel_rfl) (trim_t _ W Hh _ xs (g6 QA j) _ sc g ⟨_, _, _, rfl, by first | exact hb0pp _ | exact hbpp⟩ ⟨_, _, _, rfl, by first | exact hb0q _ | exact hbq⟩ hV (by assumption) hsB hg) ?_
        refine aA g'8 ?_
        refine aR (hJ _ _ ⟨_, _, _, ⟨rfl, rfl⟩, Abs.byG hbel [] rfl [0, 1, 2, 3] (by decide) ?_⟩)
        exact aM (jn @bi (jn @bj (jn @bA @bt)))
       ·skip
        have q7 := dd (l := QA) (j := j) (by omega)
        have g'9 := (jn @q7 g'7)
        refine aA g'9 ?_
        refine aK (by kernel_rfl) (trim_t _ W Hh _ xs (g6 QA j) _ sc g ⟨_, _, _, rfl, by first | exact hb0pp _ | exact hbpp⟩ ⟨_, _, _, rfl, by first | exact hb0q _ | exact hbq⟩ hV (by assumption) hsB hg) ?_
        refine aA g'9 ?_
        refine aR (hJ _ _ ⟨_, _, _, ⟨rfl, rfl⟩, Abs.byG hbel [] rfl [0, 1, 2, 3] (by decide) ?_⟩)
        exact aM (jn @bi (jn @bj (jn @bA @bt)))
      rintro F2 H2 ⟨rfl, rfl⟩
      refine aL true try_mixed (by kernel_rfl) ?_
      refine aa g'7 ?_
      refine ai (fun h8 => ?_) (fun h8 => ?_)
      ·have h8d := bsT h8
       have htf := h8d
       have g'10 := (jn @h8 (jn @h8d g'7))
       refine aa g'10 ?_
       refine hb11 _ _ ?_
       refine hJ1 _ _ ⟨k1 - 1, by omega, _, _, _, ⟨QA, j + 1, K, O, by first | omega | (simp only [List.length_append, List.length_drop, List.length_cons, List.length_nil]; omega), by omega, by omega, hql, by omega, hqv, rfn_no hjl hm1 htf hrf, rfl, rfl⟩, Abs.byG hbel [] rfl [0, 1, 2] (by decide) ?_⟩
       exact aM (jn @Nat.zero_mul (jn @Nat.sub_zero (jn @List.length_drop.{0} (jn @bi (jn @bj (jn @bA @bt))))))
      ·have h8d := bsT h8
       have hto := h8d
       have htb := (tB_ok hWW hHH hbv hto).1
       have g'11 := (jn @h8 (jn @h8d g'7))
       refine aa g'11 ?_
       refine ai (fun h9 => ?_) (fun h9 => ?_)
       ·have h9d := bsT h9
        have hK : 0 < K := by omega
        have hsfk : ((K : Nat) : Int) - 1 = ((K - 1 : Nat) : Int) := by omega
        have g'12 := (jn @h9 (jn @h9d (jn @hsfk g'11)))
        refine aa g'12 ?_
        rcases Bool.eq_false_or_eq_true (dc (tB W Hh xs (g6 QA j) sc g)) with h10 | h10
        ·have h10d := h10
         have hs2 := h10d
         have hso := spl_ok htb hs2
         have hdv : List.take ((QA.length - (j + 1)) * 6) (List.drop ((j + 1) * 6) (r6 QA)) = r6 (List.drop (j + 1) QA) := r6_dropv (by omega)
         refine af (by kernel_rfl) (split_t _ (tB W Hh xs (g6 QA j) sc g) (by assumption) (by assumption)) ?_
         have g'13 := (jn @h10 (jn @h10d (jn @bK (jn @d9 g'12))))
         refine aa g'13 ?_
         refine hb11 _ _ ?_
         refine hJ1 _ _ ⟨k1 - 1, by omega, _, _, _, ⟨List.drop (j + 1) QA ++ [dF (tB W Hh xs (g6 QA j) sc g), dG (tB W Hh xs (g6 QA j) sc g)], 0, K - 1, O, by first | omega | (simp only [List.length_append, List.length_drop, List.length_cons, List.length_nil]; omega), Nat.zero_le _, by simp only [List.length_append, List.length_drop, List.length_cons, List.length_nil]; omega, by simp only [List.length_append, List.length_drop, List.length_cons, List.length_nil]; omega, by simp only [List.length_append, List.length_drop, List.length_cons, List.length_nil]; omega, fun b hb' => by
               rcases List.mem_append.1 hb' with q | q
               ·exact hqv b (List.mem_of_mem_drop q)
               ·rcases List.mem_cons.1 q with q | q
                ·rw [q]; exact hso.1
                ·rw [List.mem_singleton.1 q]; exact hso.2.1, rfn_two hjl hm1 hto ⟨hK, hs2⟩ hrf, rfl, rfl⟩, Abs.byG hbel [] rfl [0, 1, 7] (by decide) ?_⟩
         exact aM (jn @Nat.zero_mul (jn @Nat.sub_zero (jn @List.length_drop.{0} (jn @hdv (jn @bi (jn @bj (jn @bA @bt)))))))
        ·have h10d := h10
         have hno : ¬ (0 < K ∧ dc (tB W Hh xs (g6 QA j) sc g) = true) := fun q => absurd (q.2.symm.trans h10d) (by decide)
         refine af (by kernel_rfl) (split_f _ (tB W Hh xs (g6 QA j) sc g) (by assumption) (by assumption)) ?_
         have g'14 := (jn @h10 (jn @h10d (jn @bK (jn @d9 g'12))))
         refine aa g'14 ?_
         refine hn11 _ _ ?_
         refine hJ1 _ _ ⟨k1 - 1, by omega, _, _, _, ⟨QA, j + 1, K, O ++ [(tB W Hh xs (g6 QA j) sc g)], by first | omega | (simp only [List.length_append, List.length_drop, List.length_cons, List.length_nil]; omega), by omega, by omega, hql, by simp only [List.length_append, List.length_drop, List.length_cons, List.length_nil]; omega, hqv, rfn_out hjl hm1 hto hno hrf, rfl, rfl⟩, Abs.byG hbel [] rfl [0, 7, 2] (by decide) ?_⟩
         exact aM (jn @Nat.zero_mul (jn @Nat.sub_zero (jn @List.length_drop.{0} (jn @bi (jn @bj (jn @bA @bt))))))
       ·have h9d := bsT h9
        have hno : ¬ (0 < K ∧ dc (tB W Hh xs (g6 QA j) sc g) = true) := fun q => by omega
        have g'15 := (jn @h9 (jn @h9d (jn @bK (jn @d9 g'11))))
        refine aa g'15 ?_
        refine hn11 _ _ ?_
        refine hJ1 _ _ ⟨k1 - 1, by omega, _, _, _, ⟨QA, j + 1, K, O ++ [(tB W Hh xs (g6 QA j) sc g)], by first | omega | (simp only [List.length_append, List.length_drop, List.length_cons, List.length_nil]; omega), by omega, by omega, hql, by simp only [List.length_append, List.length_drop, List.length_cons, List.length_nil]; omega, hqv, rfn_out hjl hm1 hto hno hrf, rfl, rfl⟩, Abs.byG hbel [] rfl [0, 5, 2] (by decide) ?_⟩
        exact aM (jn @Nat.zero_mul (jn @Nat.sub_zero (jn @List.length_drop.{0} (jn @bi (jn @bj (jn @bA @bt))))))
     ·have h5d := bsT h5
      have hfinR : bE W Hh xs l sc g K0 = O := rfn_end (by omega) hrf
      have g'16 := (jn @h5 (jn @h5d g'6))
      refine aa g'16 ?_
      refine he10 _ _ _ ?_
      refine he9 _ _ _ ?_
      refine hb8 _ _ ?_
      refine hn7 _ _ ?_
      refine aL true try_mixed (by kernel_rfl) ?_
      refine aa g'16 ?_
      refine hQ _ _ (bB (.inl rfl) hbel (x1 := .tup [.sl (some (H.length + 1, 0)) O.length (bG O.length), .int .i64 0]) (l2 := [.cells (bm O.length) 6 (r6 O)]) (.tup [.sl (some (H.length, 0)) O.length (bG O.length), .int .i64 0]) (ag Tryz.results54) [] rfl [1] (by decide) ⟨by first | (rw [hfinR]; done) | (rw [hfinR]; rfl), by first | (rw [hfinR]; done) | (rw [hfinR]; rfl)⟩ ?_)
      exact bp @bt
set_option linter.unusedSimpArgs false
set_option linter.unusedVariables false
open Go.RowKit
set_option maxHeartbeats 4000000
set_option maxRecDepth 100000
theorem proven_c (H : ac) (W : Int) (Hh : Int) (pp : AV) (xs : List Int) (s : AV) (l : List T6) (m : Int) (r : Int) (g : Int) (hpp : Sl H 1 pp xs.length (ints .u8 xs)) (hs : Sl H 6 s l.length (r6 l)) (hV : bW W Hh xs = true) (hS : bP l = true) (hl0 : 0 < l.length) (hr : -1 ≤ r ∧ r ≤ 1024) (hg : 1 ≤ g ∧ g ≤ 32) : ACalls Tryz.prog 131 [.agg [.int .i64 W, .int .i64 Hh, pp], s, .agg [.int .i64 m, .int .i64 r], .int .i64 g] H (fun v H' => v = .sl (some (H.length, 0)) ((ef W Hh l m r g).length) (bG (ef W Hh l m r g).length) ∧ H' = H ++ [.cells (bm (ef W Hh l m r g).length) 2 (prs (ef W Hh l m r g))]) := by
 obtain ⟨bpp, opp, cpp, rfl, hbpp⟩ := hpp
 have hblpp := getElem?_lt hbpp
 have hb0pp := fun l => aw (l := l) hbpp
 obtain ⟨bs, os, cs, rfl, hbs⟩ := hs
 have hbls := getElem?_lt hbs
 have hb0s := fun l => aw (l := l) hbs
 have hvl := bM.1 hV
 have hWb : 1 ≤ W ∧ W ≤ 64 ∧ 1 ≤ Hh ∧ Hh ≤ 64 := by obtain ⟨a, b, c, d, -⟩ := hvl; omega
 have hda := jz hS m
 have hpair : ∀ j', j' < (av l m).length → bxB (g91 (av l m) j') (g92 (av l m) j') (g93 (av l m) j') (g94 (av l m) j') (g95 (av l m) j') (g96 (av l m) j') = true := fun j' hj' => by
  have k := nm hS (g9_mem hj')
  unfold pairB at k; rw [Bool.and_eq_true] at k; exact k.1
 have hp0 := hpair 0 (by omega)
 have hfl := fstL_len l m (aE r g)
 (refine bT Tryz.func131 _ rfl (Nat.le_of_ble_eq_true (by kernel_rfl)) rfl ?_; intro hbel Q hQ hQ' c hc; unfold Tryz.f131 at hc; simp only [Option.some.injEq] at hc; subst hc; clear hQ')
 refine aQ fun Q1 hn1 hr1 he1 => ?_
 have hQ1 := fun F H' h => hr1 F H' (hQ F H' h)
 refine aL false try_mixed (by kernel_rfl) ?_
 have g'1 := (jn @hbpp (jn @hb0pp (jn @hbs @hb0s)))
 refine aa g'1 ?_
 refine hn1 _ _ ?_
 refine aQ fun Q2 hn2 hr2 he2 => ?_
 have hQ2 := fun F H' h => hr2 F H' (hQ F H' h)
 refine aL false try_mixed (by kernel_rfl) ?_
 refine aa g'1 ?_
 refine hn2 _ _ ?_
 refine aQ fun Q3 hn3 hr3 he3 => ?_
 have hQ3 := fun F H' h => hr3 F H' (hQ F H' h)
 refine aL false try_mixed (by kernel_rfl) ?_
 refine aa g'1 ?_
 refine ai (fun h1 => ?_) (fun h1 => ?_)
 ·have h1d := bsT h1
  have h1n := bnT h1
  have hr1 : r = -1 := by simpa using h1d
  have hsf1 : 1024 - g = aE r g := (if_pos hr1).symm
  have g'2 := (jn @h1 (jn @h1n (jn @aU (jn @aT (jn @hsf1 g'1)))))
  refine aa g'2 ?_
  refine hn3 _ _ ?_
  refine aQ fun Q4 hn4 hr4 he4 => ?_
  have hQ4 := fun F H' h => hr4 F H' (hQ F H' h)
  refine aL false try_mixed (by kernel_rfl) ?_
  refine aa g'2 ?_
  refine ai (fun h2 => ?_) (fun h2 => ?_)
  ·have h2d := bsT h2
   have hfinL : ef W Hh l m r g = [] := if_pos h2d
   have g'3 := (jn @h2 (jn @h2d g'2))
   refine aa g'3 ?_
   refine hQ4 _ _ (bB (.inl rfl) hbel (x1 := .sl none 0 (some 0)) (l2 := [.cells false 2 []]) (.sl (some (H.length, 0)) 0 (some 0)) (ag Tryz.results131) [.cells false 2 []] rfl [3] (by decide) ⟨by first | (rw [hfinL]; done) | (rw [hfinL]; rfl), by first | (rw [hfinL]; done) | (rw [hfinL]; rfl)⟩ ?_)
   exact be
  ·have h2d := bsT h2
   have hfar := h2d
   have g'4 := (jn @h2 (jn @h2d g'2))
   refine aa g'4 ?_
   refine hn4 _ _ ?_
   refine aQ fun Q5 hn5 hr5 he5 => ?_
   have hQ5 := fun F H' h => hr5 F H' (hQ F H' h)
   refine aL false try_mixed (by kernel_rfl) ?_
   refine aa g'4 ?_
   refine af (by kernel_rfl) (jB _ _ l m r ⟨_, _, _, rfl, by first | exact hb0s _ | exact hbs⟩ (by assumption)) ?_
   refine aa g'4 ?_
   refine hn5 _ _ ?_
   refine lg false try_mixed [[0, 1, 2, 3, 4, 5, 6, 7, 8, 9, 10, 11, 12, 13, 14, 15, 16, 17], [0, 1, 2, 3, 7, 8, 9, 11, 4, 5, 6, 10, 12, 13, 14, 15, 16, 17], [0, 1, 2, 3, 7, 8, 9, 10, 4, 5, 6, 11, 12, 13, 14, 15, 16, 17], [0, 1, 2, 3, 7, 8, 9, 10, 11, 4, 5, 6, 12, 13, 14, 15, 16, 17]] (by kernel_rfl) (fun F2 H2 => F2 = [(4, .ptr (some (H.length, 0))), (8, .sl none 0 (some 0)), (9, .ptr (some (H.length + 1, 0))), (10, .sl (some (H.length + 2, 0)) ((av l m).length) (bG (av l m).length)), (11, .sl (some (H.length + 3, 0)) ((aW l m (aE r g)).length) (bG (aW l m (aE r g)).length))] ∧ H2 = H ++ [.cells true 0 [.int .i64 W, .int .i64 Hh, .sl (some (bpp, 0)) xs.length cpp], .cells true 0 [.int .i64 (aE r g)], .cells (bm (av l m).length) 9 (r9 (av l m)), .cells (bm (aW l m (aE r g)).length) 2 (prs (aW l m (aE r g)))]) ?_ ?_
   ·refine aG ?_ (aG ?_ (aG ?_ (aG ?_ (cl)))) <;> intro J hJ
    ·skip
     have q3 := iQ (l := av l m) (by omega)
     have g'5 := (jn @dZ (jn @q3 g'4))
     refine aA g'5 ?_
     refine cg (by kernel_rfl) (by simp) (d3 _ (g91 (av l m) 0) (g92 (av l m) 0) (g93 (av l m) 0) (g94 (av l m) 0) (g95 (av l m) 0) (g96 (av l m) 0) (by assumption)) ?_
     have q4 := iR (l := av l m) (by omega)
     have g'6 := (jn @q4 g'5)
     refine aA g'6 ?_
     refine cg (by kernel_rfl) (by simp) (ep _ l m (aE r g)) ?_
     refine aA g'6 ?_
     refine aR (hJ _ _ ⟨_, _, _, ⟨rfl, rfl⟩, Abs.byG hbel [] rfl [0, 2, 3, 5] (by decide) ?_⟩)
     exact aM (jn @bI (jn @bO (jn @cu @co)))
    ·skip
     have q5 := iQ (l := av l m) (by omega)
     have g'7 := (jn @dZ (jn @q5 g'4))
     refine aA g'7 ?_
     refine cg (by kernel_rfl) (by simp) (d3 _ (g91 (av l m) 0) (g92 (av l m) 0) (g93 (av l m) 0) (g94 (av l m) 0) (g95 (av l m) 0) (g96 (av l m) 0) (by assumption)) ?_
     have q6 := iR (l := av l m) (by omega)
     have g'8 := (jn @q6 g'7)
     refine aA g'8 ?_
     refine cg (by kernel_rfl) (by simp) (ep _ l m (aE r g)) ?_
     refine aA g'8 ?_
     refine aR (hJ _ _ ⟨_, _, _, ⟨rfl, rfl⟩, Abs.byG hbel [] rfl [0, 2, 3, 5] (by decide) ?_⟩)
     exact aM (jn @bI (jn @bO (jn @cu @co)))
    ·skip
     have q7 := iQ (l := av l m) (by omega)
     have q8 := iR (l := av l m) (by omega)
     have g'9 := (jn @dZ (jn @q7 (jn @q8 g'4)))
     refine aA g'9 ?_
     refine cg (by kernel_rfl) (by simp) (d3 _ (g91 (av l m) 0) (g92 (av l m) 0) (g93 (av l m) 0) (g94 (av l m) 0) (g95 (av l m) 0) (g96 (av l m) 0) (by assumption)) ?_
     refine aA g'9 ?_
     refine cg (by kernel_rfl) (by simp) (ep _ l m (aE r g)) ?_
     refine aA g'9 ?_
     refine aR (hJ _ _ ⟨_, _, _, ⟨rfl, rfl⟩, Abs.byG hbel [] rfl [0, 2, 3, 5] (by decide) ?_⟩)
     exact aM (jn @bI (jn @bO (jn @cu @co)))
    ·skip
     have q9 := iQ (l := av l m) (by omega)
     have q10 := iR (l := av l m) (by omega)
     have g'10 := (jn @dZ (jn @q9 (jn @q10 g'4)))
     refine aA g'10 ?_
     refine cg (by kernel_rfl) (by simp) (d3 _ (g91 (av l m) 0) (g92 (av l m) 0) (g93 (av l m) 0) (g94 (av l m) 0) (g95 (av l m) 0) (g96 (av l m) 0) (by assumption)) ?_
     refine aA g'10 ?_
     refine cg (by kernel_rfl) (by simp) (ep _ l m (aE r g)) ?_
     refine aA g'10 ?_
     refine aR (hJ _ _ ⟨_, _, _, ⟨rfl, rfl⟩, Abs.byG hbel [] rfl [0, 2, 3, 5] (by decide) ?_⟩)
     exact aM (jn @bI (jn @bO (jn @cu @co)))
   rintro F2 H2 ⟨rfl, rfl⟩
   refine aL false try_mixed (by kernel_rfl) ?_
   have g'11 := (jn @dZ (jn @kj (jn @bK (jn @cO g'4))))
   refine aa g'11 ?_
   refine go_loop try_mixed (by kernel_rfl) (fun k F Hx => ∃ j : Nat, j + k = (aW l m (aE r g)).length ∧ F = [(4, .ptr (some (H.length, 0))), (9, .ptr (some (H.length + 1, 0))), (10, .sl (some (H.length + 2, 0)) ((av l m).length) (bG (av l m).length)), (13, .sl (some (H.length + 4, 0)) ((((aW l m (aE r g)).take j).filter (bY W Hh l m (aE r g))).length) (bG (((aW l m (aE r g)).take j).filter (bY W Hh l m (aE r g))).length)), (49, .sl (some (H.length + 3, 0)) ((aW l m (aE r g)).length) (bG (aW l m (aE r g)).length)), (50, .int .i64 (((aW l m (aE r g)).length : Nat) : Int)), (51, .int .i64 ((j : Nat) : Int))] ∧ Hx = H ++ [.cells true 0 [.int .i64 W, .int .i64 Hh, .sl (some (bpp, 0)) xs.length cpp], .cells true 0 [.int .i64 (aE r g)], .cells (bm (av l m).length) 9 (r9 (av l m)), .cells (bm (aW l m (aE r g)).length) 2 (prs (aW l m (aE r g))), .cells (bm (((aW l m (aE r g)).take j).filter (bY W Hh l m (aE r g))).length) 2 (prs (((aW l m (aE r g)).take j).filter (bY W Hh l m (aE r g))))]) ((aW l m (aE r g)).length) ?_ ?_
   ·refine ⟨_, _, _, ⟨0, by omega, rfl, rfl⟩, Abs.byG hbel [.cells false 2 []] rfl [0, 1, 2, 3, 4] (by decide) ?_⟩
    exact aM (jn @List.take_zero.{0} (jn @List.filter_nil.{0} (jn @bI (jn @bO (jn @cu @co)))))
   ·rintro k0 F Hx ⟨j, hm0, rfl, rfl⟩ J0 hJ0
    refine aa g'11 ?_
    refine ai (fun h11 => ?_) (fun h11 => ?_)
    ·have h11d := bsT h11
     have hlt : j < (aW l m (aE r g)).length := by omega
     have hpr := (cw hlt).symm
     have hst := vT (p := (bY W Hh l m (aE r g))) hlt
     have hfln := flt_len (p := (bY W Hh l m (aE r g))) (l := (aW l m (aE r g))) (j := j)
     have q12 := cI (l := aW l m (aE r g)) (j := j) (by omega)
     have g'12 := (jn @h11 (jn @h11d (jn @q12 g'11)))
     refine aa g'12 ?_
     rcases Bool.eq_false_or_eq_true (sqO (g1 (aW l m (aE r g)) j) (g2 (aW l m (aE r g)) j)) with h13 | h13
     ·have h13d := h13
      have hsq := h13d
      refine af (by kernel_rfl) (psqr_t _ (g1 (aW l m (aE r g)) j) (g2 (aW l m (aE r g)) j) (by assumption)) ?_
      have g'13 := (jn @h13 (jn @h13d g'12))
      refine aa g'13 ?_
      refine af (by kernel_rfl) (cX _ (g1 (aW l m (aE r g)) j) 0 (W - 1)) ?_
      refine aa g'13 ?_
      refine aj (fun h14 => ?_) (fun h14 => ?_)
      ·have h14d := bsT h14
       have hbx := h14d
       have g'14 := (jn @h14 (jn @h14d g'13))
       refine aa g'14 ?_
       refine af (by kernel_rfl) (cX _ (g2 (aW l m (aE r g)) j) 0 (Hh - 1)) ?_
       refine aa g'14 ?_
       refine aj (fun h15 => ?_) (fun h15 => ?_)
       ·have h15d := bsT h15
        have hby := h15d
        have g'15 := (jn @h15 (jn @h15d g'14))
        refine aa g'15 ?_
        refine af (by kernel_rfl) (has_r _ _ (av l m) ⟨_, _, _, by first | rfl | (rw [List.length_append]; done) | (rw [List.length_append]; rfl), by first | rfl | (rw [ap]; rfl) | (rw [al]; rfl) | (rw [ap, am]; rfl) | (rw [al, am]; rfl)⟩ (by omega) _ [.ptr (some (H.length + 6, 0)), .ptr (some (H.length + 1, 0))] (by kernel_rfl) (by simp [AV.bels, AV.bel]) (fun e => !psC e (aE r g) (g1 (aW l m (aE r g)) j, g2 (aW l m (aE r g)) j)) (fun j' hj' => kprv1_c _ _ _ _ _ _ _ _ _ _ _ _ _ _ _ _ _ ⟨_, by first | (rw [ap]; rfl) | (rw [al]; rfl)⟩ ⟨_, by first | (rw [ap]; rfl) | (rw [al]; rfl)⟩ (hpair _ hj'))) ?_
        refine aa g'15 ?_
        refine ai (fun h16 => ?_) (fun h16 => ?_)
        ·have h16d := bsT h16
         have hok : bY W Hh l m (aE r g) (g1 (aW l m (aE r g)) j, g2 (aW l m (aE r g)) j) = true := by unfold bY prvB; rw [hbx, hby, List.all_eq_not_any_not, h16d]; rfl
         rw [hpr, if_pos hok] at hst
         have g'16 := (jn @h16 (jn @h16d (jn @d9 g'15)))
         refine aa g'16 ?_
         refine hJ0 _ _ ⟨k0 - 1, by omega, _, _, _, ⟨j + 1, by omega, rfl, rfl⟩, Abs.byG hbel [] rfl [0, 1, 2, 3, 8] (by decide) ?_⟩
         exact aM (jn @hst (jn @bI (jn @bO (jn @cu @co))))
        ·have h16d := bsT h16
         have hok : bY W Hh l m (aE r g) (g1 (aW l m (aE r g)) j, g2 (aW l m (aE r g)) j) = false := by unfold bY prvB; rw [hbx, hby, List.all_eq_not_any_not, h16d]; rfl
         rw [hpr, if_neg (by rw [hok]; decide), List.append_nil] at hst
         have g'17 := (jn @h16 (jn @h16d g'15))
         refine aa g'17 ?_
         refine hJ0 _ _ ⟨k0 - 1, by omega, _, _, _, ⟨j + 1, by omega, rfl, rfl⟩, Abs.byG hbel [] rfl [0, 1, 2, 3, 4] (by decide) ?_⟩
         exact aM (jn @hst (jn @bI (jn @bO (jn @cu @co))))
       ·have h15d := bsT h15
        have hok : bY W Hh l m (aE r g) (g1 (aW l m (aE r g)) j, g2 (aW l m (aE r g)) j) = false := by unfold bY; rw [hbx, h15d]; rfl
        rw [hpr, if_neg (by rw [hok]; decide), List.append_nil] at hst
        have g'18 := (jn @h15 (jn @h15d g'14))
        refine aa g'18 ?_
        refine hJ0 _ _ ⟨k0 - 1, by omega, _, _, _, ⟨j + 1, by omega, rfl, rfl⟩, Abs.byG hbel [] rfl [0, 1, 2, 3, 4] (by decide) ?_⟩
        exact aM (jn @hst (jn @bI (jn @bO (jn @cu @co))))
      ·have h14d := bsT h14
       have hok : bY W Hh l m (aE r g) (g1 (aW l m (aE r g)) j, g2 (aW l m (aE r g)) j) = false := by unfold bY; rw [h14d]; rfl
       rw [hpr, if_neg (by rw [hok]; decide), List.append_nil] at hst
       have g'19 := (jn @h14 (jn @h14d g'13))
       refine aa g'19 ?_
       refine hJ0 _ _ ⟨k0 - 1, by omega, _, _, _, ⟨j + 1, by omega, rfl, rfl⟩, Abs.byG hbel [] rfl [0, 1, 2, 3, 4] (by decide) ?_⟩
       exact aM (jn @hst (jn @bI (jn @bO (jn @cu @co))))
     ·have h13d := h13
      have hsq := h13d
      refine af (by kernel_rfl) (psqr_f _ (g1 (aW l m (aE r g)) j) (g2 (aW l m (aE r g)) j) (by assumption)) ?_
      have g'20 := (jn @h13 (jn @h13d g'12))
      refine aa g'20 ?_
      refine af (by kernel_rfl) (cX _ (g1 (aW l m (aE r g)) j) 0 (W - 1)) ?_
      refine aa g'20 ?_
      refine aj (fun h17 => ?_) (fun h17 => ?_)
      ·have h17d := bsT h17
       have hbx := h17d
       have g'21 := (jn @h17 (jn @h17d g'20))
       refine aa g'21 ?_
       refine af (by kernel_rfl) (cX _ (g2 (aW l m (aE r g)) j) 0 (Hh - 1)) ?_
       refine aa g'21 ?_
       refine aj (fun h18 => ?_) (fun h18 => ?_)
       ·have h18d := bsT h18
        have hby := h18d
        have hq1 := bu.1 hbx
        have hq2 := bu.1 hby
        exact absurd (show sqO (g1 (aW l m (aE r g)) j) (g2 (aW l m (aE r g)) j) = true by unfold sqO; rw [Bool.and_eq_true, br, br]; omega) (by rw [hsq]; decide)
       ·have h18d := bsT h18
        have hok : bY W Hh l m (aE r g) (g1 (aW l m (aE r g)) j, g2 (aW l m (aE r g)) j) = false := by unfold bY; rw [hbx, h18d]; rfl
        rw [hpr, if_neg (by rw [hok]; decide), List.append_nil] at hst
        have g'22 := (jn @h18 (jn @h18d g'21))
        refine aa g'22 ?_
        refine hJ0 _ _ ⟨k0 - 1, by omega, _, _, _, ⟨j + 1, by omega, rfl, rfl⟩, Abs.byG hbel [] rfl [0, 1, 2, 3, 4] (by decide) ?_⟩
        exact aM (jn @hst (jn @bI (jn @bO (jn @cu @co))))
      ·have h17d := bsT h17
       have hok : bY W Hh l m (aE r g) (g1 (aW l m (aE r g)) j, g2 (aW l m (aE r g)) j) = false := by unfold bY; rw [h17d]; rfl
       rw [hpr, if_neg (by rw [hok]; decide), List.append_nil] at hst
       have g'23 := (jn @h17 (jn @h17d g'20))
       refine aa g'23 ?_
       refine hJ0 _ _ ⟨k0 - 1, by omega, _, _, _, ⟨j + 1, by omega, rfl, rfl⟩, Abs.byG hbel [] rfl [0, 1, 2, 3, 4] (by decide) ?_⟩
       exact aM (jn @hst (jn @bI (jn @bO (jn @cu @co))))
    ·have h11d := bsT h11
     obtain rfl : j = (aW l m (aE r g)).length := by omega
     have hfinL : ((aW l m (aE r g)).take (aW l m (aE r g)).length).filter (bY W Hh l m (aE r g)) = ef W Hh l m r g := by rw [List.take_length]; exact (if_neg hfar).symm
     have g'24 := (jn @h11 (jn @h11d g'11))
     refine aa g'24 ?_
     refine hQ _ _ (bB (.inl rfl) hbel (x1 := .sl (some (H.length + 4, 0)) ((((aW l m (aE r g)).take (aW l m (aE r g)).length).filter (bY W Hh l m (aE r g))).length) (bG (((aW l m (aE r g)).take (aW l m (aE r g)).length).filter (bY W Hh l m (aE r g))).length)) (l2 := [.cells (bm (((aW l m (aE r g)).take (aW l m (aE r g)).length).filter (bY W Hh l m (aE r g))).length) 2 (prs (((aW l m (aE r g)).take (aW l m (aE r g)).length).filter (bY W Hh l m (aE r g))))]) (.sl (some (H.length, 0)) ((((aW l m (aE r g)).take (aW l m (aE r g)).length).filter (bY W Hh l m (aE r g))).length) (bG (((aW l m (aE r g)).take (aW l m (aE r g)).length).filter (bY W Hh l m (aE r g))).length)) (ag Tryz.results131) [] rfl [4] (by decide) ⟨by first | (rw [hfinL]; done) | (rw [hfinL]; rfl), by first | (rw [hfinL]; done) | (rw [hfinL]; rfl)⟩ ?_)
     exact be
 ·have h1d := bsT h1
  have h1n := bnT h1
  have hr1 : ¬ r = -1 := by simpa using h1d
  have hsf1 : r - g = aE r g := (if_neg hr1).symm
  have g'25 := (jn @h1 (jn @h1n (jn @aU (jn @aT (jn @hsf1 g'1)))))
  refine aa g'25 ?_
  refine hn3 _ _ ?_
  refine aQ fun Q6 hn6 hr6 he6 => ?_
  have hQ6 := fun F H' h => hr6 F H' (hQ F H' h)
  refine aL false try_mixed (by kernel_rfl) ?_
  refine aa g'25 ?_
  refine ai (fun h19 => ?_) (fun h19 => ?_)
  ·have h19d := bsT h19
   have hfinL : ef W Hh l m r g = [] := if_pos h19d
   have g'26 := (jn @h19 (jn @h19d g'25))
   refine aa g'26 ?_
   refine hQ6 _ _ (bB (.inl rfl) hbel (x1 := .sl none 0 (some 0)) (l2 := [.cells false 2 []]) (.sl (some (H.length, 0)) 0 (some 0)) (ag Tryz.results131) [.cells false 2 []] rfl [3] (by decide) ⟨by first | (rw [hfinL]; done) | (rw [hfinL]; rfl), by first | (rw [hfinL]; done) | (rw [hfinL]; rfl)⟩ ?_)
   exact be
  ·have h19d := bsT h19
   have hfar := h19d
   have g'27 := (jn @h19 (jn @h19d g'25))
   refine aa g'27 ?_
   refine hn6 _ _ ?_
   refine aQ fun Q7 hn7 hr7 he7 => ?_
   have hQ7 := fun F H' h => hr7 F H' (hQ F H' h)
   refine aL false try_mixed (by kernel_rfl) ?_
   refine aa g'27 ?_
   refine af (by kernel_rfl) (jB _ _ l m r ⟨_, _, _, rfl, by first | exact hb0s _ | exact hbs⟩ (by assumption)) ?_
   refine aa g'27 ?_
   refine hn7 _ _ ?_
   refine lg false try_mixed [[0, 1, 2, 3, 4, 5, 6, 7, 8, 9, 10, 11, 12, 13, 14, 15, 16, 17], [0, 1, 2, 3, 7, 8, 9, 11, 4, 5, 6, 10, 12, 13, 14, 15, 16, 17], [0, 1, 2, 3, 7, 8, 9, 10, 4, 5, 6, 11, 12, 13, 14, 15, 16, 17], [0, 1, 2, 3, 7, 8, 9, 10, 11, 4, 5, 6, 12, 13, 14, 15, 16, 17]] (by kernel_rfl) (fun F2 H2 => F2 = [(4, .ptr (some (H.length, 0))), (8, .sl none 0 (some 0)), (9, .ptr (some (H.length + 1, 0))), (10, .sl (some (H.length + 2, 0)) ((av l m).length) (bG (av l m).length)), (11, .sl (some (H.length + 3, 0)) ((aW l m (aE r g)).length) (bG (aW l m (aE r g)).length))] ∧ H2 = H ++ [.cells true 0 [.int .i64 W, .int .i64 Hh, .sl (some (bpp, 0)) xs.length cpp], .cells true 0 [.int .i64 (aE r g)], .cells (bm (av l m).length) 9 (r9 (av l m)), .cells (bm (aW l m (aE r g)).length) 2 (prs (aW l m (aE r g)))]) ?_ ?_
   ·refine aG ?_ (aG ?_ (aG ?_ (aG ?_ (cl)))) <;> intro J hJ
    ·skip
     have q20 := iQ (l := av l m) (by omega)
     have g'28 := (jn @dZ (jn @q20 g'27))
     refine aA g'28 ?_
     refine cg (by kernel_rfl) (by simp) (d3 _ (g91 (av l m) 0) (g92 (av l m) 0) (g93 (av l m) 0) (g94 (av l m) 0) (g95 (av l m) 0) (g96 (av l m) 0) (by assumption)) ?_
     have q21 := iR (l := av l m) (by omega)
     have g'29 := (jn @q21 g'28)
     refine aA g'29 ?_
     refine cg (by kernel_rfl) (by simp) (ep _ l m (aE r g)) ?_
     refine aA g'29 ?_
     refine aR (hJ _ _ ⟨_, _, _, ⟨rfl, rfl⟩, Abs.byG hbel [] rfl [0, 2, 3, 5] (by decide) ?_⟩)
     exact aM (jn @bI (jn @bO (jn @cu @co)))
    ·skip
     have q22 := iQ (l := av l m) (by omega)
     have g'30 := (jn @dZ (jn @q22 g'27))
     refine aA g'30 ?_
     refine cg (by kernel_rfl) (by simp) (d3 _ (g91 (av l m) 0) (g92 (av l m) 0) (g93 (av l m) 0) (g94 (av l m) 0) (g95 (av l m) 0) (g96 (av l m) 0) (by assumption)) ?_
     have q23 := iR (l := av l m) (by omega)
     have g'31 := (jn @q23 g'30)
     refine aA g'31 ?_
     refine cg (by kernel_rfl) (by simp) (ep _ l m (aE r g)) ?_
     refine aA g'31 ?_
     refine aR (hJ _ _ ⟨_, _, _, ⟨rfl, rfl⟩, Abs.byG hbel [] rfl [0, 2, 3, 5] (by decide) ?_⟩)
     exact aM (jn @bI (jn @bO (jn @cu @co)))
    ·skip
     have q24 := iQ (l := av l m) (by omega)
     have q25 := iR (l := av l m) (by omega)
     have g'32 := (jn @dZ (jn @q24 (jn @q25 g'27)))
     refine aA g'32 ?_
     refine cg (by kernel_rfl) (by simp) (d3 _ (g91 (av l m) 0) (g92 (av l m) 0) (g93 (av l m) 0) (g94 (av l m) 0) (g95 (av l m) 0) (g96 (av l m) 0) (by assumption)) ?_
     refine aA g'32 ?_
     refine cg (by kernel_rfl) (by simp) (ep _ l m (aE r g)) ?_
     refine aA g'32 ?_
     refine aR (hJ _ _ ⟨_, _, _, ⟨rfl, rfl⟩, Abs.byG hbel [] rfl [0, 2, 3, 5] (by decide) ?_⟩)
     exact aM (jn @bI (jn @bO (jn @cu @co)))
    ·skip
     have q26 := iQ (l := av l m) (by omega)
     have q27 := iR (l := av l m) (by omega)
     have g'33 := (jn @dZ (jn @q26 (jn @q27 g'27)))
     refine aA g'33 ?_
     refine cg (by kernel_rfl) (by simp) (d3 _ (g91 (av l m) 0) (g92 (av l m) 0) (g93 (av l m) 0) (g94 (av l m) 0) (g95 (av l m) 0) (g96 (av l m) 0) (by assumption)) ?_
     refine aA g'33 ?_
     refine cg (by kernel_rfl) (by simp) (ep _ l m (aE r g)) ?_
     refine aA g'33 ?_
     refine aR (hJ _ _ ⟨_, _, _, ⟨rfl, rfl⟩, Abs.byG hbel [] rfl [0, 2, 3, 5] (by decide) ?_⟩)
     exact aM (jn @bI (jn @bO (jn @cu @co)))
   rintro F2 H2 ⟨rfl, rfl⟩
   refine aL false try_mixed (by kernel_rfl) ?_
   have g'34 := (jn @dZ (jn @kj (jn @bK (jn @cO g'27))))
   refine aa g'34 ?_
   refine go_loop try_mixed (by kernel_rfl) (fun k F Hx => ∃ j : Nat, j + k = (aW l m (aE r g)).length ∧ F = [(4, .ptr (some (H.length, 0))), (9, .ptr (some (H.length + 1, 0))), (10, .sl (some (H.length + 2, 0)) ((av l m).length) (bG (av l m).length)), (13, .sl (some (H.length + 4, 0)) ((((aW l m (aE r g)).take j).filter (bY W Hh l m (aE r g))).length) (bG (((aW l m (aE r g)).take j).filter (bY W Hh l m (aE r g))).length)), (49, .sl (some (H.length + 3, 0)) ((aW l m (aE r g)).length) (bG (aW l m (aE r g)).length)), (50, .int .i64 (((aW l m (aE r g)).length : Nat) : Int)), (51, .int .i64 ((j : Nat) : Int))] ∧ Hx = H ++ [.cells true 0 [.int .i64 W, .int .i64 Hh, .sl (some (bpp, 0)) xs.length cpp], .cells true 0 [.int .i64 (aE r g)], .cells (bm (av l m).length) 9 (r9 (av l m)), .cells (bm (aW l m (aE r g)).length) 2 (prs (aW l m (aE r g))), .cells (bm (((aW l m (aE r g)).take j).filter (bY W Hh l m (aE r g))).length) 2 (prs (((aW l m (aE r g)).take j).filter (bY W Hh l m (aE r g))))]) ((aW l m (aE r g)).length) ?_ ?_
   ·refine ⟨_, _, _, ⟨0, by omega, rfl, rfl⟩, Abs.byG hbel [.cells false 2 []] rfl [0, 1, 2, 3, 4] (by decide) ?_⟩
    exact aM (jn @List.take_zero.{0} (jn @List.filter_nil.{0} (jn @bI (jn @bO (jn @cu @co)))))
   ·rintro k0 F Hx ⟨j, hm0, rfl, rfl⟩ J0 hJ0
    refine aa g'34 ?_
    refine ai (fun h28 => ?_) (fun h28 => ?_)
    ·have h28d := bsT h28
     have hlt : j < (aW l m (aE r g)).length := by omega
     have hpr := (cw hlt).symm
     have hst := vT (p := (bY W Hh l m (aE r g))) hlt
     have hfln := flt_len (p := (bY W Hh l m (aE r g))) (l := (aW l m (aE r g))) (j := j)
     have q29 := cI (l := aW l m (aE r g)) (j := j) (by omega)
     have g'35 := (jn @h28 (jn @h28d (jn @q29 g'34)))
     refine aa g'35 ?_
     rcases Bool.eq_false_or_eq_true (sqO (g1 (aW l m (aE r g)) j) (g2 (aW l m (aE r g)) j)) with h30 | h30
     ·have h30d := h30
      have hsq := h30d
      refine af (by kernel_rfl) (psqr_t _ (g1 (aW l m (aE r g)) j) (g2 (aW l m (aE r g)) j) (by assumption)) ?_
      have g'36 := (jn @h30 (jn @h30d g'35))
      refine aa g'36 ?_
      refine af (by kernel_rfl) (cX _ (g1 (aW l m (aE r g)) j) 0 (W - 1)) ?_
      refine aa g'36 ?_
      refine aj (fun h31 => ?_) (fun h31 => ?_)
      ·have h31d := bsT h31
       have hbx := h31d
       have g'37 := (jn @h31 (jn @h31d g'36))
       refine aa g'37 ?_
       refine af (by kernel_rfl) (cX _ (g2 (aW l m (aE r g)) j) 0 (Hh - 1)) ?_
       refine aa g'37 ?_
       refine aj (fun h32 => ?_) (fun h32 => ?_)
       ·have h32d := bsT h32
        have hby := h32d
        have g'38 := (jn @h32 (jn @h32d g'37))
        refine aa g'38 ?_
        refine af (by kernel_rfl) (has_r _ _ (av l m) ⟨_, _, _, by first | rfl | (rw [List.length_append]; done) | (rw [List.length_append]; rfl), by first | rfl | (rw [ap]; rfl) | (rw [al]; rfl) | (rw [ap, am]; rfl) | (rw [al, am]; rfl)⟩ (by omega) _ [.ptr (some (H.length + 6, 0)), .ptr (some (H.length + 1, 0))] (by kernel_rfl) (by simp [AV.bels, AV.bel]) (fun e => !psC e (aE r g) (g1 (aW l m (aE r g)) j, g2 (aW l m (aE r g)) j)) (fun j' hj' => kprv1_c _ _ _ _ _ _ _ _ _ _ _ _ _ _ _ _ _ ⟨_, by first | (rw [ap]; rfl) | (rw [al]; rfl)⟩ ⟨_, by first | (rw [ap]; rfl) | (rw [al]; rfl)⟩ (hpair _ hj'))) ?_
        refine aa g'38 ?_
        refine ai (fun h33 => ?_) (fun h33 => ?_)
        ·have h33d := bsT h33
         have hok : bY W Hh l m (aE r g) (g1 (aW l m (aE r g)) j, g2 (aW l m (aE r g)) j) = true := by unfold bY prvB; rw [hbx, hby, List.all_eq_not_any_not, h33d]; rfl
         rw [hpr, if_pos hok] at hst
         have g'39 := (jn @h33 (jn @h33d (jn @d9 g'38)))
         refine aa g'39 ?_
         refine hJ0 _ _ ⟨k0 - 1, by omega, _, _, _, ⟨j + 1, by omega, rfl, rfl⟩, Abs.byG hbel [] rfl [0, 1, 2, 3, 8] (by decide) ?_⟩
         exact aM (jn @hst (jn @bI (jn @bO (jn @cu @co))))
        ·have h33d := bsT h33
         have hok : bY W Hh l m (aE r g) (g1 (aW l m (aE r g)) j, g2 (aW l m (aE r g)) j) = false := by unfold bY prvB; rw [hbx, hby, List.all_eq_not_any_not, h33d]; rfl
         rw [hpr, if_neg (by rw [hok]; decide), List.append_nil] at hst
         have g'40 := (jn @h33 (jn @h33d g'38))
         refine aa g'40 ?_
         refine hJ0 _ _ ⟨k0 - 1, by omega, _, _, _, ⟨j + 1, by omega, rfl, rfl⟩, Abs.byG hbel [] rfl [0, 1, 2, 3, 4] (by decide) ?_⟩
         exact aM (jn @hst (jn @bI (jn @bO (jn @cu @co))))
       ·have h32d := bsT h32
        have hok : bY W Hh l m (aE r g) (g1 (aW l m (aE r g)) j, g2 (aW l m (aE r g)) j) = false := by unfold bY; rw [hbx, h32d]; rfl
        rw [hpr, if_neg (by rw [hok]; decide), List.append_nil] at hst
        have g'41 := (jn @h32 (jn @h32d g'37))
        refine aa g'41 ?_
        refine hJ0 _ _ ⟨k0 - 1, by omega, _, _, _, ⟨j + 1, by omega, rfl, rfl⟩, Abs.byG hbel [] rfl [0, 1, 2, 3, 4] (by decide) ?_⟩
        exact aM (jn @hst (jn @bI (jn @bO (jn @cu @co))))
      ·have h31d := bsT h31
       have hok : bY W Hh l m (aE r g) (g1 (aW l m (aE r g)) j, g2 (aW l m (aE r g)) j) = false := by unfold bY; rw [h31d]; rfl
       rw [hpr, if_neg (by rw [hok]; decide), List.append_nil] at hst
       have g'42 := (jn @h31 (jn @h31d g'36))
       refine aa g'42 ?_
       refine hJ0 _ _ ⟨k0 - 1, by omega, _, _, _, ⟨j + 1, by omega, rfl, rfl⟩, Abs.byG hbel [] rfl [0, 1, 2, 3, 4] (by decide) ?_⟩
       exact aM (jn @hst (jn @bI (jn @bO (jn @cu @co))))
     ·have h30d := h30
      have hsq := h30d
      refine af (by kernel_rfl) (psqr_f _ (g1 (aW l m (aE r g)) j) (g2 (aW l m (aE r g)) j) (by assumption)) ?_
      have g'43 := (jn @h30 (jn @h30d g'35))
      refine aa g'43 ?_
      refine af (by kernel_rfl) (cX _ (g1 (aW l m (aE r g)) j) 0 (W - 1)) ?_
      refine aa g'43 ?_
      refine aj (fun h34 => ?_) (fun h34 => ?_)
      ·have h34d := bsT h34
       have hbx := h34d
       have g'44 := (jn @h34 (jn @h34d g'43))
       refine aa g'44 ?_
       refine af (by kernel_rfl) (cX _ (g2 (aW l m (aE r g)) j) 0 (Hh - 1)) ?_
       refine aa g'44 ?_
       refine aj (fun h35 => ?_) (fun h35 => ?_)
       ·have h35d := bsT h35
        have hby := h35d
        have hq1 := bu.1 hbx
        have hq2 := bu.1 hby
        exact absurd (show sqO (g1 (aW l m (aE r g)) j) (g2 (aW l m (aE r g)) j) = true by unfold sqO; rw [Bool.and_eq_true, br, br]; omega) (by rw [hsq]; decide)
       ·have h35d := bsT h35
        have hok : bY W Hh l m (aE r g) (g1 (aW l m (aE r g)) j, g2 (aW l m (aE r g)) j) = false := by unfold bY; rw [hbx, h35d]; rfl
        rw [hpr, if_neg (by rw [hok]; decide), List.append_nil] at hst
        have g'45 := (jn @h35 (jn @h35d g'44))
        refine aa g'45 ?_
        refine hJ0 _ _ ⟨k0 - 1, by omega, _, _, _, ⟨j + 1, by omega, rfl, rfl⟩, Abs.byG hbel [] rfl [0, 1, 2, 3, 4] (by decide) ?_⟩
        exact aM (jn @hst (jn @bI (jn @bO (jn @cu @co))))
      ·have h34d := bsT h34
       have hok : bY W Hh l m (aE r g) (g1 (aW l m (aE r g)) j, g2 (aW l m (aE r g)) j) = false := by unfold bY; rw [h34d]; rfl
       rw [hpr, if_neg (by rw [hok]; decide), List.append_nil] at hst
       have g'46 := (jn @h34 (jn @h34d g'43))
       refine aa g'46 ?_
       refine hJ0 _ _ ⟨k0 - 1, by omega, _, _, _, ⟨j + 1, by omega, rfl, rfl⟩, Abs.byG hbel [] rfl [0, 1, 2, 3, 4] (by decide) ?_⟩
       exact aM (jn @hst (jn @bI (jn @bO (jn @cu @co))))
    ·have h28d := bsT h28
     obtain rfl : j = (aW l m (aE r g)).length := by omega
     have hfinL : ((aW l m (aE r g)).take (aW l m (aE r g)).length).filter (bY W Hh l m (aE r g)) = ef W Hh l m r g := by rw [List.take_length]; exact (if_neg hfar).symm
     have g'47 := (jn @h28 (jn @h28d g'34))
     refine aa g'47 ?_
     refine hQ _ _ (bB (.inl rfl) hbel (x1 := .sl (some (H.length + 4, 0)) ((((aW l m (aE r g)).take (aW l m (aE r g)).length).filter (bY W Hh l m (aE r g))).length) (bG (((aW l m (aE r g)).take (aW l m (aE r g)).length).filter (bY W Hh l m (aE r g))).length)) (l2 := [.cells (bm (((aW l m (aE r g)).take (aW l m (aE r g)).length).filter (bY W Hh l m (aE r g))).length) 2 (prs (((aW l m (aE r g)).take (aW l m (aE r g)).length).filter (bY W Hh l m (aE r g))))]) (.sl (some (H.length, 0)) ((((aW l m (aE r g)).take (aW l m (aE r g)).length).filter (bY W Hh l m (aE r g))).length) (bG (((aW l m (aE r g)).take (aW l m (aE r g)).length).filter (bY W Hh l m (aE r g))).length)) (ag Tryz.results131) [] rfl [4] (by decide) ⟨by first | (rw [hfinL]; done) | (rw [hfinL]; rfl), by first | (rw [hfinL]; done) | (rw [hfinL]; rfl)⟩ ?_)
     exact be
open Go.RowKit Go.Sort
set_option maxRecDepth 100000 in
theorem sortc_f {α : Type} [Inhabited α] (val : α → Int × Int) (cf : α → α → Int) (hO : SWO (ltOf cf)) (g : FuncId) (eg : ∀ args w, (callFunc g args).run Tryz.prog w = .ok (.enter g args) w)
  (hcmp : ∀ (x y : α) (W : World), Calls Tryz.prog g #[.agg #[.int .i64 (val x).1, .int .i64 (val x).2], .agg #[.int .i64 (val y).1, .int .i64 (val y).2]] W fun e w' => e = .returned (.int .i64 (cf x y)) ∧ ∃ q os', w' = grow (W.drewN q) os')
  {H : ac} {b n : Nat} {cap : Option Nat} {zs : List α} (hg : H[b]? = some (.cells true 2 (prs (zs.map val)))) (hn : n = zs.length) (h0 : 0 < n) (h1 : n ≤ 1000000) :
  ACalls Tryz.prog 132 [.sl (some (b, 0)) n cap, .fn g []] H
   (fun v H' => v = .tup [] ∧ ∃ ys : List α, ys.Perm zs ∧ ys.Pairwise (fun x y => ltOf cf y x = false) ∧ H' = H.set b (.cells true 2 (prs (ys.map val)))) := fun E w vs hE hv => by
 obtain ⟨v1, l1, rfl, k1, h1'⟩ := jY hv
 obtain ⟨v2, l2, rfl, k2, h2'⟩ := jY h1'
 obtain rfl := rT h2'
 have hf : v2 = .func (.func g) #[] #[] := by
  cases k2 with
  | fn _ _ cs hl _ =>
   have : cs = #[] := by
    have : cs.size = 0 := hl.symm
    exact Array.eq_empty_of_size_eq_zero this
   rw [this]
 subst hf
 cases k1 with
 | nils _ _ _ _ => exact absurd h0 (Nat.lt_irrefl 0)
 | sl _ _ _ _ c a hb h2 h3 h4 h5 h6 =>
 have hc : c ≠ 0 := by omega
 obtain rfl := h5.resolve_left hc
 obtain ⟨m1, m2, -, -⟩ := hE.blk b _ hg
 obtain ⟨o1, o2, o3, o4, o5⟩ := m2 rfl
 have hpl : (prs (zs.map val)).length = zs.length * 2 := by rw [bK]; simp
 have hH : HoldsK (encP val) 2 w (E.loc b).blk (E.loc b).off zs.toArray := by
  show Holds id w _ _ (flatK (encP val) 2 zs.toArray)
  rw [qZ]
  intro j hj
  have hj' : j < zs.length * 2 := by simpa [lj] using hj
  refine ⟨?_, (o5 j (by omega)).2⟩
  have hx : (prs (zs.map val))[j]? = some (prs (zs.map val))[j] := List.getElem?_eq_getElem (by omega)
  obtain ⟨-, v, hv, hr⟩ := m1 j _ hx
  rw [hv]
  obtain ⟨u, hu, hru⟩ := (lx (E := E) (zs.map val)).get hx
  have : ∀ (k : Nat) (l : List (Int × Int)) (y : AV) (v u : Value), (prs l)[k]? = some y → Rel E y v → (eP l)[k]? = some u → v = u := by
   intro k l
   induction l generalizing k with
   | nil => intro y v u h; simp [prs] at h
   | cons p l ih =>
    intro y v u h1 h2 h3
    match k with
    | 0 => simp [cP, eP] at h1 h3; subst h1 h3; exact ng h2
    | 1 => simp [cP, eP] at h1 h3; subst h1 h3; exact ng h2
    | k + 2 =>
     refine ih k y v u (by simpa [cP] using h1) h2 ?_
     simpa [eP] using h3
  have e := this j _ _ v u hx hr hu
  subst e
  simp [List.getElem!_eq_getElem?_getD, hu]
 have hcon := AnyQ.slices_SortFunc Tryz.sort132 2 Tryz.isAgg149 Tryz.sizeOf149 (encP val) (fun _ => rfl) (fun x v hv => by simp [encP] at hv; rcases hv with rfl | rfl <;> rfl) cf hO g #[] (E.loc b).blk (E.loc b).off c zs.toArray w eg
  (fun _ _ _ _ x y => by simpa [encP] using hcmp x y _) hH o2 (by simp; omega)
 change Calls Tryz.prog 132 _ _ _ at hcon
 have hsz : zs.toArray.size = n := by simp [hn]
 rw [hsz] at hcon
 refine hcon.mono fun e w' ⟨he, d', q, os, hp, hs, hw⟩ => ?_
 subst hw
 obtain ⟨p1, -, p3⟩ := hp
 have hperm : d'.toList.Perm zs := by
  have a1 : d'.extract 0 n = d' := by rw [← hsz, ← p1]; simp
  have a2 : zs.toArray.extract 0 n = zs.toArray := by rw [← hsz]; simp
  rw [a1, a2] at p3
  simpa using p3
 have hl : (d'.toList.map val).length = (zs.map val).length := by simp [hperm.length_eq]
 refine ⟨E, _, _, .tup [], he, ⟨rfl, d'.toList, hperm, ?_, rfl⟩, .refl E, .tup [] #[] rfl (fun i x v h => by simp at h), ?_⟩
 ·rw [List.pairwise_iff_getElem]
  intro i j hi hj hij
  have := hs i j (Nat.zero_le _) hij (by have := hperm.length_eq; simp at hj this; omega)
  simp at hi hj
  simpa [hi, hj] using this
 ·have hd : d' = d'.toList.toArray := by simp
  have e1 : sortWorldK (encP val) 2 w (E.loc b).blk (E.loc b).off q d' os = grow ((w.drewN q).setCells (E.loc b).blk (E.loc b).off (eP (d'.toList.map val))) os := by
   unfold sortWorldK
   congr 1
   show putRow id (Sort.ahead w q) _ _ (flatK (encP val) 2 d') = _
   rw [hd, qZ]
   have := Lib.putRow_eq_setCells id w (E.loc b).blk (E.loc b).off (flatK (encP val) 2 zs.toArray) (eP (d'.toList.map val)) q hH (by rw [lj, hl]; simp)
   simpa using this
  rw [e1]
  exact hE.putP hg hl os
open Go.RowKit Go.Sort
theorem or_h (a b : Int) (w : World) (blk off c : Nat) (h0 : w.cell? ⟨blk, off, none⟩ = some (.int .i64 a)) (h1 : w.cell? ⟨blk, off + 1, none⟩ = some (.int .i64 b)) :
  Calls Tryz.prog 174 #[.slice (some ⟨blk, off, none⟩) 2 c] w fun e w' => e = .returned (.int .i64 (if a = 0 then b else a)) ∧ w' = w := by
 have g0 : w.cell? ⟨blk, off + 0, none⟩ = some (.int .i64 a) := h0
 go_enter Tryz.func174, Tryz.ntmps174
 go_wp2
 go_loop [8] (fun i => ∃ k : Nat, k ≤ 2 ∧ i = .int .i64 k ∧ Hid ((1 ≤ k → a = 0) ∧ (2 ≤ k → b = 0))) (fun i => 2 - (intOf i).toNat)
 case atStart => exact ⟨0, by omega, rfl, ⟨fun h => by omega, fun h => by omega⟩⟩
 case round =>
  obtain ⟨k, hk, rfl, HK⟩ := hrel
  rcases (by omega : k = 0 ∨ k = 1 ∨ k = 2) with rfl | rfl | rfl
  ·by_cases ha : a = 0
   ·go_wp2
    go_round
    case rel => exact ⟨1, by omega, by go_num, ⟨fun _ => ha, fun h => by omega⟩⟩
    case measure => simp [intOf]
   ·go_wp2
    go_ret
    exact ⟨gZ (by first | rfl | (rw [if_neg ha])), rfl⟩
  ·have ha := HK.out.1 (by omega)
   by_cases hb : b = 0
   ·go_wp2
    go_round
    case rel => exact ⟨2, by omega, by go_num, ⟨fun _ => ha, fun h => hb⟩⟩
    case measure => simp [intOf]
   ·go_wp2
    go_ret
    exact ⟨gZ (by first | rfl | (rw [if_pos ha])), rfl⟩
  ·have ha := HK.out.1 (by omega)
   have hb := HK.out.2 (by omega)
   go_wp2
   go_ret
   exact ⟨gZ (by first | rfl | (rw [if_pos ha, hb])), rfl⟩
theorem km (w : World) (cs : Array Value) (t B j : Nat) (hB : B = w.heap.size) : (w.alloc (.cells cs t)).cell? ⟨B, j, none⟩ = cs[j]? := by
 subst hB
 unfold World.cell?
 have : (w.alloc (.cells cs t)).heap[w.heap.size]? = some (.cells cs t) := by
  show (w.heap.push _)[w.heap.size]? = _
  rw [Array.getElem?_push, if_pos rfl]
 rw [this]; rfl
theorem m7 (w : World) (cs : Array Value) (t B j : Nat) (hB : B = w.heap.size) : (w.alloc (.cells cs t)).drew.cell? ⟨B, j, none⟩ = cs[j]? := km w cs t B j hB
def cfC (a b : Pt) : Int := if gH a.2 b.2 = 0 then gH a.1 b.1 else gH a.2 b.2
set_option maxHeartbeats 20000000 in
theorem before_h (x y : Pt) (W : World) : Calls Tryz.prog 133 #[.agg #[.int .i64 x.1, .int .i64 x.2], .agg #[.int .i64 y.1, .int .i64 y.2]] W fun e w' => e = .returned (.int .i64 (cfC x y)) ∧ ∃ q os', w' = grow (W.drewN q) os' := by
 have hcon := compare_h
 have hcon2 : ∀ (w : World) (blk off c : Nat), w.cell? ⟨blk, off, none⟩ = some (.int .i64 (gH x.2 y.2)) → w.cell? ⟨blk, off + 1, none⟩ = some (.int .i64 (gH x.1 y.1)) →
  Calls Tryz.prog 174 #[.slice (some ⟨blk, off, none⟩) 2 c] w fun e w' => e = .returned (.int .i64 (cfC x y)) ∧ w' = w := by
  intro w blk off c h0 h1
  have k := or_h (gH x.2 y.2) (gH x.1 y.1) w blk off c h0 h1
  unfold cfC
  exact k
 go_enter Tryz.func133, Tryz.ntmps133
 go_wp2_with (first | (go_at_call 175; refine (hcon _ _ _).mono ?_; rintro e w' ⟨rfl, rfl⟩) | fail)
 go_region_held3 (fun w' => w'.cell? ⟨W.heap.size, 0, none⟩ = some (.int .i64 x.1) ∧ w'.cell? ⟨W.heap.size, 1, none⟩ = some (.int .i64 x.2) ∧ w'.cell? ⟨W.heap.size + 1, 0, none⟩ = some (.int .i64 y.1) ∧ w'.cell? ⟨W.heap.size + 1, 1, none⟩ = some (.int .i64 y.2)) (go_keep)
  (first
   | (go_at_call 175; refine (hcon _ _ _).mono ?_; rintro e w' ⟨rfl, rfl⟩)
   | (go_at_call 174; refine (hcon2 _ _ _ _ ?h1 ?h2).mono ?_; case h1 => first | exact (km _ _ _ _ _ (by simp)).trans rfl | exact (m7 _ _ _ _ _ (by simp)).trans rfl
      case h2 => first | exact (km _ _ _ _ _ (by simp)).trans rfl | exact (m7 _ _ _ _ _ (by simp)).trans rfl
      rintro e w' ⟨rfl, rfl⟩))
 go_wp2
 go_ret
 exact ⟨rfl, 1, _, by rw [alloc_eq_grow, alloc_eq_grow, alloc_eq_grow, grow_grow, grow_grow]; rfl⟩
theorem kU (x y : Pt) : ltOf cfC x y = decide (cY x y) := by
 rw [Bool.eq_iff_iff]
 unfold ltOf
 rw [decide_eq_true_eq, decide_eq_true_eq]
 unfold cfC gH cY
 repeat' split
 all_goals omega
theorem swoC : SWO (ltOf cfC) where
 irrefl x := by rw [kU, decide_eq_false_iff_not]; exact befP_irr
 trans x y z h1 h2 := by
  rw [kU, decide_eq_true_eq] at *
  exact gY h1 h2
 ntrans x y z h1 h2 := by
  rw [kU, decide_eq_false_iff_not] at *
  unfold cY at *; omega
set_option maxRecDepth 100000 in
theorem sortc_c (H : ac) (b : Nat) (cap : Option Nat) (l : List Pt) (hb : H[b]? = some (.cells true 2 (prs l))) (h0 : 0 < l.length) (h1 : l.length ≤ 1000000) :
  ACalls Tryz.prog 132 [.sl (some (b, 0)) l.length cap, .fn 133 []] H (fun v H' => v = .tup [] ∧ H' = H.set b (.cells true 2 (prs (dB l)))) := by
 have eg : ∀ args w, (callFunc 133 args).run Tryz.prog w = .ok (.enter 133 args) w := enters_of Tryz.func133 (by kernel_rfl) rfl
 refine (sortc_f (α := Pt) id cfC swoC 133 eg (fun x y W => before_h x y W) (zs := l) (by rw [List.map_id]; exact hb) rfl h0 h1).mono ?_
 rintro v H' ⟨rfl, ys, hp, hs, rfl⟩
 have e : ys = dB l := by
  refine vX (hp.trans (fa l).symm) (hs.imp fun {x y} h => ?_) (iV l)
  rw [kU, decide_eq_false_iff_not] at h
  rcases leC_tot x y with k | k
  ·exact k
  ·unfold leC at k ⊢
   rcases k with k | k
   ·exact .inl k.symm
   ·exact absurd k h
 rw [List.map_id, e]
 exact ⟨rfl, rfl⟩
open Go.RowKit
theorem rt {l : List (Int × Int)} {i m : Nat} (h : i + m < l.length) : ((prs l).drop (i * 2 + m * 2)).take 2 = [.int .i64 (g1 l (i + m)), .int .i64 (g2 l (i + m))] := by
 rw [show i * 2 + m * 2 = (i + m) * 2 by omega]; exact cI h
def NoEq (l : List (Int × Int)) (i : Nat) : Prop := ∀ j : Nat, 1 ≤ j → (h : j < l.length) → j < i → l[j - 1]'(by omega) ≠ l[j]
theorem lS {l : List (Int × Int)} : ∀ {i : Nat}, i ≤ l.length → NoEq l i → ce (l.take i) = l.take i
 | 0, _, _ => rfl
 | 1, h, _ => cpt_1 (by rw [List.length_take]; omega)
 | i + 2, h, k => by
  rw [lI (by omega) (by omega), lS (i := i + 1) (by omega) (fun j h1 h2 h3 => k j h1 h2 (by omega)), if_neg (k (i + 1) (by omega) (by omega) (by omega)), ← List.take_succ_eq_append_getElem]
theorem padL_id (l : List (Int × Int)) : dL l.length l = l := by simp [dL]
set_option maxRecDepth 100000 in
theorem cpt_cell (H : ac) (b : Nat) (cap : Option Nat) (l : List (Int × Int)) (hb : H[b]? = some (.cells (bm l.length) 2 (prs l))) (hl : l.length ≤ 1000000000) :
  ACalls Tryz.prog 134 [.sl (some (b, 0)) l.length cap] H (fun v H' => v = .sl (some (b, 0)) (ce l).length none ∧ H' = H.set b (.cells (bm l.length) 2 (prs (dL l.length (ce l))))) := by
 have hbl := getElem?_lt hb
 have hset : ∀ X L, (H.set b X ++ L)[b]? = some X := fun X L => by rw [List.getElem?_append_left (by simpa using hbl), List.getElem?_set_self hbl]
 have hset0 : ∀ X, (H.set b X)[b]? = some X := fun X => List.getElem?_set_self hbl
 have hself : H.set b (.cells (bm l.length) 2 (prs l)) = H := by
  refine List.ext_getElem? fun i => ?_
  rw [List.getElem?_set]
  split
  ·rename_i e; subst e; first | exact hb.symm | (rw [if_pos hbl]; exact hb.symm)
  ·rfl
 have hend : ce l = l → H.set b (.cells (bm l.length) 2 (prs (dL l.length (ce l)))) = H := fun e => by rw [e, padL_id, hself]
 (refine cr try_mixed Tryz.func134 true _ rfl (Nat.le_of_ble_eq_true (by kernel_rfl)) (by kernel_rfl) ?_; intro hbel Q hQ hQ' c hc; unfold Tryz.f134 at hc; simp only [Option.some.injEq] at hc; subst hc; clear hQ')
 simp -implicitDefEqProofs (disch := omega) only [simprocAttr, aB, aC, Function.comp_apply, one1, lenV, ak, ar, au, aop, AV.ofValue, AV.ofCell, AV.cells, AV.flat, AV.one, arep, aN, aD, az]
 refine ai (fun h1 => ?_) (fun h1 => ?_)
 ·have h1d := of_decide_eq_true h1
  have e := cpt_1 (l := l) (by omega)
  simp -implicitDefEqProofs (disch := omega) only [h1, simprocAttr, aB, aC, Function.comp_apply, one1, lenV, ak, ar, au, aop, AV.ofValue, AV.ofCell, AV.cells, AV.flat, AV.one, arep, aN, aD, az]
  exact hQ _ _ (kA (.inl rfl) hbel (x1 := .sl (some (b, 0)) l.length cap) (l2 := []) (.sl (some (b, 0)) (ce l).length none) (ag Tryz.results134) [] rfl [] (by decide) ⟨rfl, by rw [List.append_nil, hend e]⟩ (by rw [e]; exact be))
 ·have h1d := of_decide_eq_false h1
  have hown : bm l.length = true := ec (by omega)
  rw [hown] at hb hself
  simp -implicitDefEqProofs (disch := omega) only [h1, simprocAttr, aB, aC, Function.comp_apply, one1, lenV, ak, ar, au, aop, AV.ofValue, AV.ofCell, AV.cells, AV.flat, AV.one, arep, aN, aD, az]
  refine go_loop try_mixed (by kernel_rfl) (fun k F Hx => ∃ i : Nat, i + k = l.length ∧ 1 ≤ i ∧ NoEq l i ∧ F = [(0, .sl (some (b, 0)) l.length cap), (3, .int .i64 ((i : Nat) : Int))] ∧ H = Hx) (l.length - 1) ?_ ?_
  ·refine ⟨_, _, _, ⟨1, by omega, by omega, fun j h2 h3 h4 => by omega, rfl, rfl⟩, Abs.by0 hbel ?_⟩
   exact be
  ·rintro k F Hx ⟨i, hik, hi1, hne, rfl, rfl⟩ J hJ
   by_cases hi : i < l.length
   ·have hii : (i : Int) < (l.length : Int) := by omega
    have q1 := cI (l := l) (j := i) hi
    have q2 := cI (l := l) (j := i - 1) (by omega)
    have hsub : ((i : Int) - 1).toNat = i - 1 := by omega
    simp -implicitDefEqProofs (disch := omega) only [hii, hb, q1, q2, hsub, bK, cO, simprocAttr, aB, aC, Function.comp_apply, one1, lenV, ak, ar, au, aop, AV.ofValue, AV.ofCell, AV.cells, AV.flat, AV.one, arep, aN, aD, az]
    repeat refine And.intro (by omega) ?_
    refine ai (fun h2 => ?_) (fun h2 => ?_)
    ·have heq : l[i - 1]'(by omega) = l[i] := by
      simp only [Bool.and_eq_true, beq_iff_eq] at h2
      rw [← cw hi, ← cw (show i - 1 < l.length by omega), h2.1, h2.2]
     have hc0 : ce (l.take (i + 1)) = l.take i := by rw [lI hi1 hi, if_pos heq, List.append_nil, lS (by omega) hne]
     have hcl : (ce (l.take (i + 1))).length = i := by rw [hc0, List.length_take]; omega
     have hsl : ((i : Int) - 0).toNat = i := by omega
     simp -implicitDefEqProofs (disch := omega) only [h2, hb, bK, cO, simprocAttr, aB, aC, Function.comp_apply, one1, lenV, ak, ar, au, aop, AV.ofValue, AV.ofCell, AV.cells, AV.flat, AV.one, arep, aN, aD, az]
     repeat refine And.intro (by omega) ?_
     refine go_loop try_mixed (by kernel_rfl) (fun k F Hx => ∃ (j c : Nat) (X : List (Int × Int)), j + k = l.length ∧ i + 1 ≤ j ∧ c = (ce (l.take j)).length ∧ c < j ∧ X.length = l.length ∧ X.take c = ce (l.take j) ∧ X.drop (j - 1) = l.drop (j - 1) ∧ F = [(0, .sl (some (b, 0)) l.length cap), (3, .int .i64 ((c : Nat) : Int)), (4, .sl (some (b, i * 2)) (l.length - i) none), (5, .int .i64 ((j - i : Nat) : Int))] ∧ Hx = H.set b (.cells true 2 (prs X))) (l.length - (i + 1)) ?_ ?_
     ·refine ⟨_, _, _, ⟨i + 1, i, l, by omega, by omega, hcl.symm, by omega, rfl, hc0.symm, rfl, rfl, rfl⟩, Abs.by0e hself hbel ?_⟩
      have hi1' : ((i + 1 - i : Nat) : Int) = 1 := by omega
      exact bp @hi1'
     ·rintro k F Hx ⟨j, c, X, hjk, hij, hc, hcj, hXl, hXt, hXd, rfl, rfl⟩ J2 hJ2
      obtain ⟨G, hG⟩ : ∃ G, G = H.set b (.cells true 2 (prs X)) := ⟨_, rfl⟩
      have hGl : G.length = H.length := by rw [hG, List.length_set]
      have hG1 : ∀ L, (G ++ L)[b]? = some (.cells true 2 (prs X)) := fun L => by rw [hG]; exact hset _ _
      have hG0 : G[b]? = some (.cells true 2 (prs X)) := by rw [hG]; exact hset0 _
      have hbG : b < G.length := by omega
      have hGs0 : ∀ Y, G.set b Y = H.set b Y := fun Y => by rw [hG, List.set_set]
      have hGs : ∀ Y L, (G ++ L).set b Y = H.set b Y ++ L := fun Y L => by rw [List.set_append_left _ _ hbG, hG, List.set_set]
      rw [← hG]
      have hbelG : HBel H.length G := by rw [hG]; exact HBel.put hbel b fu
      by_cases hj : j < l.length
      ·have hjj : ((j - i : Nat) : Int) < ((l.length - i : Nat) : Int) := by omega
       have hXj : ∀ q, j - 1 ≤ q → (hq : q < l.length) → X[q]'(by omega) = l[q] := fun q h1 hq => by
        have := congrArg (fun m => m[q - (j - 1)]?) hXd
        simp only [List.getElem?_drop] at this
        rw [show j - 1 + (q - (j - 1)) = q by omega, List.getElem?_eq_getElem (by omega), List.getElem?_eq_getElem hq] at this
        exact Option.some.inj this
       have q3 := rt (l := X) (i := i) (m := j - i) (by omega)
       have q4 := rt (l := X) (i := i) (m := j - i - 1) (by omega)
       have hsub2 : (((j - i : Nat) : Int) - 1).toNat = j - i - 1 := by omega
       rw [show i + (j - i) = j by omega] at q3
       rw [show i + (j - i - 1) = j - 1 by omega] at q4
       simp -implicitDefEqProofs (disch := omega) only [hjj, hG1, hG0, q3, q4, hsub2, bK, cO, simprocAttr, aB, aC, Function.comp_apply, one1, lenV, ak, ar, au, aop, AV.ofValue, AV.ofCell, AV.cells, AV.flat, AV.one, arep, aN, aD, az]
       repeat refine And.intro (by omega) ?_
       have hst := lI (l := l) (j := j) (by omega) hj
       have hcX : c < X.length := by omega
       have hjj2 : ((j + 1 - i : Nat) : Int) = ((j - i : Nat) : Int) + 1 := by omega
       have hpj := cw (l := X) (j := j) (by omega)
       have hpj1 := cw (l := X) (j := j - 1) (by omega)
       have hp2 := vN (a := g1 X j) (b := g2 X j) hcX
       have hXd2 : X.drop j = l.drop j := by
        have := congrArg (fun m => m.drop 1) hXd
        simp only [List.drop_drop] at this
        rwa [show j - 1 + 1 = j by omega] at this
       refine ai (fun h3 => ?_) (fun h3 => ?_)
       ·have hdif : ¬ l[j - 1]'(by omega) = l[j] := fun e => by
         rw [← hXj (j - 1) (by omega) (by omega), ← hXj j (by omega) hj, ← hpj, ← hpj1] at e
         simp only [Prod.mk.injEq] at e
         rw [e.1, e.2] at h3
         simp at h3
        rw [if_neg hdif] at hst
        have hl5 : (ce (l.take (j + 1))).length = c + 1 := by rw [hst, List.length_append, hc]; rfl
        simp -implicitDefEqProofs (disch := omega) only [h3, hG1, hG0, hGs, hGs0, q3, hp2, bK, cO, simprocAttr, aB, aC, Function.comp_apply, one1, lenV, ak, ar, au, aop, AV.ofValue, AV.ofCell, AV.cells, AV.flat, AV.one, arep, aN, aD, az]
        repeat refine And.intro (by omega) ?_
        refine hJ2 _ _ ⟨k - 1, by omega, _, _, _, ⟨j + 1, c + 1, X.set c (g1 X j, g2 X j), by omega, by omega, hl5.symm, by omega, by rw [List.length_set]; exact hXl, ?_, ?_, rfl, rfl⟩, Abs.byS0 (by rw [List.length_set]) (HBel.put hbel b fu) ?_⟩
        ·rw [hst, List.take_succ_eq_append_getElem (by rw [List.length_set]; exact hcX), List.getElem_set_self, List.take_set_of_le (Nat.le_refl _), hXt, hpj, hXj j (by omega) hj]
        ·rw [show j + 1 - 1 = j by omega, List.drop_set_of_lt (by omega), hXd2]
        exact bp (jn @hjj2 (jn @Int.natCast_add @Int.natCast_one))
       ·have heq2 : l[j - 1]'(by omega) = l[j] := by
         rw [← hXj (j - 1) (by omega) (by omega), ← hXj j (by omega) hj, ← hpj, ← hpj1]
         simp only [Bool.not_eq_false', Bool.and_eq_true, beq_iff_eq] at h3
         rw [h3.1, h3.2]
        rw [if_pos heq2, List.append_nil] at hst
        simp -implicitDefEqProofs (disch := omega) only [h3, simprocAttr, aB, aC, Function.comp_apply, one1, lenV, ak, ar, au, aop, AV.ofValue, AV.ofCell, AV.cells, AV.flat, AV.one, arep, aN, aD, az]
        refine hJ2 _ _ ⟨k - 1, by omega, _, _, _, ⟨j + 1, c, X, by omega, by omega, by rw [hst]; exact hc, by omega, hXl, by rw [hst]; exact hXt, by rw [show j + 1 - 1 = j by omega]; exact hXd2, rfl, hG⟩, Abs.byS0 hGl hbelG ?_⟩
        exact bp (jn @hjj2 (jn @Int.natCast_add @Int.natCast_one))
      ·have hjj : ¬ ((j - i : Nat) : Int) < ((l.length - i : Nat) : Int) := by omega
       have hrep := (prs_rep (m := l.length - c)).symm
       have hne0 : (l.length - c == 0) = false := beq_eq_false_iff_ne.2 (by omega)
       have hspl := mT (l := X) (ys := List.replicate (l.length - c) (0, 0)) (i := c) (by rw [List.length_replicate]; omega)
       rw [hXt] at hspl
       simp -implicitDefEqProofs (disch := omega) only [hjj, hG1, hG0, hrep, hne0, hspl, hGs0, bK, cO, List.length_replicate, hset0, simprocAttr, aB, aC, Function.comp_apply, one1, lenV, ak, ar, au, aop, AV.ofValue, AV.ofCell, AV.cells, AV.flat, AV.one, arep, aN, aD, az]
       refine ⟨by omega, ⟨by omega, .inl (Nat.le_refl _)⟩, by omega, by omega, ⟨by omega, .inl (by omega)⟩, ?_⟩
       obtain rfl : j = l.length := by omega
       rw [List.take_length] at hc ⊢
       refine hQ _ _ (end_byS (by rw [List.length_set]) (.inl rfl) (HBel.put hbel b fu) (x1 := .sl (some (b, 0)) (c - 0) (Option.map (fun x => x - 0) cap)) (.sl (some (b, 0)) (ce l).length none) (ag Tryz.results134) ⟨rfl, by rw [hown, hc]; rfl⟩ ?_)
       exact bp (jn @hc @Nat.sub_zero)
    ·have hdif : ¬ l[i - 1]'(by omega) = l[i] := fun e => by
      rw [← cw hi, ← cw (show i - 1 < l.length by omega)] at e
      simp only [Prod.mk.injEq] at e
      rw [e.1, e.2] at h2
      simp at h2
     simp -implicitDefEqProofs (disch := omega) only [h2, simprocAttr, aB, aC, Function.comp_apply, one1, lenV, ak, ar, au, aop, AV.ofValue, AV.ofCell, AV.cells, AV.flat, AV.one, arep, aN, aD, az]
     refine hJ _ _ ⟨k - 1, by omega, _, _, _, ⟨i + 1, by omega, by omega, fun j h3 h4 h5 => by
      rcases Nat.lt_or_ge j i with h6 | h6
      ·exact hne j h3 h4 h6
      ·obtain rfl : j = i := by omega
       exact hdif, rfl, rfl⟩, Abs.by0 hbel ?_⟩
     exact bp (jn @Int.natCast_add @Int.natCast_one)
   ·have hii : ¬ (i : Int) < (l.length : Int) := by omega
    obtain rfl : i = l.length := by omega
    have e : ce l = l := by have := lS (Nat.le_refl _) hne; rwa [List.take_length] at this
    simp -implicitDefEqProofs (disch := omega) only [hii, simprocAttr, aB, aC, Function.comp_apply, one1, lenV, ak, ar, au, aop, AV.ofValue, AV.ofCell, AV.cells, AV.flat, AV.one, arep, aN, aD, az]
    exact hQ _ _ (kA (.inl rfl) hbel (x1 := .sl (some (b, 0)) l.length cap) (l2 := []) (.sl (some (b, 0)) (ce l).length none) (ag Tryz.results134) [] rfl [] (by decide) ⟨rfl, by rw [List.append_nil, hend e]⟩ (by rw [e]; exact be))
open Go.RowKit
theorem bits0_c (H : ac) : ACalls Tryz.prog 173 [.int .u64 0] H (fun v H' => v = .int .i64 0 ∧ H' = H) := by
 have h := ext_ok 173 [.int .u64 0] H (.int .i64 0) none (by kernel_rfl)
 exact h.2.2
theorem ins0_c (H : ac) (s : AV)   (g : FuncId) (hs : Sl H 2 s 0 []) : ACalls Tryz.prog 199 [s, .int .i64 0, .int .i64 0, .fn g []] H (fun v H' => v = .tup [] ∧ H' = H) := by
 obtain ⟨bs, os, cs, rfl, hbs⟩ := hs
 have hbls := getElem?_lt hbs
 have hb0s := fun l => aw (l := l) hbs
 refine AcN true Tryz.func199 ?_; intro hbel Q hQ
 have g'1 := (jn @hbs @hb0s)
 refine aa g'1 ?_
 refine go_loop try_mixed (by kernel_rfl) (fun k F Hx => ∃ z : Unit, k = 0 ∧ F = [(0, .sl (some (bs, 0)) 0 cs), (1, .int .i64 0), (2, .int .i64 0), (3, .fn g []), (8, .int .i64 1)] ∧ H = Hx) (0) ?_ ?_
 ·refine ⟨_, _, _, ⟨(), by omega, rfl, rfl⟩, Abs.by0 hbel ?_⟩
  exact be
 ·rintro k0 F Hx ⟨z, hm0, rfl, rfl⟩ J0 hJ0
  refine aa g'1 ?_
  exact hQ _ _ (aF (by first | exact .inl rfl | exact .inr rfl) hbel (x := .tup []) (ag Tryz.results199) rfl ⟨rfl, rfl⟩)
theorem pdq0_c (H : ac) (s : AV)   (m : Int) (g : FuncId) (hs : Sl H 2 s 0 []) : ACalls Tryz.prog 172 [s, .int .i64 0, .int .i64 0, .int .i64 m, .fn g []] H (fun v H' => v = .tup [] ∧ H' = H) := by
 obtain ⟨bs, os, cs, rfl, hbs⟩ := hs
 have hbls := getElem?_lt hbs
 have hb0s := fun l => aw (l := l) hbs
 refine AcT true Tryz.func172 ?_; intro hbel Q hQ
 have g'2 := (jn @hbs @hb0s)
 refine aa g'2 ?_
 refine go_loop try_mixed (by kernel_rfl) (fun k F Hx => ∃ z : Unit, k = 0 ∧ F = [(0, .sl (some (bs, 0)) 0 cs), (1, .int .i64 0), (2, .int .i64 0), (3, .int .i64 m), (4, .fn g []), (10, .bool true), (11, .bool true)] ∧ H = Hx) (0) ?_ ?_
 ·refine ⟨_, _, _, ⟨(), by omega, rfl, rfl⟩, Abs.by0 hbel ?_⟩
  exact be
 ·rintro k0 F Hx ⟨z, hm0, rfl, rfl⟩ J0 hJ0
  refine aa g'2 ?_
  refine af (by kernel_rfl) (ins0_c _ _ g ⟨_, _, _, rfl, by first | exact hb0s _ | exact hbs⟩) ?_
  refine aa g'2 ?_
  exact hQ _ _ (aF (.inl rfl) hbel (x := .tup []) (ag Tryz.results172) rfl ⟨rfl, rfl⟩)
theorem srt0_c (H : ac) (s : AV) (g : FuncId) (hs : Sl H 2 s 0 []) : ACalls Tryz.prog 132 [s, .fn g []] H (fun v H' => v = .tup [] ∧ H' = H) := by
 obtain ⟨bs, os, cs, rfl, hbs⟩ := hs
 have hbls := getElem?_lt hbs
 have hb0s := fun l => aw (l := l) hbs
 refine AcN true Tryz.func132 ?_; intro hbel Q hQ
 have g'3 := (jn @hbs @hb0s)
 refine aa g'3 ?_
 refine af (by kernel_rfl) (bits0_c _) ?_
 refine aa g'3 ?_
 refine af (by kernel_rfl) (pdq0_c _ _ 0 g ⟨_, _, _, rfl, by first | exact hb0s _ | exact hbs⟩) ?_
 refine aa g'3 ?_
 exact hQ _ _ (aF (by first | exact .inl rfl | exact .inr rfl) hbel (x := .tup []) (ag Tryz.results132) rfl ⟨rfl, rfl⟩)
open Go.RowKit
theorem srtk_c (H : ac) (b : Nat) (cap : Option Nat) (l : List (Int × Int)) (hb : H[b]? = some (.cells (bm l.length) 2 (prs l))) (h1 : l.length ≤ 1000000) :
  ACalls Tryz.prog 132 [.sl (some (b, 0)) l.length cap, .fn 133 []] H (fun v H' => v = .tup [] ∧ H' = H.set b (.cells (bm l.length) 2 (prs (dB l)))) := by
 rcases Nat.eq_zero_or_pos l.length with h0 | h0
 ·obtain rfl := List.eq_nil_of_length_eq_zero h0
  rw [lJ]
  have hself : H.set b (.cells (bm ([] : List (Int × Int)).length) 2 (prs [])) = H := by
   refine List.ext_getElem? fun i => ?_
   rw [List.getElem?_set]
   split
   ·rename_i e; subst e; first | exact hb.symm | (rw [if_pos (getElem?_lt hb)]; exact hb.symm)
   ·rfl
  rw [hself]
  exact srt0_c H _ _ ⟨b, _, cap, rfl, hb⟩
 ·rw [ec h0] at hb ⊢
  exact sortc_c H b cap l hb h0 h1
theorem cptk_c (H : ac) (b : Nat) (cap : Option Nat) (l : List (Int × Int)) (hb : H[b]? = some (.cells (bm l.length) 2 (prs (dB l)))) (h1 : l.length ≤ 1000000) :
  ACalls Tryz.prog 134 [.sl (some (b, 0)) l.length cap] H (fun v H' => v = .sl (some (b, 0)) (ce (dB l)).length none ∧ H' = H.set b (.cells (bm l.length) 2 (prs (dL (dB l).length (ce (dB l)))))) := by
 have h := cpt_cell H b cap (dB l) (by rw [gg]; exact hb) (by rw [gg]; omega)
 rw [gg l] at h ⊢
 exact h
theorem kall_c (H : ac) (W : Int) (Hh : Int) (pp : AV) (xs : List Int) (s : AV) (l : List T6) (q : AV) (sc : List (Int × Int)) (g : Int) (hpp : Sl H 1 pp xs.length (ints .u8 xs)) (hs : Sl H 6 s l.length (r6 l)) (hq : Sl H 2 q sc.length (prs sc)) (hV : bW W Hh xs = true) (hS : bP l = true) (hl0 : 0 < l.length) (hsB : ct sc = true) (hg : 1 ≤ g ∧ g ≤ 32) : ACalls Tryz.prog 96 [.agg [.int .i64 W, .int .i64 Hh, pp], s, q, .int .i64 g] H (fun v H' => v = .sl (some (H.length, 0)) ((ba W Hh l sc g).length) none ∧ H' = H ++ [.cells (bm (gL W Hh l sc g).length) 2 (prs (ba W Hh l sc g))]) := by
 obtain ⟨bpp, opp, cpp, rfl, hbpp⟩ := hpp
 have hblpp := getElem?_lt hbpp
 have hb0pp := fun l => aw (l := l) hbpp
 obtain ⟨bs, os, cs, rfl, hbs⟩ := hs
 have hbls := getElem?_lt hbs
 have hb0s := fun l => aw (l := l) hbs
 obtain ⟨bq, oq, cq, rfl, hbq⟩ := hq
 have hblq := getElem?_lt hbq
 have hb0q := fun l => aw (l := l) hbq
 have hsc := da.1 hsB
 have hpl := kP W Hh l sc g sc.length
 refine AcT false Tryz.func96 ?_; intro hbel Q hQ
 have g'1 := (jn @hbpp (jn @hb0pp (jn @hbs (jn @hb0s (jn @hbq @hb0q)))))
 refine aa g'1 ?_
 refine af (by kernel_rfl) (kl _ _ l ⟨_, _, _, rfl, by first | exact hb0s _ | exact hbs⟩ (by assumption)) ?_
 refine aa g'1 ?_
 refine ai (fun h1 => ?_) (fun h1 => ?_)
 ·have h1d := bsT h1
  have hfinA := allL_nil (W := W) (Hh := Hh) (sc := sc) (g := g) h1d
  have g'2 := (jn @h1 (jn @h1d g'1))
  refine aa g'2 ?_
  refine hQ _ _ (bB (.inl rfl) hbel (x1 := .sl none 0 (some 0)) (l2 := [.cells false 2 []]) (.sl (some (H.length, 0)) 0 none) (ag Tryz.results96) [.cells false 2 []] rfl [1] (by decide) ⟨by first | (rw [hfinA.1]; done) | (rw [hfinA.1]; rfl) | rfl | (unfold ba; rw [hfinB]; done) | (unfold bF; rw [hfinB]; done) | skip, by first | (rw [hfinA.1, hfinA.2]; rfl) | (unfold ba; rw [hfinB]; rfl) | (unfold ba; rw [hfinB]; done) | skip⟩ ?_)
  exact bp @iy
 ·have h1d := bsT h1
  have htau := h1d
  have hfinB : gL W Hh l sc g = prS W Hh l sc g sc.length := if_pos htau
  have g'3 := (jn @h1 (jn @h1d g'1))
  refine aa g'3 ?_
  refine go_loop try_mixed (by kernel_rfl) (fun k F Hx => ∃ i : Nat, i + k = sc.length ∧ F = [(1, .sl (some (bs, 0)) l.length cs), (3, .int .i64 g), (4, .ptr (some (H.length, 0))), (9, .sl (some (H.length + 1, 0)) ((prS W Hh l sc g i).length) (bG (prS W Hh l sc g i).length)), (15, .sl (some (bq, 0)) sc.length cq), (16, .int .i64 ((sc.length : Nat) : Int)), (17, .int .i64 ((i : Nat) : Int))] ∧ Hx = H ++ [.cells true 0 [.int .i64 W, .int .i64 Hh, .sl (some (bpp, 0)) xs.length cpp], .cells (bm (prS W Hh l sc g i).length) 2 (prs (prS W Hh l sc g i))]) (sc.length) ?_ ?_
  ·refine ⟨_, _, _, ⟨0, by omega, rfl, rfl⟩, Abs.byG hbel [.cells false 2 []] rfl [0, 1] (by decide) ?_⟩
   exact aM @prS.eq_1
  ·rintro k0 F Hx ⟨i, hm0, rfl, rfl⟩ J0 hJ0
   have g'4 := (jn @bK (jn @cO g'3))
   refine aa g'4 ?_
   refine ai (fun h2 => ?_) (fun h2 => ?_)
   ·have h2d := bsT h2
    have hlt : i < sc.length := by omega
    have hbi := e6.1 (hsc.2 _ (List.getElem_mem hlt))
    rw [← cw hlt] at hbi
    have hpi := kP W Hh l sc g i
    have hvl := vU W Hh l (g1 sc i) (g2 sc i) g
    have q3 := cI (l := sc) (j := i) (by omega)
    have g'5 := (jn @h2 (jn @h2d (jn @q3 g'4)))
    refine aa g'5 ?_
    refine af (by kernel_rfl) (proven_c _ W Hh _ xs _ l (g1 sc i) (g2 sc i) g ⟨_, _, _, rfl, by first | exact hb0pp _ | exact hbpp⟩ ⟨_, _, _, rfl, by first | exact hb0s _ | exact hbs⟩ hV hS hl0 (by omega) (by omega)) ?_
    rcases Nat.eq_zero_or_pos ((ef W Hh l (g1 sc i) (g2 sc i) g).length) with h4 | h4
    ·have h4e : ef W Hh l (g1 sc i) (g2 sc i) g = [] := List.eq_nil_of_length_eq_zero h4
     rcases Nat.eq_zero_or_pos ((prS W Hh l sc g i).length) with h5 | h5
     ·have h5e : prS W Hh l sc g i = [] := List.eq_nil_of_length_eq_zero h5
      have g'6 := (jn @h4 (jn @h5 (jn @mN (jn @mO g'5))))
      refine aa g'6 ?_
      refine hJ0 _ _ ⟨k0 - 1, by omega, _, _, _, ⟨i + 1, by omega, rfl, rfl⟩, Abs.byG hbel [] rfl [0, 1] (by decide) ?_⟩
      exact aM (jn @prS.eq_2 (jn @List.append_nil.{0} (jn @h4e @h5e)))
     ·have h5c := j6 h5
      have h5o := ec h5
      have h5z : ((prS W Hh l sc g i).length == 0) = false := beq_eq_false_iff_ne.2 (by omega)
      have g'7 := (jn @h4 (jn @h5c (jn @h5o (jn @h5z (jn @kG g'5)))))
      refine aa g'7 ?_
      refine hJ0 _ _ ⟨k0 - 1, by omega, _, _, _, ⟨i + 1, by omega, rfl, rfl⟩, Abs.byG hbel [] rfl [0, 4] (by decide) ?_⟩
      exact aM (jn @prS.eq_2 (jn @List.append_nil.{0} (jn @h4e (jn @h5c (jn @h5o @Nat.add_zero)))))
    ·have h4z : decide (0 < (ef W Hh l (g1 sc i) (g2 sc i) g).length) = true := decide_eq_true h4
     have h4c := j6 (n := (prS W Hh l sc g i).length + (ef W Hh l (g1 sc i) (g2 sc i) g).length) (by omega)
     have h4o := ec (n := (prS W Hh l sc g i).length + (ef W Hh l (g1 sc i) (g2 sc i) g).length) (by omega)
     have g'8 := (jn @h4 (jn @h4z (jn @kG g'5)))
     refine aa g'8 ?_
     refine hJ0 _ _ ⟨k0 - 1, by omega, _, _, _, ⟨i + 1, by omega, rfl, rfl⟩, Abs.byG hbel [] rfl [0, 4] (by decide) ?_⟩
     exact aM (jn @prS.eq_2 (jn @List.append_nil.{0} (jn @h4c @h4o)))
   ·have h2d := bsT h2
    obtain rfl : i = sc.length := by omega
    have g'9 := (jn @h2 (jn @h2d g'4))
    refine aa g'9 ?_
    refine af (by kernel_rfl) (srtk_c _ _ _ (prS W Hh l sc g sc.length) (by first | (rw [ap]; rfl) | (rw [al]; rfl) | rfl) (by omega)) ?_
    refine aa g'9 ?_
    refine af (by kernel_rfl) (cptk_c _ _ _ (prS W Hh l sc g sc.length) (by first | (rw [ap]; rfl) | (rw [al]; rfl) | rfl) (by omega)) ?_
    refine aa g'9 ?_
    refine hQ _ _ (bB (.inl rfl) hbel (x1 := .sl (some (H.length + 1, 0)) ((ce (dB (prS W Hh l sc g sc.length))).length) none) (l2 := [.cells (bm (prS W Hh l sc g sc.length).length) 2 (prs (ce (dB (prS W Hh l sc g sc.length))))]) (.sl (some (H.length, 0)) ((ce (dB (prS W Hh l sc g sc.length))).length) none) (ag Tryz.results96) [] rfl [1] (by decide) ⟨by first | (rw [hfinA.1]; done) | (rw [hfinA.1]; rfl) | rfl | (unfold ba; rw [hfinB]; done) | (unfold bF; rw [hfinB]; done) | skip, by first | (rw [hfinA.1, hfinA.2]; rfl) | (unfold ba; rw [hfinB]; rfl) | (unfold ba; rw [hfinB]; done) | skip⟩ ?_)
    exact bp @iy
open Go.RowKit
theorem ksus_c (H : ac) (s : AV) (l : List T6) (m : Int) (r : Int) (g : Int) (hs : Sl H 6 s l.length (r6 l)) (hS : bP l = true) (hr : -1 ≤ r ∧ r ≤ 1024) (hg : 1 ≤ g ∧ g ≤ 32) : ACalls Tryz.prog 98 [s, .agg [.int .i64 m, .int .i64 r], .int .i64 g] H (fun v H' => v = .sl (some (H.length, 0)) ((bF l m r g).length) none ∧ H' = H ++ [.cells (bm (fw l m r g).length) 2 (prs (bF l m r g))]) := by
 obtain ⟨bs, os, cs, rfl, hbs⟩ := hs
 have hbls := getElem?_lt hbs
 have hb0s := fun l => aw (l := l) hbs
 have hda := jz hS m
 have hsl := kQ (av l m) r g (av l m).length
 have hpair : ∀ j', j' < (av l m).length → bxB (g91 (av l m) j') (g92 (av l m) j') (g93 (av l m) j') (g94 (av l m) j') (g95 (av l m) j') (g96 (av l m) j') = true := fun j' hj' => by
  have k := nm hS (g9_mem hj')
  unfold pairB at k; rw [Bool.and_eq_true] at k; exact k.1
 refine AcT false Tryz.func98 ?_; intro hbel Q hQ
 have g'1 := (jn @hbs @hb0s)
 refine aa g'1 ?_
 refine aj (fun h1 => ?_) (fun h1 => ?_)
 ·have h1d := bsT h1
  have h1n := bnT h1
  have hr1 : ¬ r = -1 := by simpa using h1d
  have g'2 := (jn @h1 (jn @h1n (jn @aU (jn @aT g'1))))
  refine aa g'2 ?_
  refine af (by kernel_rfl) (kl _ _ l ⟨_, _, _, rfl, by first | exact hb0s _ | exact hbs⟩ (by assumption)) ?_
  refine aa g'2 ?_
  refine ai (fun h2 => ?_) (fun h2 => ?_)
  ·have h2d := bsT h2
   have hfinA := vY (l := l) (m := m) (r := r) (g := g) (.inr h2d)
   have g'3 := (jn @h2 (jn @h2d g'2))
   refine aa g'3 ?_
   refine hQ _ _ (bB (.inl rfl) hbel (x1 := .sl none 0 (some 0)) (l2 := [.cells false 2 []]) (.sl (some (H.length, 0)) 0 none) (ag Tryz.results98) [.cells false 2 []] rfl [1] (by decide) ⟨by first | (rw [hfinA.1]; done) | (rw [hfinA.1]; rfl) | (unfold bF; rw [hfinB]; done) | skip, by first | (rw [hfinA.1, hfinA.2]; rfl) | (unfold bF; rw [hfinB]; rfl) | (unfold bF; rw [hfinB]; done) | skip⟩ ?_)
   exact bp @iy
  ·have h2d := bsT h2
   have htau := h2d
   have hdt := dirA_tau hS htau m
   have hfinB : fw l m r g = swS (av l m) r g (av l m).length := by unfold fw; rw [decide_eq_false hr1, htau]; rfl
   have g'4 := (jn @h2 (jn @h2d g'2))
   refine aa g'4 ?_
   refine af (by kernel_rfl) (jB _ _ l m r ⟨_, _, _, rfl, by first | exact hb0s _ | exact hbs⟩ (by assumption)) ?_
   refine aa g'4 ?_
   refine go_loop try_mixed (by kernel_rfl) (fun k F Hx => ∃ i : Nat, i + k = (av l m).length ∧ F = [(2, .int .i64 g), (4, .ptr (some (H.length, 0))), (7, .sl (some (H.length + 2, 0)) ((swS (av l m) r g i).length) (bG (swS (av l m) r g i).length)), (22, .sl (some (H.length + 1, 0)) ((av l m).length) (bG (av l m).length)), (23, .int .i64 (((av l m).length : Nat) : Int)), (24, .int .i64 ((i : Nat) : Int))] ∧ Hx = H ++ [.cells true 0 [.int .i64 m, .int .i64 r], .cells (bm (av l m).length) 9 (r9 (av l m)), .cells (bm (swS (av l m) r g i).length) 2 (prs (swS (av l m) r g i))]) ((av l m).length) ?_ ?_
   ·refine ⟨_, _, _, ⟨0, by omega, rfl, rfl⟩, Abs.byG hbel [.cells false 2 []] rfl [0, 1, 2] (by decide) ?_⟩
    exact aM (jn @swS.eq_1 (jn @bI (jn @bO (jn @cu @co))))
   ·rintro k0 F Hx ⟨i, hm0, rfl, rfl⟩ J0 hJ0
    have g'5 := (jn @dZ (jn @kj (jn @bK (jn @cO g'4))))
    refine aa g'5 ?_
    refine ai (fun h3 => ?_) (fun h3 => ?_)
    ·have h3d := bsT h3
     have hpi := hpair i (by omega)
     have hsi := kQ (av l m) r g i
     have hvl := lF (g91 (av l m) i) (g92 (av l m) i) (g93 (av l m) i) (g94 (av l m) i) (g97 (av l m) i) (g98 (av l m) i) (g99 (av l m) i) (if 0 < r - g then r - g else 0) (r + g)
     have q4 := r9_load (l := av l m) (j := i) (by omega)
     have g'6 := (jn @h3 (jn @h3d (jn @q4 g'5)))
     refine aa g'6 ?_
     refine aK (by kernel_rfl) (rect_c _ (g91 (av l m) i) (g92 (av l m) i) (g93 (av l m) i) (g94 (av l m) i) (g95 (av l m) i) (g96 (av l m) i) hpi) ?_
     refine aa g'6 ?_
     refine cg (by kernel_rfl) (by simp) (swept_c _ (g91 (av l m) i) (g92 (av l m) i) (g93 (av l m) i) (g94 (av l m) i) (g97 (av l m) i) (g98 (av l m) i) (g99 (av l m) i) (if 0 < (r - g) then (r - g) else 0) (r + g)) ?_
     rcases Nat.eq_zero_or_pos ((cM (g91 (av l m) i) (g92 (av l m) i) (g93 (av l m) i) (g94 (av l m) i) (g97 (av l m) i) (g98 (av l m) i) (g99 (av l m) i) (if 0 < (r - g) then (r - g) else 0) (r + g)).length) with h5 | h5
     ·have h5e : cM (g91 (av l m) i) (g92 (av l m) i) (g93 (av l m) i) (g94 (av l m) i) (g97 (av l m) i) (g98 (av l m) i) (g99 (av l m) i) (if 0 < (r - g) then (r - g) else 0) (r + g) = [] := List.eq_nil_of_length_eq_zero h5
      rcases Nat.eq_zero_or_pos ((swS (av l m) r g i).length) with h6 | h6
      ·have h6e : swS (av l m) r g i = [] := List.eq_nil_of_length_eq_zero h6
       have g'7 := (jn @h5 (jn @h6 (jn @mN (jn @mO g'6))))
       refine aa g'7 ?_
       refine hJ0 _ _ ⟨k0 - 1, by omega, _, _, _, ⟨i + 1, by omega, rfl, rfl⟩, Abs.byG hbel [] rfl [0, 1, 2] (by decide) ?_⟩
       exact aM (jn @swS.eq_2 (jn @List.append_nil.{0} (jn @h5e (jn @h6e (jn @bI (jn @bO (jn @cu @co)))))))
      ·have h6c := j6 h6
       have h6o := ec h6
       have h6z : ((swS (av l m) r g i).length == 0) = false := beq_eq_false_iff_ne.2 (by omega)
       have g'8 := (jn @h5 (jn @h6c (jn @h6o (jn @h6z (jn @kG g'6)))))
       refine aa g'8 ?_
       refine hJ0 _ _ ⟨k0 - 1, by omega, _, _, _, ⟨i + 1, by omega, rfl, rfl⟩, Abs.byG hbel [] rfl [0, 1, 5] (by decide) ?_⟩
       exact aM (jn @swS.eq_2 (jn @List.append_nil.{0} (jn @h5e (jn @h6c (jn @h6o (jn @Nat.add_zero (jn @bI (jn @bO (jn @cu @co)))))))))
     ·have h5z : decide (0 < (cM (g91 (av l m) i) (g92 (av l m) i) (g93 (av l m) i) (g94 (av l m) i) (g97 (av l m) i) (g98 (av l m) i) (g99 (av l m) i) (if 0 < (r - g) then (r - g) else 0) (r + g)).length) = true := decide_eq_true h5
      have h5c := j6 (n := (swS (av l m) r g i).length + (cM (g91 (av l m) i) (g92 (av l m) i) (g93 (av l m) i) (g94 (av l m) i) (g97 (av l m) i) (g98 (av l m) i) (g99 (av l m) i) (if 0 < (r - g) then (r - g) else 0) (r + g)).length) (by omega)
      have h5o := ec (n := (swS (av l m) r g i).length + (cM (g91 (av l m) i) (g92 (av l m) i) (g93 (av l m) i) (g94 (av l m) i) (g97 (av l m) i) (g98 (av l m) i) (g99 (av l m) i) (if 0 < (r - g) then (r - g) else 0) (r + g)).length) (by omega)
      have g'9 := (jn @h5 (jn @h5z (jn @kG g'6)))
      refine aa g'9 ?_
      refine hJ0 _ _ ⟨k0 - 1, by omega, _, _, _, ⟨i + 1, by omega, rfl, rfl⟩, Abs.byG hbel [] rfl [0, 1, 5] (by decide) ?_⟩
      exact aM (jn @swS.eq_2 (jn @List.append_nil.{0} (jn @h5c (jn @h5o (jn @bI (jn @bO (jn @cu @co)))))))
    ·have h3d := bsT h3
     obtain rfl : i = (av l m).length := by omega
     have g'10 := (jn @h3 (jn @h3d g'5))
     refine aa g'10 ?_
     refine af (by kernel_rfl) (srtk_c _ _ _ (swS (av l m) r g (av l m).length) (by first | (rw [ap]; rfl) | (rw [al]; rfl) | rfl) (by omega)) ?_
     refine aa g'10 ?_
     refine af (by kernel_rfl) (cptk_c _ _ _ (swS (av l m) r g (av l m).length) (by first | (rw [ap]; rfl) | (rw [al]; rfl) | rfl) (by omega)) ?_
     refine aa g'10 ?_
     refine hQ _ _ (bB (.inl rfl) hbel (x1 := .sl (some (H.length + 2, 0)) ((ce (dB (swS (av l m) r g (av l m).length))).length) none) (l2 := [.cells (bm (swS (av l m) r g (av l m).length).length) 2 (prs (ce (dB (swS (av l m) r g (av l m).length))))]) (.sl (some (H.length, 0)) ((ce (dB (swS (av l m) r g (av l m).length))).length) none) (ag Tryz.results98) [] rfl [2] (by decide) ⟨by first | (rw [hfinA.1]; done) | (rw [hfinA.1]; rfl) | (unfold bF; rw [hfinB]; done) | skip, by first | (rw [hfinA.1, hfinA.2]; rfl) | (unfold bF; rw [hfinB]; rfl) | (unfold bF; rw [hfinB]; done) | skip⟩ ?_)
     exact bp @iy
 ·have h1d := bsT h1
  have h1n := bnT h1
  have hr1 : r = -1 := by simpa using h1d
  have hfinA := vY (l := l) (m := m) (g := g) (.inl hr1)
  have g'11 := (jn @h1 (jn @h1n (jn @aU (jn @aT g'1))))
  refine aa g'11 ?_
  refine hQ _ _ (bB (.inl rfl) hbel (x1 := .sl none 0 (some 0)) (l2 := [.cells false 2 []]) (.sl (some (H.length, 0)) 0 none) (ag Tryz.results98) [.cells false 2 []] rfl [1] (by decide) ⟨by first | (rw [hfinA.1]; done) | (rw [hfinA.1]; rfl) | (unfold bF; rw [hfinB]; done) | skip, by first | (rw [hfinA.1, hfinA.2]; rfl) | (unfold bF; rw [hfinB]; rfl) | (unfold bF; rw [hfinB]; done) | skip⟩ ?_)
  exact bp @iy
open Go.RowKit
end Go.Proofs.YtojbkljfioegkaaGreat
