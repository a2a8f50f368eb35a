/- Parts of the proof: walks and plain facts. Conditions: as each theorem states. -/
import Derived.Test.YtojbkljfioegkaaGreatG4
import Derived.Test.YtojbkljfioegkaaGreatG2
import Derived.Test.YtojbkljfioegkaaGreatG3
import Derived.Deep.RegionHeld3
import Derived.Test.YtojbkljfioegkaaGreatG1
import Derived.Maps.AppendAt
import Derived.Deep.RegionLaw
import Derived.Lib.SliceRun
namespace Go.Proofs.YtojbkljfioegkaaGreat
set_option linter.unusedSimpArgs false
set_option linter.unusedVariables false
open Go.RowKit
set_option maxHeartbeats 4000000
set_option maxRecDepth 100000
theorem proven_c (H : ac) (W : Int) (Hh : Int) (pp : AV) (xs : List Int) (s : AV) (l : List T6) (m : Int) (r : Int) (g : Int) (hpp : Sl H 1 pp xs.length (ints .u8 xs)) (hs : Sl H 6 s l.length (r6 l)) (hV : b9 W Hh xs = true) (hS : bU l = true) (hl0 : 0 < l.length) (hr : -1 ≤ r ∧ r ≤ 1024) (hg : 1 ≤ g ∧ g ≤ 32) : ACalls Tryz.prog 131 [.agg [.int .i64 W, .int .i64 Hh, pp], s, .agg [.int .i64 m, .int .i64 r], .int .i64 g] H (fun v H' => v = .sl (some (H.length, 0)) ((ei W Hh l m r g).length) (bA (ei W Hh l m r g).length) ∧ H' = H ++ [.cells (bm (ei W Hh l m r g).length) 2 (prs (ei W Hh l m r g))]) := by
 obtain ⟨bpp, opp, cpp, rfl, hbpp⟩ := hpp
 have hblpp := getElem?_lt hbpp
 have hb0pp := fun l => aD (l := l) hbpp
 obtain ⟨bs, os, cs, rfl, hbs⟩ := hs
 have hbls := getElem?_lt hbs
 have hb0s := fun l => aD (l := l) hbs
 have hvl := cg.1 hV
 have hWb : 1 ≤ W ∧ W ≤ 64 ∧ 1 ≤ Hh ∧ Hh ≤ 64 := by obtain ⟨a, b, c, d, -⟩ := hvl; omega
 have hda := km hS m
 have hpair : ∀ j', j' < (aC l m).length → bxB (g91 (aC l m) j') (g92 (aC l m) j') (g93 (aC l m) j') (g94 (aC l m) j') (g95 (aC l m) j') (g96 (aC l m) j') = true := fun j' hj' => by
  have k := dirA_ok hS (g9_mem hj')
  unfold pairB at k; rw [Bool.and_eq_true] at k; exact k.1
 have hp0 := hpair 0 (by omega)
 have hfl := fstL_len l m (aF r g)
 (refine bK Tryz.func131 _ rfl (Nat.le_of_ble_eq_true (by kernel_rfl)) rfl ?_; intro hbel Q hQ hQ' c hc; unfold Tryz.f131 at hc; simp only [Option.some.injEq] at hc; subst hc; clear hQ')
 refine aO fun Q1 hn1 hr1 he1 => ?_
 have hQ1 := fun F H' h => hr1 F H' (hQ F H' h)
 refine aI false try_mixed (by kernel_rfl) ?_
 have g'1 := (jn @hbpp (jn @hb0pp (jn @hbs @hb0s)))
 refine aa g'1 ?_
 refine hn1 _ _ ?_
 refine aO fun Q2 hn2 hr2 he2 => ?_
 have hQ2 := fun F H' h => hr2 F H' (hQ F H' h)
 refine aI false try_mixed (by kernel_rfl) ?_
 refine aa g'1 ?_
 refine hn2 _ _ ?_
 refine aO fun Q3 hn3 hr3 he3 => ?_
 have hQ3 := fun F H' h => hr3 F H' (hQ F H' h)
 refine aI false try_mixed (by kernel_rfl) ?_
 refine aa g'1 ?_
 refine aq (fun h1 => ?_) (fun h1 => ?_)
 ·have h1d := bsT h1
  have h1n := bnT h1
  have hr1 : r = -1 := by simpa using h1d
  have hsf1 : 1024 - g = aF r g := (if_pos hr1).symm
  have g'2 := (jn @h1 (jn @h1n (jn @aT (jn @aS (jn @hsf1 g'1)))))
  refine aa g'2 ?_
  refine hn3 _ _ ?_
  refine aO fun Q4 hn4 hr4 he4 => ?_
  have hQ4 := fun F H' h => hr4 F H' (hQ F H' h)
  refine aI false try_mixed (by kernel_rfl) ?_
  refine aa g'2 ?_
  refine aq (fun h2 => ?_) (fun h2 => ?_)
  ·have h2d := bsT h2
   have hfinL : ei W Hh l m r g = [] := if_pos h2d
   have g'3 := (jn @h2 (jn @h2d g'2))
   refine aa g'3 ?_
   refine hQ4 _ _ (br (.inl rfl) hbel (x1 := .sl none 0 (some 0)) (l2 := [.cells false 2 []]) (.sl (some (H.length, 0)) 0 (some 0)) (av Tryz.results131) [.cells false 2 []] rfl [3] (by decide) ⟨by first | (rw [hfinL]; done) | (rw [hfinL]; rfl), by first | (rw [hfinL]; done) | (rw [hfinL]; rfl)⟩ ?_)
   exact bj
  ·have h2d := bsT h2
   have hfar := h2d
   have g'4 := (jn @h2 (jn @h2d g'2))
   refine aa g'4 ?_
   refine hn4 _ _ ?_
   refine aO fun Q5 hn5 hr5 he5 => ?_
   have hQ5 := fun F H' h => hr5 F H' (hQ F H' h)
   refine aI false try_mixed (by kernel_rfl) ?_
   refine aa g'4 ?_
   refine aj (by kernel_rfl) (iq _ _ l m r ⟨_, _, _, rfl, by first | exact hb0s _ | exact hbs⟩ (by assumption)) ?_
   refine aa g'4 ?_
   refine hn5 _ _ ?_
   refine jQ false try_mixed [[0, 1, 2, 3, 4, 5, 6, 7, 8, 9, 10, 11, 12, 13, 14, 15, 16, 17], [0, 1, 2, 3, 7, 8, 9, 11, 4, 5, 6, 10, 12, 13, 14, 15, 16, 17], [0, 1, 2, 3, 7, 8, 9, 10, 4, 5, 6, 11, 12, 13, 14, 15, 16, 17], [0, 1, 2, 3, 7, 8, 9, 10, 11, 4, 5, 6, 12, 13, 14, 15, 16, 17]] (by kernel_rfl) (fun F2 H2 => F2 = [(4, .ptr (some (H.length, 0))), (8, .sl none 0 (some 0)), (9, .ptr (some (H.length + 1, 0))), (10, .sl (some (H.length + 2, 0)) ((aC l m).length) (bA (aC l m).length)), (11, .sl (some (H.length + 3, 0)) ((aU l m (aF r g)).length) (bA (aU l m (aF r g)).length))] ∧ H2 = H ++ [.cells true 0 [.int .i64 W, .int .i64 Hh, .sl (some (bpp, 0)) xs.length cpp], .cells true 0 [.int .i64 (aF r g)], .cells (bm (aC l m).length) 9 (r9 (aC l m)), .cells (bm (aU l m (aF r g)).length) 2 (prs (aU l m (aF r g)))]) ?_ ?_
   ·refine aR ?_ (aR ?_ (aR ?_ (aR ?_ (cn)))) <;> intro J hJ
    ·skip
     have q3 := gJ (l := aC l m) (by omega)
     have g'5 := (jn @dC (jn @q3 g'4))
     refine aM g'5 ?_
     refine bL (by kernel_rfl) (by simp) (dD _ (g91 (aC l m) 0) (g92 (aC l m) 0) (g93 (aC l m) 0) (g94 (aC l m) 0) (g95 (aC l m) 0) (g96 (aC l m) 0) (by assumption)) ?_
     have q4 := gK (l := aC l m) (by omega)
     have g'6 := (jn @q4 g'5)
     refine aM g'6 ?_
     refine bL (by kernel_rfl) (by simp) (dO _ l m (aF r g)) ?_
     refine aM g'6 ?_
     refine aZ (hJ _ _ ⟨_, _, _, ⟨rfl, rfl⟩, Abs.byG hbel [] rfl [0, 2, 3, 5] (by decide) ?_⟩)
     exact aN (jn @bv (jn @bF (jn @bZ @bW)))
    ·skip
     have q5 := gJ (l := aC l m) (by omega)
     have g'7 := (jn @dC (jn @q5 g'4))
     refine aM g'7 ?_
     refine bL (by kernel_rfl) (by simp) (dD _ (g91 (aC l m) 0) (g92 (aC l m) 0) (g93 (aC l m) 0) (g94 (aC l m) 0) (g95 (aC l m) 0) (g96 (aC l m) 0) (by assumption)) ?_
     have q6 := gK (l := aC l m) (by omega)
     have g'8 := (jn @q6 g'7)
     refine aM g'8 ?_
     refine bL (by kernel_rfl) (by simp) (dO _ l m (aF r g)) ?_
     refine aM g'8 ?_
     refine aZ (hJ _ _ ⟨_, _, _, ⟨rfl, rfl⟩, Abs.byG hbel [] rfl [0, 2, 3, 5] (by decide) ?_⟩)
     exact aN (jn @bv (jn @bF (jn @bZ @bW)))
    ·skip
     have q7 := gJ (l := aC l m) (by omega)
     have q8 := gK (l := aC l m) (by omega)
     have g'9 := (jn @dC (jn @q7 (jn @q8 g'4)))
     refine aM g'9 ?_
     refine bL (by kernel_rfl) (by simp) (dD _ (g91 (aC l m) 0) (g92 (aC l m) 0) (g93 (aC l m) 0) (g94 (aC l m) 0) (g95 (aC l m) 0) (g96 (aC l m) 0) (by assumption)) ?_
     refine aM g'9 ?_
     refine bL (by kernel_rfl) (by simp) (dO _ l m (aF r g)) ?_
     refine aM g'9 ?_
     refine aZ (hJ _ _ ⟨_, _, _, ⟨rfl, rfl⟩, Abs.byG hbel [] rfl [0, 2, 3, 5] (by decide) ?_⟩)
     exact aN (jn @bv (jn @bF (jn @bZ @bW)))
    ·skip
     have q9 := gJ (l := aC l m) (by omega)
     have q10 := gK (l := aC l m) (by omega)
     have g'10 := (jn @dC (jn @q9 (jn @q10 g'4)))
     refine aM g'10 ?_
     refine bL (by kernel_rfl) (by simp) (dD _ (g91 (aC l m) 0) (g92 (aC l m) 0) (g93 (aC l m) 0) (g94 (aC l m) 0) (g95 (aC l m) 0) (g96 (aC l m) 0) (by assumption)) ?_
     refine aM g'10 ?_
     refine bL (by kernel_rfl) (by simp) (dO _ l m (aF r g)) ?_
     refine aM g'10 ?_
     refine aZ (hJ _ _ ⟨_, _, _, ⟨rfl, rfl⟩, Abs.byG hbel [] rfl [0, 2, 3, 5] (by decide) ?_⟩)
     exact aN (jn @bv (jn @bF (jn @bZ @bW)))
   rintro F2 H2 ⟨rfl, rfl⟩
   refine aI false try_mixed (by kernel_rfl) ?_
   have g'11 := (jn @dC (jn @iY (jn @bE (jn @cD g'4))))
   refine aa g'11 ?_
   refine go_loop try_mixed (by kernel_rfl) (fun k F Hx => ∃ j : Nat, j + k = (aU l m (aF r g)).length ∧ F = [(4, .ptr (some (H.length, 0))), (9, .ptr (some (H.length + 1, 0))), (10, .sl (some (H.length + 2, 0)) ((aC l m).length) (bA (aC l m).length)), (13, .sl (some (H.length + 4, 0)) ((((aU l m (aF r g)).take j).filter (bP W Hh l m (aF r g))).length) (bA (((aU l m (aF r g)).take j).filter (bP W Hh l m (aF r g))).length)), (49, .sl (some (H.length + 3, 0)) ((aU l m (aF r g)).length) (bA (aU l m (aF r g)).length)), (50, .int .i64 (((aU l m (aF r g)).length : Nat) : Int)), (51, .int .i64 ((j : Nat) : Int))] ∧ Hx = H ++ [.cells true 0 [.int .i64 W, .int .i64 Hh, .sl (some (bpp, 0)) xs.length cpp], .cells true 0 [.int .i64 (aF r g)], .cells (bm (aC l m).length) 9 (r9 (aC l m)), .cells (bm (aU l m (aF r g)).length) 2 (prs (aU l m (aF r g))), .cells (bm (((aU l m (aF r g)).take j).filter (bP W Hh l m (aF r g))).length) 2 (prs (((aU l m (aF r g)).take j).filter (bP W Hh l m (aF r g))))]) ((aU l m (aF r g)).length) ?_ ?_
   ·refine ⟨_, _, _, ⟨0, by omega, rfl, rfl⟩, Abs.byG hbel [.cells false 2 []] rfl [0, 1, 2, 3, 4] (by decide) ?_⟩
    exact aN (jn @List.take_zero.{0} (jn @List.filter_nil.{0} (jn @bv (jn @bF (jn @bZ @bW)))))
   ·rintro k0 F Hx ⟨j, hm0, rfl, rfl⟩ J0 hJ0
    refine aa g'11 ?_
    refine aq (fun h11 => ?_) (fun h11 => ?_)
    ·have h11d := bsT h11
     have hlt : j < (aU l m (aF r g)).length := by omega
     have hpr := (cu hlt).symm
     have hst := tN (p := (bP W Hh l m (aF r g))) hlt
     have hfln := flt_len (p := (bP W Hh l m (aF r g))) (l := (aU l m (aF r g))) (j := j)
     have q12 := cA (l := aU l m (aF r g)) (j := j) (by omega)
     have g'12 := (jn @h11 (jn @h11d (jn @q12 g'11)))
     refine aa g'12 ?_
     rcases Bool.eq_false_or_eq_true (sqO (g1 (aU l m (aF r g)) j) (g2 (aU l m (aF r g)) j)) with h13 | h13
     ·have h13d := h13
      have hsq := h13d
      refine aj (by kernel_rfl) (psqr_t _ (g1 (aU l m (aF r g)) j) (g2 (aU l m (aF r g)) j) (by assumption)) ?_
      have g'13 := (jn @h13 (jn @h13d g'12))
      refine aa g'13 ?_
      refine aj (by kernel_rfl) (cO _ (g1 (aU l m (aF r g)) j) 0 (W - 1)) ?_
      refine aa g'13 ?_
      refine az (fun h14 => ?_) (fun h14 => ?_)
      ·have h14d := bsT h14
       have hbx := h14d
       have g'14 := (jn @h14 (jn @h14d g'13))
       refine aa g'14 ?_
       refine aj (by kernel_rfl) (cO _ (g2 (aU l m (aF r g)) j) 0 (Hh - 1)) ?_
       refine aa g'14 ?_
       refine az (fun h15 => ?_) (fun h15 => ?_)
       ·have h15d := bsT h15
        have hby := h15d
        have g'15 := (jn @h15 (jn @h15d g'14))
        refine aa g'15 ?_
        refine aj (by kernel_rfl) (has_r _ _ (aC l m) ⟨_, _, _, by first | rfl | (rw [List.length_append]; done) | (rw [List.length_append]; rfl), by first | rfl | (rw [ah]; rfl) | (rw [ae]; rfl) | (rw [ah, ag]; rfl) | (rw [ae, ag]; rfl)⟩ (by omega) _ [.ptr (some (H.length + 6, 0)), .ptr (some (H.length + 1, 0))] (by kernel_rfl) (by simp [AV.bels, AV.bel]) (fun e => !psC e (aF r g) (g1 (aU l m (aF r g)) j, g2 (aU l m (aF r g)) j)) (fun j' hj' => kprv1_c _ _ _ _ _ _ _ _ _ _ _ _ _ _ _ _ _ ⟨_, by first | (rw [ah]; rfl) | (rw [ae]; rfl)⟩ ⟨_, by first | (rw [ah]; rfl) | (rw [ae]; rfl)⟩ (hpair _ hj'))) ?_
        refine aa g'15 ?_
        refine aq (fun h16 => ?_) (fun h16 => ?_)
        ·have h16d := bsT h16
         have hok : bP W Hh l m (aF r g) (g1 (aU l m (aF r g)) j, g2 (aU l m (aF r g)) j) = true := by unfold bP prvB; rw [hbx, hby, List.all_eq_not_any_not, h16d]; rfl
         rw [hpr, if_pos hok] at hst
         have g'16 := (jn @h16 (jn @h16d (jn @dI g'15)))
         refine aa g'16 ?_
         refine hJ0 _ _ ⟨k0 - 1, by omega, _, _, _, ⟨j + 1, by omega, rfl, rfl⟩, Abs.byG hbel [] rfl [0, 1, 2, 3, 8] (by decide) ?_⟩
         exact aN (jn @hst (jn @bv (jn @bF (jn @bZ @bW))))
        ·have h16d := bsT h16
         have hok : bP W Hh l m (aF r g) (g1 (aU l m (aF r g)) j, g2 (aU l m (aF r g)) j) = false := by unfold bP prvB; rw [hbx, hby, List.all_eq_not_any_not, h16d]; rfl
         rw [hpr, if_neg (by rw [hok]; decide), List.append_nil] at hst
         have g'17 := (jn @h16 (jn @h16d g'15))
         refine aa g'17 ?_
         refine hJ0 _ _ ⟨k0 - 1, by omega, _, _, _, ⟨j + 1, by omega, rfl, rfl⟩, Abs.byG hbel [] rfl [0, 1, 2, 3, 4] (by decide) ?_⟩
         exact aN (jn @hst (jn @bv (jn @bF (jn @bZ @bW))))
       ·have h15d := bsT h15
        have hok : bP W Hh l m (aF r g) (g1 (aU l m (aF r g)) j, g2 (aU l m (aF r g)) j) = false := by unfold bP; rw [hbx, h15d]; rfl
        rw [hpr, if_neg (by rw [hok]; decide), List.append_nil] at hst
        have g'18 := (jn @h15 (jn @h15d g'14))
        refine aa g'18 ?_
        refine hJ0 _ _ ⟨k0 - 1, by omega, _, _, _, ⟨j + 1, by omega, rfl, rfl⟩, Abs.byG hbel [] rfl [0, 1, 2, 3, 4] (by decide) ?_⟩
        exact aN (jn @hst (jn @bv (jn @bF (jn @bZ @bW))))
      ·have h14d := bsT h14
       have hok : bP W Hh l m (aF r g) (g1 (aU l m (aF r g)) j, g2 (aU l m (aF r g)) j) = false := by unfold bP; rw [h14d]; rfl
       rw [hpr, if_neg (by rw [hok]; decide), List.append_nil] at hst
       have g'19 := (jn @h14 (jn @h14d g'13))
       refine aa g'19 ?_
       refine hJ0 _ _ ⟨k0 - 1, by omega, _, _, _, ⟨j + 1, by omega, rfl, rfl⟩, Abs.byG hbel [] rfl [0, 1, 2, 3, 4] (by decide) ?_⟩
       exact aN (jn @hst (jn @bv (jn @bF (jn @bZ @bW))))
     ·have h13d := h13
      have hsq := h13d
      refine aj (by kernel_rfl) (psqr_f _ (g1 (aU l m (aF r g)) j) (g2 (aU l m (aF r g)) j) (by assumption)) ?_
      have g'20 := (jn @h13 (jn @h13d g'12))
      refine aa g'20 ?_
      refine aj (by kernel_rfl) (cO _ (g1 (aU l m (aF r g)) j) 0 (W - 1)) ?_
      refine aa g'20 ?_
      refine az (fun h17 => ?_) (fun h17 => ?_)
      ·have h17d := bsT h17
       have hbx := h17d
       have g'21 := (jn @h17 (jn @h17d g'20))
       refine aa g'21 ?_
       refine aj (by kernel_rfl) (cO _ (g2 (aU l m (aF r g)) j) 0 (Hh - 1)) ?_
       refine aa g'21 ?_
       refine az (fun h18 => ?_) (fun h18 => ?_)
       ·have h18d := bsT h18
        have hby := h18d
        have hq1 := bM.1 hbx
        have hq2 := bM.1 hby
        exact absurd (show sqO (g1 (aU l m (aF r g)) j) (g2 (aU l m (aF r g)) j) = true by unfold sqO; rw [Bool.and_eq_true, bC, bC]; omega) (by rw [hsq]; decide)
       ·have h18d := bsT h18
        have hok : bP W Hh l m (aF r g) (g1 (aU l m (aF r g)) j, g2 (aU l m (aF r g)) j) = false := by unfold bP; rw [hbx, h18d]; rfl
        rw [hpr, if_neg (by rw [hok]; decide), List.append_nil] at hst
        have g'22 := (jn @h18 (jn @h18d g'21))
        refine aa g'22 ?_
        refine hJ0 _ _ ⟨k0 - 1, by omega, _, _, _, ⟨j + 1, by omega, rfl, rfl⟩, Abs.byG hbel [] rfl [0, 1, 2, 3, 4] (by decide) ?_⟩
        exact aN (jn @hst (jn @bv (jn @bF (jn @bZ @bW))))
      ·have h17d := bsT h17
       have hok : bP W Hh l m (aF r g) (g1 (aU l m (aF r g)) j, g2 (aU l m (aF r g)) j) = false := by unfold bP; rw [h17d]; rfl
       rw [hpr, if_neg (by rw [hok]; decide), List.append_nil] at hst
       have g'23 := (jn @h17 (jn @h17d g'20))
       refine aa g'23 ?_
       refine hJ0 _ _ ⟨k0 - 1, by omega, _, _, _, ⟨j + 1, by omega, rfl, rfl⟩, Abs.byG hbel [] rfl [0, 1, 2, 3, 4] (by decide) ?_⟩
       exact aN (jn @hst (jn @bv (jn @bF (jn @bZ @bW))))
    ·have h11d := bsT h11
     obtain rfl : j = (aU l m (aF r g)).length := by omega
     have hfinL : ((aU l m (aF r g)).take (aU l m (aF r g)).length).filter (bP W Hh l m (aF r g)) = ei W Hh l m r g := by rw [List.take_length]; exact (if_neg hfar).symm
     have g'24 := (jn @h11 (jn @h11d g'11))
     refine aa g'24 ?_
     refine hQ _ _ (br (.inl rfl) hbel (x1 := .sl (some (H.length + 4, 0)) ((((aU l m (aF r g)).take (aU l m (aF r g)).length).filter (bP W Hh l m (aF r g))).length) (bA (((aU l m (aF r g)).take (aU l m (aF r g)).length).filter (bP W Hh l m (aF r g))).length)) (l2 := [.cells (bm (((aU l m (aF r g)).take (aU l m (aF r g)).length).filter (bP W Hh l m (aF r g))).length) 2 (prs (((aU l m (aF r g)).take (aU l m (aF r g)).length).filter (bP W Hh l m (aF r g))))]) (.sl (some (H.length, 0)) ((((aU l m (aF r g)).take (aU l m (aF r g)).length).filter (bP W Hh l m (aF r g))).length) (bA (((aU l m (aF r g)).take (aU l m (aF r g)).length).filter (bP W Hh l m (aF r g))).length)) (av Tryz.results131) [] rfl [4] (by decide) ⟨by first | (rw [hfinL]; done) | (rw [hfinL]; rfl), by first | (rw [hfinL]; done) | (rw [hfinL]; rfl)⟩ ?_)
     exact bj
 ·have h1d := bsT h1
  have h1n := bnT h1
  have hr1 : ¬ r = -1 := by simpa using h1d
  have hsf1 : r - g = aF r g := (if_neg hr1).symm
  have g'25 := (jn @h1 (jn @h1n (jn @aT (jn @aS (jn @hsf1 g'1)))))
  refine aa g'25 ?_
  refine hn3 _ _ ?_
  refine aO fun Q6 hn6 hr6 he6 => ?_
  have hQ6 := fun F H' h => hr6 F H' (hQ F H' h)
  refine aI false try_mixed (by kernel_rfl) ?_
  refine aa g'25 ?_
  refine aq (fun h19 => ?_) (fun h19 => ?_)
  ·have h19d := bsT h19
   have hfinL : ei W Hh l m r g = [] := if_pos h19d
   have g'26 := (jn @h19 (jn @h19d g'25))
   refine aa g'26 ?_
   refine hQ6 _ _ (br (.inl rfl) hbel (x1 := .sl none 0 (some 0)) (l2 := [.cells false 2 []]) (.sl (some (H.length, 0)) 0 (some 0)) (av Tryz.results131) [.cells false 2 []] rfl [3] (by decide) ⟨by first | (rw [hfinL]; done) | (rw [hfinL]; rfl), by first | (rw [hfinL]; done) | (rw [hfinL]; rfl)⟩ ?_)
   exact bj
  ·have h19d := bsT h19
   have hfar := h19d
   have g'27 := (jn @h19 (jn @h19d g'25))
   refine aa g'27 ?_
   refine hn6 _ _ ?_
   refine aO fun Q7 hn7 hr7 he7 => ?_
   have hQ7 := fun F H' h => hr7 F H' (hQ F H' h)
   refine aI false try_mixed (by kernel_rfl) ?_
   refine aa g'27 ?_
   refine aj (by kernel_rfl) (iq _ _ l m r ⟨_, _, _, rfl, by first | exact hb0s _ | exact hbs⟩ (by assumption)) ?_
   refine aa g'27 ?_
   refine hn7 _ _ ?_
   refine jQ false try_mixed [[0, 1, 2, 3, 4, 5, 6, 7, 8, 9, 10, 11, 12, 13, 14, 15, 16, 17], [0, 1, 2, 3, 7, 8, 9, 11, 4, 5, 6, 10, 12, 13, 14, 15, 16, 17], [0, 1, 2, 3, 7, 8, 9, 10, 4, 5, 6, 11, 12, 13, 14, 15, 16, 17], [0, 1, 2, 3, 7, 8, 9, 10, 11, 4, 5, 6, 12, 13, 14, 15, 16, 17]] (by kernel_rfl) (fun F2 H2 => F2 = [(4, .ptr (some (H.length, 0))), (8, .sl none 0 (some 0)), (9, .ptr (some (H.length + 1, 0))), (10, .sl (some (H.length + 2, 0)) ((aC l m).length) (bA (aC l m).length)), (11, .sl (some (H.length + 3, 0)) ((aU l m (aF r g)).length) (bA (aU l m (aF r g)).length))] ∧ H2 = H ++ [.cells true 0 [.int .i64 W, .int .i64 Hh, .sl (some (bpp, 0)) xs.length cpp], .cells true 0 [.int .i64 (aF r g)], .cells (bm (aC l m).length) 9 (r9 (aC l m)), .cells (bm (aU l m (aF r g)).length) 2 (prs (aU l m (aF r g)))]) ?_ ?_
   ·refine aR ?_ (aR ?_ (aR ?_ (aR ?_ (cn)))) <;> intro J hJ
    ·skip
     have q20 := gJ (l := aC l m) (by omega)
     have g'28 := (jn @dC (jn @q20 g'27))
     refine aM g'28 ?_
     refine bL (by kernel_rfl) (by simp) (dD _ (g91 (aC l m) 0) (g92 (aC l m) 0) (g93 (aC l m) 0) (g94 (aC l m) 0) (g95 (aC l m) 0) (g96 (aC l m) 0) (by assumption)) ?_
     have q21 := gK (l := aC l m) (by omega)
     have g'29 := (jn @q21 g'28)
     refine aM g'29 ?_
     refine bL (by kernel_rfl) (by simp) (dO _ l m (aF r g)) ?_
     refine aM g'29 ?_
     refine aZ (hJ _ _ ⟨_, _, _, ⟨rfl, rfl⟩, Abs.byG hbel [] rfl [0, 2, 3, 5] (by decide) ?_⟩)
     exact aN (jn @bv (jn @bF (jn @bZ @bW)))
    ·skip
     have q22 := gJ (l := aC l m) (by omega)
     have g'30 := (jn @dC (jn @q22 g'27))
     refine aM g'30 ?_
     refine bL (by kernel_rfl) (by simp) (dD _ (g91 (aC l m) 0) (g92 (aC l m) 0) (g93 (aC l m) 0) (g94 (aC l m) 0) (g95 (aC l m) 0) (g96 (aC l m) 0) (by assumption)) ?_
     have q23 := gK (l := aC l m) (by omega)
     have g'31 := (jn @q23 g'30)
     refine aM g'31 ?_
     refine bL (by kernel_rfl) (by simp) (dO _ l m (aF r g)) ?_
     refine aM g'31 ?_
     refine aZ (hJ _ _ ⟨_, _, _, ⟨rfl, rfl⟩, Abs.byG hbel [] rfl [0, 2, 3, 5] (by decide) ?_⟩)
     exact aN (jn @bv (jn @bF (jn @bZ @bW)))
    ·skip
     have q24 := gJ (l := aC l m) (by omega)
     have q25 := gK (l := aC l m) (by omega)
     have g'32 := (jn @dC (jn @q24 (jn @q25 g'27)))
     refine aM g'32 ?_
     refine bL (by kernel_rfl) (by simp) (dD _ (g91 (aC l m) 0) (g92 (aC l m) 0) (g93 (aC l m) 0) (g94 (aC l m) 0) (g95 (aC l m) 0) (g96 (aC l m) 0) (by assumption)) ?_
     refine aM g'32 ?_
     refine bL (by kernel_rfl) (by simp) (dO _ l m (aF r g)) ?_
     refine aM g'32 ?_
     refine aZ (hJ _ _ ⟨_, _, _, ⟨rfl, rfl⟩, Abs.byG hbel [] rfl [0, 2, 3, 5] (by decide) ?_⟩)
     exact aN (jn @bv (jn @bF (jn @bZ @bW)))
    ·skip
     have q26 := gJ (l := aC l m) (by omega)
     have q27 := gK (l := aC l m) (by omega)
     have g'33 := (jn @dC (jn @q26 (jn @q27 g'27)))
     refine aM g'33 ?_
     refine bL (by kernel_rfl) (by simp) (dD _ (g91 (aC l m) 0) (g92 (aC l m) 0) (g93 (aC l m) 0) (g94 (aC l m) 0) (g95 (aC l m) 0) (g96 (aC l m) 0) (by assumption)) ?_
     refine aM g'33 ?_
     refine bL (by kernel_rfl) (by simp) (dO _ l m (aF r g)) ?_
     refine aM g'33 ?_
     refine aZ (hJ _ _ ⟨_, _, _, ⟨rfl, rfl⟩, Abs.byG hbel [] rfl [0, 2, 3, 5] (by decide) ?_⟩)
     exact aN (jn @bv (jn @bF (jn @bZ @bW)))
   rintro F2 H2 ⟨rfl, rfl⟩
   refine aI false try_mixed (by kernel_rfl) ?_
   have g'34 := (jn @dC (jn @iY (jn @bE (jn @cD g'27))))
   refine aa g'34 ?_
   refine go_loop try_mixed (by kernel_rfl) (fun k F Hx => ∃ j : Nat, j + k = (aU l m (aF r g)).length ∧ F = [(4, .ptr (some (H.length, 0))), (9, .ptr (some (H.length + 1, 0))), (10, .sl (some (H.length + 2, 0)) ((aC l m).length) (bA (aC l m).length)), (13, .sl (some (H.length + 4, 0)) ((((aU l m (aF r g)).take j).filter (bP W Hh l m (aF r g))).length) (bA (((aU l m (aF r g)).take j).filter (bP W Hh l m (aF r g))).length)), (49, .sl (some (H.length + 3, 0)) ((aU l m (aF r g)).length) (bA (aU l m (aF r g)).length)), (50, .int .i64 (((aU l m (aF r g)).length : Nat) : Int)), (51, .int .i64 ((j : Nat) : Int))] ∧ Hx = H ++ [.cells true 0 [.int .i64 W, .int .i64 Hh, .sl (some (bpp, 0)) xs.length cpp], .cells true 0 [.int .i64 (aF r g)], .cells (bm (aC l m).length) 9 (r9 (aC l m)), .cells (bm (aU l m (aF r g)).length) 2 (prs (aU l m (aF r g))), .cells (bm (((aU l m (aF r g)).take j).filter (bP W Hh l m (aF r g))).length) 2 (prs (((aU l m (aF r g)).take j).filter (bP W Hh l m (aF r g))))]) ((aU l m (aF r g)).length) ?_ ?_
   ·refine ⟨_, _, _, ⟨0, by omega, rfl, rfl⟩, Abs.byG hbel [.cells false 2 []] rfl [0, 1, 2, 3, 4] (by decide) ?_⟩
    exact aN (jn @List.take_zero.{0} (jn @List.filter_nil.{0} (jn @bv (jn @bF (jn @bZ @bW)))))
   ·rintro k0 F Hx ⟨j, hm0, rfl, rfl⟩ J0 hJ0
    refine aa g'34 ?_
    refine aq (fun h28 => ?_) (fun h28 => ?_)
    ·have h28d := bsT h28
     have hlt : j < (aU l m (aF r g)).length := by omega
     have hpr := (cu hlt).symm
     have hst := tN (p := (bP W Hh l m (aF r g))) hlt
     have hfln := flt_len (p := (bP W Hh l m (aF r g))) (l := (aU l m (aF r g))) (j := j)
     have q29 := cA (l := aU l m (aF r g)) (j := j) (by omega)
     have g'35 := (jn @h28 (jn @h28d (jn @q29 g'34)))
     refine aa g'35 ?_
     rcases Bool.eq_false_or_eq_true (sqO (g1 (aU l m (aF r g)) j) (g2 (aU l m (aF r g)) j)) with h30 | h30
     ·have h30d := h30
      have hsq := h30d
      refine aj (by kernel_rfl) (psqr_t _ (g1 (aU l m (aF r g)) j) (g2 (aU l m (aF r g)) j) (by assumption)) ?_
      have g'36 := (jn @h30 (jn @h30d g'35))
      refine aa g'36 ?_
      refine aj (by kernel_rfl) (cO _ (g1 (aU l m (aF r g)) j) 0 (W - 1)) ?_
      refine aa g'36 ?_
      refine az (fun h31 => ?_) (fun h31 => ?_)
      ·have h31d := bsT h31
       have hbx := h31d
       have g'37 := (jn @h31 (jn @h31d g'36))
       refine aa g'37 ?_
       refine aj (by kernel_rfl) (cO _ (g2 (aU l m (aF r g)) j) 0 (Hh - 1)) ?_
       refine aa g'37 ?_
       refine az (fun h32 => ?_) (fun h32 => ?_)
       ·have h32d := bsT h32
        have hby := h32d
        have g'38 := (jn @h32 (jn @h32d g'37))
        refine aa g'38 ?_
        refine aj (by kernel_rfl) (has_r _ _ (aC l m) ⟨_, _, _, by first | rfl | (rw [List.length_append]; done) | (rw [List.length_append]; rfl), by first | rfl | (rw [ah]; rfl) | (rw [ae]; rfl) | (rw [ah, ag]; rfl) | (rw [ae, ag]; rfl)⟩ (by omega) _ [.ptr (some (H.length + 6, 0)), .ptr (some (H.length + 1, 0))] (by kernel_rfl) (by simp [AV.bels, AV.bel]) (fun e => !psC e (aF r g) (g1 (aU l m (aF r g)) j, g2 (aU l m (aF r g)) j)) (fun j' hj' => kprv1_c _ _ _ _ _ _ _ _ _ _ _ _ _ _ _ _ _ ⟨_, by first | (rw [ah]; rfl) | (rw [ae]; rfl)⟩ ⟨_, by first | (rw [ah]; rfl) | (rw [ae]; rfl)⟩ (hpair _ hj'))) ?_
        refine aa g'38 ?_
        refine aq (fun h33 => ?_) (fun h33 => ?_)
        ·have h33d := bsT h33
         have hok : bP W Hh l m (aF r g) (g1 (aU l m (aF r g)) j, g2 (aU l m (aF r g)) j) = true := by unfold bP prvB; rw [hbx, hby, List.all_eq_not_any_not, h33d]; rfl
         rw [hpr, if_pos hok] at hst
         have g'39 := (jn @h33 (jn @h33d (jn @dI g'38)))
         refine aa g'39 ?_
         refine hJ0 _ _ ⟨k0 - 1, by omega, _, _, _, ⟨j + 1, by omega, rfl, rfl⟩, Abs.byG hbel [] rfl [0, 1, 2, 3, 8] (by decide) ?_⟩
         exact aN (jn @hst (jn @bv (jn @bF (jn @bZ @bW))))
        ·have h33d := bsT h33
         have hok : bP W Hh l m (aF r g) (g1 (aU l m (aF r g)) j, g2 (aU l m (aF r g)) j) = false := by unfold bP prvB; rw [hbx, hby, List.all_eq_not_any_not, h33d]; rfl
         rw [hpr, if_neg (by rw [hok]; decide), List.append_nil] at hst
         have g'40 := (jn @h33 (jn @h33d g'38))
         refine aa g'40 ?_
         refine hJ0 _ _ ⟨k0 - 1, by omega, _, _, _, ⟨j + 1, by omega, rfl, rfl⟩, Abs.byG hbel [] rfl [0, 1, 2, 3, 4] (by decide) ?_⟩
         exact aN (jn @hst (jn @bv (jn @bF (jn @bZ @bW))))
       ·have h32d := bsT h32
        have hok : bP W Hh l m (aF r g) (g1 (aU l m (aF r g)) j, g2 (aU l m (aF r g)) j) = false := by unfold bP; rw [hbx, h32d]; rfl
        rw [hpr, if_neg (by rw [hok]; decide), List.append_nil] at hst
        have g'41 := (jn @h32 (jn @h32d g'37))
        refine aa g'41 ?_
        refine hJ0 _ _ ⟨k0 - 1, by omega, _, _, _, ⟨j + 1, by omega, rfl, rfl⟩, Abs.byG hbel [] rfl [0, 1, 2, 3, 4] (by decide) ?_⟩
        exact aN (jn @hst (jn @bv (jn @bF (jn @bZ @bW))))
      ·have h31d := bsT h31
       have hok : bP W Hh l m (aF r g) (g1 (aU l m (aF r g)) j, g2 (aU l m (aF r g)) j) = false := by unfold bP; rw [h31d]; rfl
       rw [hpr, if_neg (by rw [hok]; decide), List.append_nil] at hst
       have g'42 := (jn @h31 (jn @h31d g'36))
       refine aa g'42 ?_
       refine hJ0 _ _ ⟨k0 - 1, by omega, _, _, _, ⟨j + 1, by omega, rfl, rfl⟩, Abs.byG hbel [] rfl [0, 1, 2, 3, 4] (by decide) ?_⟩
       exact aN (jn @hst (jn @bv (jn @bF (jn @bZ @bW))))
     ·have h30d := h30
      have hsq := h30d
      refine aj (by kernel_rfl) (psqr_f _ (g1 (aU l m (aF r g)) j) (g2 (aU l m (aF r g)) j) (by assumption)) ?_
      have g'43 := (jn @h30 (jn @h30d g'35))
      refine aa g'43 ?_
      refine aj (by kernel_rfl) (cO _ (g1 (aU l m (aF r g)) j) 0 (W - 1)) ?_
      refine aa g'43 ?_
      refine az (fun h34 => ?_) (fun h34 => ?_)
      ·have h34d := bsT h34
       have hbx := h34d
       have g'44 := (jn @h34 (jn @h34d g'43))
       refine aa g'44 ?_
       refine aj (by kernel_rfl) (cO _ (g2 (aU l m (aF r g)) j) 0 (Hh - 1)) ?_
       refine aa g'44 ?_
       refine az (fun h35 => ?_) (fun h35 => ?_)
       ·have h35d := bsT h35
        have hby := h35d
        have hq1 := bM.1 hbx
        have hq2 := bM.1 hby
        exact absurd (show sqO (g1 (aU l m (aF r g)) j) (g2 (aU l m (aF r g)) j) = true by unfold sqO; rw [Bool.and_eq_true, bC, bC]; omega) (by rw [hsq]; decide)
       ·have h35d := bsT h35
        have hok : bP W Hh l m (aF r g) (g1 (aU l m (aF r g)) j, g2 (aU l m (aF r g)) j) = false := by unfold bP; rw [hbx, h35d]; rfl
        rw [hpr, if_neg (by rw [hok]; decide), List.append_nil] at hst
        have g'45 := (jn @h35 (jn @h35d g'44))
        refine aa g'45 ?_
        refine hJ0 _ _ ⟨k0 - 1, by omega, _, _, _, ⟨j + 1, by omega, rfl, rfl⟩, Abs.byG hbel [] rfl [0, 1, 2, 3, 4] (by decide) ?_⟩
        exact aN (jn @hst (jn @bv (jn @bF (jn @bZ @bW))))
      ·have h34d := bsT h34
       have hok : bP W Hh l m (aF r g) (g1 (aU l m (aF r g)) j, g2 (aU l m (aF r g)) j) = false := by unfold bP; rw [h34d]; rfl
       rw [hpr, if_neg (by rw [hok]; decide), List.append_nil] at hst
       have g'46 := (jn @h34 (jn @h34d g'43))
       refine aa g'46 ?_
       refine hJ0 _ _ ⟨k0 - 1, by omega, _, _, _, ⟨j + 1, by omega, rfl, rfl⟩, Abs.byG hbel [] rfl [0, 1, 2, 3, 4] (by decide) ?_⟩
       exact aN (jn @hst (jn @bv (jn @bF (jn @bZ @bW))))
    ·have h28d := bsT h28
     obtain rfl : j = (aU l m (aF r g)).length := by omega
     have hfinL : ((aU l m (aF r g)).take (aU l m (aF r g)).length).filter (bP W Hh l m (aF r g)) = ei W Hh l m r g := by rw [List.take_length]; exact (if_neg hfar).symm
     have g'47 := (jn @h28 (jn @h28d g'34))
     refine aa g'47 ?_
     refine hQ _ _ (br (.inl rfl) hbel (x1 := .sl (some (H.length + 4, 0)) ((((aU l m (aF r g)).take (aU l m (aF r g)).length).filter (bP W Hh l m (aF r g))).length) (bA (((aU l m (aF r g)).take (aU l m (aF r g)).length).filter (bP W Hh l m (aF r g))).length)) (l2 := [.cells (bm (((aU l m (aF r g)).take (aU l m (aF r g)).length).filter (bP W Hh l m (aF r g))).length) 2 (prs (((aU l m (aF r g)).take (aU l m (aF r g)).length).filter (bP W Hh l m (aF r g))))]) (.sl (some (H.length, 0)) ((((aU l m (aF r g)).take (aU l m (aF r g)).length).filter (bP W Hh l m (aF r g))).length) (bA (((aU l m (aF r g)).take (aU l m (aF r g)).length).filter (bP W Hh l m (aF r g))).length)) (av Tryz.results131) [] rfl [4] (by decide) ⟨by first | (rw [hfinL]; done) | (rw [hfinL]; rfl), by first | (rw [hfinL]; done) | (rw [hfinL]; rfl)⟩ ?_)
     exact bj
open Go.RowKit Go.Sort
set_option maxRecDepth 100000 in
theorem sortc_f {α : Type} [Inhabited α] (val : α → Int × Int) (cf : α → α → Int) (hO : SWO (ltOf cf)) (g : FuncId) (eg : ∀ args w, (callFunc g args).run Tryz.prog w = .ok (.enter g args) w)
  (hcmp : ∀ (x y : α) (W : World), Calls Tryz.prog g #[.agg #[.int .i64 (val x).1, .int .i64 (val x).2], .agg #[.int .i64 (val y).1, .int .i64 (val y).2]] W fun e w' => e = .returned (.int .i64 (cf x y)) ∧ ∃ q os', w' = grow (W.drewN q) os')
  {H : ac} {b n : Nat} {cap : Option Nat} {zs : List α} (hg : H[b]? = some (.cells true 2 (prs (zs.map val)))) (hn : n = zs.length) (h0 : 0 < n) (h1 : n ≤ 1000000) :
  ACalls Tryz.prog 132 [.sl (some (b, 0)) n cap, .fn g []] H
   (fun v H' => v = .tup [] ∧ ∃ ys : List α, ys.Perm zs ∧ ys.Pairwise (fun x y => ltOf cf y x = false) ∧ H' = H.set b (.cells true 2 (prs (ys.map val)))) := fun E w vs hE hv => by
 obtain ⟨v1, l1, rfl, k1, h1'⟩ := iN hv
 obtain ⟨v2, l2, rfl, k2, h2'⟩ := iN h1'
 obtain rfl := qd h2'
 have hf : v2 = .func (.func g) #[] #[] := by
  cases k2 with
  | fn _ _ cs hl _ =>
   have : cs = #[] := by
    have : cs.size = 0 := hl.symm
    exact Array.eq_empty_of_size_eq_zero this
   rw [this]
 subst hf
 cases k1 with
 | nils _ _ _ _ => exact absurd h0 (Nat.lt_irrefl 0)
 | sl _ _ _ _ c a hb h2 h3 h4 h5 h6 =>
 have hc : c ≠ 0 := by omega
 obtain rfl := h5.resolve_left hc
 obtain ⟨m1, m2, -, -⟩ := hE.blk b _ hg
 obtain ⟨o1, o2, o3, o4, o5⟩ := m2 rfl
 have hpl : (prs (zs.map val)).length = zs.length * 2 := by rw [bE]; simp
 have hH : HoldsK (encP val) 2 w (E.loc b).blk (E.loc b).off zs.toArray := by
  show Holds id w _ _ (flatK (encP val) 2 zs.toArray)
  rw [pw]
  intro j hj
  have hj' : j < zs.length * 2 := by simpa [jU] using hj
  refine ⟨?_, (o5 j (by omega)).2⟩
  have hx : (prs (zs.map val))[j]? = some (prs (zs.map val))[j] := List.getElem?_eq_getElem (by omega)
  obtain ⟨-, v, hv, hr⟩ := m1 j _ hx
  rw [hv]
  obtain ⟨u, hu, hru⟩ := (kc (E := E) (zs.map val)).get hx
  have : ∀ (k : Nat) (l : List (Int × Int)) (y : AV) (v u : Value), (prs l)[k]? = some y → Rel E y v → (d6 l)[k]? = some u → v = u := by
   intro k l
   induction l generalizing k with
   | nil => intro y v u h; simp [prs] at h
   | cons p l ih =>
    intro y v u h1 h2 h3
    match k with
    | 0 => simp [cz, d6] at h1 h3; subst h1 h3; exact lP h2
    | 1 => simp [cz, d6] at h1 h3; subst h1 h3; exact lP h2
    | k + 2 =>
     refine ih k y v u (by simpa [cz] using h1) h2 ?_
     simpa [d6] using h3
  have e := this j _ _ v u hx hr hu
  subst e
  simp [List.getElem!_eq_getElem?_getD, hu]
 have hcon := AnyQ.slices_SortFunc Tryz.sort132 2 Tryz.isAgg149 Tryz.sizeOf149 (encP val) (fun _ => rfl) (fun x v hv => by simp [encP] at hv; rcases hv with rfl | rfl <;> rfl) cf hO g #[] (E.loc b).blk (E.loc b).off c zs.toArray w eg
  (fun _ _ _ _ x y => by simpa [encP] using hcmp x y _) hH o2 (by simp; omega)
 change Calls Tryz.prog 132 _ _ _ at hcon
 have hsz : zs.toArray.size = n := by simp [hn]
 rw [hsz] at hcon
 refine hcon.mono fun e w' ⟨he, d', q, os, hp, hs, hw⟩ => ?_
 subst hw
 obtain ⟨p1, -, p3⟩ := hp
 have hperm : d'.toList.Perm zs := by
  have a1 : d'.extract 0 n = d' := by rw [← hsz, ← p1]; simp
  have a2 : zs.toArray.extract 0 n = zs.toArray := by rw [← hsz]; simp
  rw [a1, a2] at p3
  simpa using p3
 have hl : (d'.toList.map val).length = (zs.map val).length := by simp [hperm.length_eq]
 refine ⟨E, _, _, .tup [], he, ⟨rfl, d'.toList, hperm, ?_, rfl⟩, .refl E, .tup [] #[] rfl (fun i x v h => by simp at h), ?_⟩
 ·rw [List.pairwise_iff_getElem]
  intro i j hi hj hij
  have := hs i j (Nat.zero_le _) hij (by have := hperm.length_eq; simp at hj this; omega)
  simp at hi hj
  simpa [hi, hj] using this
 ·have hd : d' = d'.toList.toArray := by simp
  have e1 : sortWorldK (encP val) 2 w (E.loc b).blk (E.loc b).off q d' os = grow ((w.drewN q).setCells (E.loc b).blk (E.loc b).off (d6 (d'.toList.map val))) os := by
   unfold sortWorldK
   congr 1
   show putRow id (Sort.ahead w q) _ _ (flatK (encP val) 2 d') = _
   rw [hd, pw]
   have := Lib.putRow_eq_setCells id w (E.loc b).blk (E.loc b).off (flatK (encP val) 2 zs.toArray) (d6 (d'.toList.map val)) q hH (by rw [jU, hl]; simp)
   simpa using this
  rw [e1]
  exact hE.putP hg hl os
open Go.RowKit Go.Sort
theorem or_h (a b : Int) (w : World) (blk off c : Nat) (h0 : w.cell? ⟨blk, off, none⟩ = some (.int .i64 a)) (h1 : w.cell? ⟨blk, off + 1, none⟩ = some (.int .i64 b)) :
  Calls Tryz.prog 174 #[.slice (some ⟨blk, off, none⟩) 2 c] w fun e w' => e = .returned (.int .i64 (if a = 0 then b else a)) ∧ w' = w := by
 have g0 : w.cell? ⟨blk, off + 0, none⟩ = some (.int .i64 a) := h0
 go_enter Tryz.func174, Tryz.ntmps174
 go_wp2
 go_loop [8] (fun i => ∃ k : Nat, k ≤ 2 ∧ i = .int .i64 k ∧ Hid ((1 ≤ k → a = 0) ∧ (2 ≤ k → b = 0))) (fun i => 2 - (intOf i).toNat)
 case atStart => exact ⟨0, by omega, rfl, ⟨fun h => by omega, fun h => by omega⟩⟩
 case round =>
  obtain ⟨k, hk, rfl, HK⟩ := hrel
  rcases (by omega : k = 0 ∨ k = 1 ∨ k = 2) with rfl | rfl | rfl
  ·by_cases ha : a = 0
   ·go_wp2
    go_round
    case rel => exact ⟨1, by omega, by go_num, ⟨fun _ => ha, fun h => by omega⟩⟩
    case measure => simp [intOf]
   ·go_wp2
    go_ret
    exact ⟨f0 (by first | rfl | (rw [if_neg ha])), rfl⟩
  ·have ha := HK.out.1 (by omega)
   by_cases hb : b = 0
   ·go_wp2
    go_round
    case rel => exact ⟨2, by omega, by go_num, ⟨fun _ => ha, fun h => hb⟩⟩
    case measure => simp [intOf]
   ·go_wp2
    go_ret
    exact ⟨f0 (by first | rfl | (rw [if_pos ha])), rfl⟩
  ·have ha := HK.out.1 (by omega)
   have hb := HK.out.2 (by omega)
   go_wp2
   go_ret
   exact ⟨f0 (by first | rfl | (rw [if_pos ha, hb])), rfl⟩
theorem i6 (w : World) (cs : Array Value) (t B j : Nat) (hB : B = w.heap.size) : (w.alloc (.cells cs t)).cell? ⟨B, j, none⟩ = cs[j]? := by
 subst hB
 unfold World.cell?
 have : (w.alloc (.cells cs t)).heap[w.heap.size]? = some (.cells cs t) := by
  show (w.heap.push _)[w.heap.size]? = _
  rw [Array.getElem?_push, if_pos rfl]
 rw [this]; rfl
theorem lD (w : World) (cs : Array Value) (t B j : Nat) (hB : B = w.heap.size) : (w.alloc (.cells cs t)).drew.cell? ⟨B, j, none⟩ = cs[j]? := i6 w cs t B j hB
def cfC (a b : Pt) : Int := if fN a.2 b.2 = 0 then fN a.1 b.1 else fN a.2 b.2
set_option maxHeartbeats 20000000 in
theorem before_h (x y : Pt) (W : World) : Calls Tryz.prog 133 #[.agg #[.int .i64 x.1, .int .i64 x.2], .agg #[.int .i64 y.1, .int .i64 y.2]] W fun e w' => e = .returned (.int .i64 (cfC x y)) ∧ ∃ q os', w' = grow (W.drewN q) os' := by
 have hcon := compare_h
 have hcon2 : ∀ (w : World) (blk off c : Nat), w.cell? ⟨blk, off, none⟩ = some (.int .i64 (fN x.2 y.2)) → w.cell? ⟨blk, off + 1, none⟩ = some (.int .i64 (fN x.1 y.1)) →
  Calls Tryz.prog 174 #[.slice (some ⟨blk, off, none⟩) 2 c] w fun e w' => e = .returned (.int .i64 (cfC x y)) ∧ w' = w := by
  intro w blk off c h0 h1
  have k := or_h (fN x.2 y.2) (fN x.1 y.1) w blk off c h0 h1
  unfold cfC
  exact k
 go_enter Tryz.func133, Tryz.ntmps133
 go_wp2_with (first | (go_at_call 175; refine (hcon _ _ _).mono ?_; rintro e w' ⟨rfl, rfl⟩) | fail)
 go_region_held3 (fun w' => w'.cell? ⟨W.heap.size, 0, none⟩ = some (.int .i64 x.1) ∧ w'.cell? ⟨W.heap.size, 1, none⟩ = some (.int .i64 x.2) ∧ w'.cell? ⟨W.heap.size + 1, 0, none⟩ = some (.int .i64 y.1) ∧ w'.cell? ⟨W.heap.size + 1, 1, none⟩ = some (.int .i64 y.2)) (go_keep)
  (first
   | (go_at_call 175; refine (hcon _ _ _).mono ?_; rintro e w' ⟨rfl, rfl⟩)
   | (go_at_call 174; refine (hcon2 _ _ _ _ ?h1 ?h2).mono ?_; case h1 => first | exact (i6 _ _ _ _ _ (by simp)).trans rfl | exact (lD _ _ _ _ _ (by simp)).trans rfl
      case h2 => first | exact (i6 _ _ _ _ _ (by simp)).trans rfl | exact (lD _ _ _ _ _ (by simp)).trans rfl
      rintro e w' ⟨rfl, rfl⟩))
 go_wp2
 go_ret
 exact ⟨rfl, 1, _, by rw [alloc_eq_grow, alloc_eq_grow, alloc_eq_grow, grow_grow, grow_grow]; rfl⟩
theorem jC (x y : Pt) : ltOf cfC x y = decide (cP x y) := by
 rw [Bool.eq_iff_iff]
 unfold ltOf
 rw [decide_eq_true_eq, decide_eq_true_eq]
 unfold cfC fN cP
 repeat' split
 all_goals omega
theorem swoC : SWO (ltOf cfC) where
 irrefl x := by rw [jC, decide_eq_false_iff_not]; exact befP_irr
 trans x y z h1 h2 := by
  rw [jC, decide_eq_true_eq] at *
  exact fZ h1 h2
 ntrans x y z h1 h2 := by
  rw [jC, decide_eq_false_iff_not] at *
  unfold cP at *; omega
set_option maxRecDepth 100000 in
theorem sortc_c (H : ac) (b : Nat) (cap : Option Nat) (l : List Pt) (hb : H[b]? = some (.cells true 2 (prs l))) (h0 : 0 < l.length) (h1 : l.length ≤ 1000000) :
  ACalls Tryz.prog 132 [.sl (some (b, 0)) l.length cap, .fn 133 []] H (fun v H' => v = .tup [] ∧ H' = H.set b (.cells true 2 (prs (dg l)))) := by
 have eg : ∀ args w, (callFunc 133 args).run Tryz.prog w = .ok (.enter 133 args) w := enters_of Tryz.func133 (by kernel_rfl) rfl
 refine (sortc_f (α := Pt) id cfC swoC 133 eg (fun x y W => before_h x y W) (zs := l) (by rw [List.map_id]; exact hb) rfl h0 h1).mono ?_
 rintro v H' ⟨rfl, ys, hp, hs, rfl⟩
 have e : ys = dg l := by
  refine tS (hp.trans (fG l).symm) (hs.imp fun {x y} h => ?_) (gO l)
  rw [jC, decide_eq_false_iff_not] at h
  rcases leC_tot x y with k | k
  ·exact k
  ·unfold leC at k ⊢
   rcases k with k | k
   ·exact .inl k.symm
   ·exact absurd k h
 rw [List.map_id, e]
 exact ⟨rfl, rfl⟩
open Go.RowKit
theorem pL {l : List (Int × Int)} {i m : Nat} (h : i + m < l.length) : ((prs l).drop (i * 2 + m * 2)).take 2 = [.int .i64 (g1 l (i + m)), .int .i64 (g2 l (i + m))] := by
 rw [show i * 2 + m * 2 = (i + m) * 2 by omega]; exact cA h
def NoEq (l : List (Int × Int)) (i : Nat) : Prop := ∀ j : Nat, 1 ≤ j → (h : j < l.length) → j < i → l[j - 1]'(by omega) ≠ l[j]
theorem ku {l : List (Int × Int)} : ∀ {i : Nat}, i ≤ l.length → NoEq l i → bQ (l.take i) = l.take i
 | 0, _, _ => rfl
 | 1, h, _ => cpt_1 (by rw [List.length_take]; omega)
 | i + 2, h, k => by
  rw [ko (by omega) (by omega), ku (i := i + 1) (by omega) (fun j h1 h2 h3 => k j h1 h2 (by omega)), if_neg (k (i + 1) (by omega) (by omega) (by omega)), ← List.take_succ_eq_append_getElem]
theorem padL_id (l : List (Int × Int)) : dq l.length l = l := by simp [dq]
set_option maxRecDepth 100000 in
theorem cpt_cell (H : ac) (b : Nat) (cap : Option Nat) (l : List (Int × Int)) (hb : H[b]? = some (.cells (bm l.length) 2 (prs l))) (hl : l.length ≤ 1000000000) :
  ACalls Tryz.prog 134 [.sl (some (b, 0)) l.length cap] H (fun v H' => v = .sl (some (b, 0)) (bQ l).length none ∧ H' = H.set b (.cells (bm l.length) 2 (prs (dq l.length (bQ l))))) := by
 have hbl := getElem?_lt hb
 have hset : ∀ X L, (H.set b X ++ L)[b]? = some X := fun X L => by rw [List.getElem?_append_left (by simpa using hbl), List.getElem?_set_self hbl]
 have hset0 : ∀ X, (H.set b X)[b]? = some X := fun X => List.getElem?_set_self hbl
 have hself : H.set b (.cells (bm l.length) 2 (prs l)) = H := by
  refine List.ext_getElem? fun i => ?_
  rw [List.getElem?_set]
  split
  ·rename_i e; subst e; first | exact hb.symm | (rw [if_pos hbl]; exact hb.symm)
  ·rfl
 have hend : bQ l = l → H.set b (.cells (bm l.length) 2 (prs (dq l.length (bQ l)))) = H := fun e => by rw [e, padL_id, hself]
 (refine cl try_mixed Tryz.func134 true _ rfl (Nat.le_of_ble_eq_true (by kernel_rfl)) (by kernel_rfl) ?_; intro hbel Q hQ hQ' c hc; unfold Tryz.f134 at hc; simp only [Option.some.injEq] at hc; subst hc; clear hQ')
 simp -implicitDefEqProofs (disch := omega) only [simprocAttr, ax, ay, Function.comp_apply, one1, lenV, af, am, ap, aop, AV.ofValue, AV.ofCell, AV.cells, AV.flat, AV.one, arep, aB, aH, aw]
 refine aq (fun h1 => ?_) (fun h1 => ?_)
 ·have h1d := of_decide_eq_true h1
  have e := cpt_1 (l := l) (by omega)
  simp -implicitDefEqProofs (disch := omega) only [h1, simprocAttr, ax, ay, Function.comp_apply, one1, lenV, af, am, ap, aop, AV.ofValue, AV.ofCell, AV.cells, AV.flat, AV.one, arep, aB, aH, aw]
  exact hQ _ _ (ji (.inl rfl) hbel (x1 := .sl (some (b, 0)) l.length cap) (l2 := []) (.sl (some (b, 0)) (bQ l).length none) (av Tryz.results134) [] rfl [] (by decide) ⟨rfl, by rw [List.append_nil, hend e]⟩ (by rw [e]; exact bj))
 ·have h1d := of_decide_eq_false h1
  have hown : bm l.length = true := dJ (by omega)
  rw [hown] at hb hself
  simp -implicitDefEqProofs (disch := omega) only [h1, simprocAttr, ax, ay, Function.comp_apply, one1, lenV, af, am, ap, aop, AV.ofValue, AV.ofCell, AV.cells, AV.flat, AV.one, arep, aB, aH, aw]
  refine go_loop try_mixed (by kernel_rfl) (fun k F Hx => ∃ i : Nat, i + k = l.length ∧ 1 ≤ i ∧ NoEq l i ∧ F = [(0, .sl (some (b, 0)) l.length cap), (3, .int .i64 ((i : Nat) : Int))] ∧ H = Hx) (l.length - 1) ?_ ?_
  ·refine ⟨_, _, _, ⟨1, by omega, by omega, fun j h2 h3 h4 => by omega, rfl, rfl⟩, Abs.by0 hbel ?_⟩
   exact bj
  ·rintro k F Hx ⟨i, hik, hi1, hne, rfl, rfl⟩ J hJ
   by_cases hi : i < l.length
   ·have hii : (i : Int) < (l.length : Int) := by omega
    have q1 := cA (l := l) (j := i) hi
    have q2 := cA (l := l) (j := i - 1) (by omega)
    have hsub : ((i : Int) - 1).toNat = i - 1 := by omega
    simp -implicitDefEqProofs (disch := omega) only [hii, hb, q1, q2, hsub, bE, cD, simprocAttr, ax, ay, Function.comp_apply, one1, lenV, af, am, ap, aop, AV.ofValue, AV.ofCell, AV.cells, AV.flat, AV.one, arep, aB, aH, aw]
    repeat refine And.intro (by omega) ?_
    refine aq (fun h2 => ?_) (fun h2 => ?_)
    ·have heq : l[i - 1]'(by omega) = l[i] := by
      simp only [Bool.and_eq_true, beq_iff_eq] at h2
      rw [← cu hi, ← cu (show i - 1 < l.length by omega), h2.1, h2.2]
     have hc0 : bQ (l.take (i + 1)) = l.take i := by rw [ko hi1 hi, if_pos heq, List.append_nil, ku (by omega) hne]
     have hcl : (bQ (l.take (i + 1))).length = i := by rw [hc0, List.length_take]; omega
     have hsl : ((i : Int) - 0).toNat = i := by omega
     simp -implicitDefEqProofs (disch := omega) only [h2, hb, bE, cD, simprocAttr, ax, ay, Function.comp_apply, one1, lenV, af, am, ap, aop, AV.ofValue, AV.ofCell, AV.cells, AV.flat, AV.one, arep, aB, aH, aw]
     repeat refine And.intro (by omega) ?_
     refine go_loop try_mixed (by kernel_rfl) (fun k F Hx => ∃ (j c : Nat) (X : List (Int × Int)), j + k = l.length ∧ i + 1 ≤ j ∧ c = (bQ (l.take j)).length ∧ c < j ∧ X.length = l.length ∧ X.take c = bQ (l.take j) ∧ X.drop (j - 1) = l.drop (j - 1) ∧ F = [(0, .sl (some (b, 0)) l.length cap), (3, .int .i64 ((c : Nat) : Int)), (4, .sl (some (b, i * 2)) (l.length - i) none), (5, .int .i64 ((j - i : Nat) : Int))] ∧ Hx = H.set b (.cells true 2 (prs X))) (l.length - (i + 1)) ?_ ?_
     ·refine ⟨_, _, _, ⟨i + 1, i, l, by omega, by omega, hcl.symm, by omega, rfl, hc0.symm, rfl, rfl, rfl⟩, Abs.by0e hself hbel ?_⟩
      have hi1' : ((i + 1 - i : Nat) : Int) = 1 := by omega
      exact bl @hi1'
     ·rintro k F Hx ⟨j, c, X, hjk, hij, hc, hcj, hXl, hXt, hXd, rfl, rfl⟩ J2 hJ2
      obtain ⟨G, hG⟩ : ∃ G, G = H.set b (.cells true 2 (prs X)) := ⟨_, rfl⟩
      have hGl : G.length = H.length := by rw [hG, List.length_set]
      have hG1 : ∀ L, (G ++ L)[b]? = some (.cells true 2 (prs X)) := fun L => by rw [hG]; exact hset _ _
      have hG0 : G[b]? = some (.cells true 2 (prs X)) := by rw [hG]; exact hset0 _
      have hbG : b < G.length := by omega
      have hGs0 : ∀ Y, G.set b Y = H.set b Y := fun Y => by rw [hG, List.set_set]
      have hGs : ∀ Y L, (G ++ L).set b Y = H.set b Y ++ L := fun Y L => by rw [List.set_append_left _ _ hbG, hG, List.set_set]
      rw [← hG]
      have hbelG : HBel H.length G := by rw [hG]; exact HBel.put hbel b eF
      by_cases hj : j < l.length
      ·have hjj : ((j - i : Nat) : Int) < ((l.length - i : Nat) : Int) := by omega
       have hXj : ∀ q, j - 1 ≤ q → (hq : q < l.length) → X[q]'(by omega) = l[q] := fun q h1 hq => by
        have := congrArg (fun m => m[q - (j - 1)]?) hXd
        simp only [List.getElem?_drop] at this
        rw [show j - 1 + (q - (j - 1)) = q by omega, List.getElem?_eq_getElem (by omega), List.getElem?_eq_getElem hq] at this
        exact Option.some.inj this
       have q3 := pL (l := X) (i := i) (m := j - i) (by omega)
       have q4 := pL (l := X) (i := i) (m := j - i - 1) (by omega)
       have hsub2 : (((j - i : Nat) : Int) - 1).toNat = j - i - 1 := by omega
       rw [show i + (j - i) = j by omega] at q3
       rw [show i + (j - i - 1) = j - 1 by omega] at q4
       simp -implicitDefEqProofs (disch := omega) only [hjj, hG1, hG0, q3, q4, hsub2, bE, cD, simprocAttr, ax, ay, Function.comp_apply, one1, lenV, af, am, ap, aop, AV.ofValue, AV.ofCell, AV.cells, AV.flat, AV.one, arep, aB, aH, aw]
       repeat refine And.intro (by omega) ?_
       have hst := ko (l := l) (j := j) (by omega) hj
       have hcX : c < X.length := by omega
       have hjj2 : ((j + 1 - i : Nat) : Int) = ((j - i : Nat) : Int) + 1 := by omega
       have hpj := cu (l := X) (j := j) (by omega)
       have hpj1 := cu (l := X) (j := j - 1) (by omega)
       have hp2 := tF (a := g1 X j) (b := g2 X j) hcX
       have hXd2 : X.drop j = l.drop j := by
        have := congrArg (fun m => m.drop 1) hXd
        simp only [List.drop_drop] at this
        rwa [show j - 1 + 1 = j by omega] at this
       refine aq (fun h3 => ?_) (fun h3 => ?_)
       ·have hdif : ¬ l[j - 1]'(by omega) = l[j] := fun e => by
         rw [← hXj (j - 1) (by omega) (by omega), ← hXj j (by omega) hj, ← hpj, ← hpj1] at e
         simp only [Prod.mk.injEq] at e
         rw [e.1, e.2] at h3
         simp at h3
        rw [if_neg hdif] at hst
        have hl5 : (bQ (l.take (j + 1))).length = c + 1 := by rw [hst, List.length_append, hc]; rfl
        simp -implicitDefEqProofs (disch := omega) only [h3, hG1, hG0, hGs, hGs0, q3, hp2, bE, cD, simprocAttr, ax, ay, Function.comp_apply, one1, lenV, af, am, ap, aop, AV.ofValue, AV.ofCell, AV.cells, AV.flat, AV.one, arep, aB, aH, aw]
        repeat refine And.intro (by omega) ?_
        refine hJ2 _ _ ⟨k - 1, by omega, _, _, _, ⟨j + 1, c + 1, X.set c (g1 X j, g2 X j), by omega, by omega, hl5.symm, by omega, by rw [List.length_set]; exact hXl, ?_, ?_, rfl, rfl⟩, Abs.byS0 (by rw [List.length_set]) (HBel.put hbel b eF) ?_⟩
        ·rw [hst, List.take_succ_eq_append_getElem (by rw [List.length_set]; exact hcX), List.getElem_set_self, List.take_set_of_le (Nat.le_refl _), hXt, hpj, hXj j (by omega) hj]
        ·rw [show j + 1 - 1 = j by omega, List.drop_set_of_lt (by omega), hXd2]
        exact bl (jn @hjj2 (jn @Int.natCast_add @Int.natCast_one))
       ·have heq2 : l[j - 1]'(by omega) = l[j] := by
         rw [← hXj (j - 1) (by omega) (by omega), ← hXj j (by omega) hj, ← hpj, ← hpj1]
         simp only [Bool.not_eq_false', Bool.and_eq_true, beq_iff_eq] at h3
         rw [h3.1, h3.2]
        rw [if_pos heq2, List.append_nil] at hst
        simp -implicitDefEqProofs (disch := omega) only [h3, simprocAttr, ax, ay, Function.comp_apply, one1, lenV, af, am, ap, aop, AV.ofValue, AV.ofCell, AV.cells, AV.flat, AV.one, arep, aB, aH, aw]
        refine hJ2 _ _ ⟨k - 1, by omega, _, _, _, ⟨j + 1, c, X, by omega, by omega, by rw [hst]; exact hc, by omega, hXl, by rw [hst]; exact hXt, by rw [show j + 1 - 1 = j by omega]; exact hXd2, rfl, hG⟩, Abs.byS0 hGl hbelG ?_⟩
        exact bl (jn @hjj2 (jn @Int.natCast_add @Int.natCast_one))
      ·have hjj : ¬ ((j - i : Nat) : Int) < ((l.length - i : Nat) : Int) := by omega
       have hrep := (prs_rep (m := l.length - c)).symm
       have hne0 : (l.length - c == 0) = false := beq_eq_false_iff_ne.2 (by omega)
       have hspl := lw (l := X) (ys := List.replicate (l.length - c) (0, 0)) (i := c) (by rw [List.length_replicate]; omega)
       rw [hXt] at hspl
       simp -implicitDefEqProofs (disch := omega) only [hjj, hG1, hG0, hrep, hne0, hspl, hGs0, bE, cD, List.length_replicate, hset0, simprocAttr, ax, ay, Function.comp_apply, one1, lenV, af, am, ap, aop, AV.ofValue, AV.ofCell, AV.cells, AV.flat, AV.one, arep, aB, aH, aw]
       refine ⟨by omega, ⟨by omega, .inl (Nat.le_refl _)⟩, by omega, by omega, ⟨by omega, .inl (by omega)⟩, ?_⟩
       obtain rfl : j = l.length := by omega
       rw [List.take_length] at hc ⊢
       refine hQ _ _ (end_byS (by rw [List.length_set]) (.inl rfl) (HBel.put hbel b eF) (x1 := .sl (some (b, 0)) (c - 0) (Option.map (fun x => x - 0) cap)) (.sl (some (b, 0)) (bQ l).length none) (av Tryz.results134) ⟨rfl, by rw [hown, hc]; rfl⟩ ?_)
       exact bl (jn @hc @Nat.sub_zero)
    ·have hdif : ¬ l[i - 1]'(by omega) = l[i] := fun e => by
      rw [← cu hi, ← cu (show i - 1 < l.length by omega)] at e
      simp only [Prod.mk.injEq] at e
      rw [e.1, e.2] at h2
      simp at h2
     simp -implicitDefEqProofs (disch := omega) only [h2, simprocAttr, ax, ay, Function.comp_apply, one1, lenV, af, am, ap, aop, AV.ofValue, AV.ofCell, AV.cells, AV.flat, AV.one, arep, aB, aH, aw]
     refine hJ _ _ ⟨k - 1, by omega, _, _, _, ⟨i + 1, by omega, by omega, fun j h3 h4 h5 => by
      rcases Nat.lt_or_ge j i with h6 | h6
      ·exact hne j h3 h4 h6
      ·obtain rfl : j = i := by omega
       exact hdif, rfl, rfl⟩, Abs.by0 hbel ?_⟩
     exact bl (jn @Int.natCast_add @Int.natCast_one)
   ·have hii : ¬ (i : Int) < (l.length : Int) := by omega
    obtain rfl : i = l.length := by omega
    have e : bQ l = l := by have := ku (Nat.le_refl _) hne; rwa [List.take_length] at this
    simp -implicitDefEqProofs (disch := omega) only [hii, simprocAttr, ax, ay, Function.comp_apply, one1, lenV, af, am, ap, aop, AV.ofValue, AV.ofCell, AV.cells, AV.flat, AV.one, arep, aB, aH, aw]
    exact hQ _ _ (ji (.inl rfl) hbel (x1 := .sl (some (b, 0)) l.length cap) (l2 := []) (.sl (some (b, 0)) (bQ l).length none) (av Tryz.results134) [] rfl [] (by decide) ⟨rfl, by rw [List.append_nil, hend e]⟩ (by rw [e]; exact bj))
open Go.RowKit
theorem bits0_c (H : ac) : ACalls Tryz.prog 173 [.int .u64 0] H (fun v H' => v = .int .i64 0 ∧ H' = H) := by
 have h := ext_ok 173 [.int .u64 0] H (.int .i64 0) none (by kernel_rfl)
 exact h.2.2
theorem ins0_c (H : ac) (s : AV)   (g : FuncId) (hs : Sl H 2 s 0 []) : ACalls Tryz.prog 199 [s, .int .i64 0, .int .i64 0, .fn g []] H (fun v H' => v = .tup [] ∧ H' = H) := by
 obtain ⟨bs, os, cs, rfl, hbs⟩ := hs
 have hbls := getElem?_lt hbs
 have hb0s := fun l => aD (l := l) hbs
 refine AcN true Tryz.func199 ?_; intro hbel Q hQ
 have g'1 := (jn @hbs @hb0s)
 refine aa g'1 ?_
 refine go_loop try_mixed (by kernel_rfl) (fun k F Hx => ∃ z : Unit, k = 0 ∧ F = [(0, .sl (some (bs, 0)) 0 cs), (1, .int .i64 0), (2, .int .i64 0), (3, .fn g []), (8, .int .i64 1)] ∧ H = Hx) (0) ?_ ?_
 ·refine ⟨_, _, _, ⟨(), by omega, rfl, rfl⟩, Abs.by0 hbel ?_⟩
  exact bj
 ·rintro k0 F Hx ⟨z, hm0, rfl, rfl⟩ J0 hJ0
  refine aa g'1 ?_
  exact hQ _ _ (aE (by first | exact .inl rfl | exact .inr rfl) hbel (x := .tup []) (av Tryz.results199) rfl ⟨rfl, rfl⟩)
theorem pdq0_c (H : ac) (s : AV)   (m : Int) (g : FuncId) (hs : Sl H 2 s 0 []) : ACalls Tryz.prog 172 [s, .int .i64 0, .int .i64 0, .int .i64 m, .fn g []] H (fun v H' => v = .tup [] ∧ H' = H) := by
 obtain ⟨bs, os, cs, rfl, hbs⟩ := hs
 have hbls := getElem?_lt hbs
 have hb0s := fun l => aD (l := l) hbs
 refine AcT true Tryz.func172 ?_; intro hbel Q hQ
 have g'2 := (jn @hbs @hb0s)
 refine aa g'2 ?_
 refine go_loop try_mixed (by kernel_rfl) (fun k F Hx => ∃ z : Unit, k = 0 ∧ F = [(0, .sl (some (bs, 0)) 0 cs), (1, .int .i64 0), (2, .int .i64 0), (3, .int .i64 m), (4, .fn g []), (10, .bool true), (11, .bool true)] ∧ H = Hx) (0) ?_ ?_
 ·refine ⟨_, _, _, ⟨(), by omega, rfl, rfl⟩, Abs.by0 hbel ?_⟩
  exact bj
 ·rintro k0 F Hx ⟨z, hm0, rfl, rfl⟩ J0 hJ0
  refine aa g'2 ?_
  refine aj (by kernel_rfl) (ins0_c _ _ g ⟨_, _, _, rfl, by first | exact hb0s _ | exact hbs⟩) ?_
  refine aa g'2 ?_
  exact hQ _ _ (aE (.inl rfl) hbel (x := .tup []) (av Tryz.results172) rfl ⟨rfl, rfl⟩)
theorem srt0_c (H : ac) (s : AV) (g : FuncId) (hs : Sl H 2 s 0 []) : ACalls Tryz.prog 132 [s, .fn g []] H (fun v H' => v = .tup [] ∧ H' = H) := by
 obtain ⟨bs, os, cs, rfl, hbs⟩ := hs
 have hbls := getElem?_lt hbs
 have hb0s := fun l => aD (l := l) hbs
 refine AcN true Tryz.func132 ?_; intro hbel Q hQ
 have g'3 := (jn @hbs @hb0s)
 refine aa g'3 ?_
 refine aj (by kernel_rfl) (bits0_c _) ?_
 refine aa g'3 ?_
 refine aj (by kernel_rfl) (pdq0_c _ _ 0 g ⟨_, _, _, rfl, by first | exact hb0s _ | exact hbs⟩) ?_
 refine aa g'3 ?_
 exact hQ _ _ (aE (by first | exact .inl rfl | exact .inr rfl) hbel (x := .tup []) (av Tryz.results132) rfl ⟨rfl, rfl⟩)
open Go.RowKit
theorem srtk_c (H : ac) (b : Nat) (cap : Option Nat) (l : List (Int × Int)) (hb : H[b]? = some (.cells (bm l.length) 2 (prs l))) (h1 : l.length ≤ 1000000) :
  ACalls Tryz.prog 132 [.sl (some (b, 0)) l.length cap, .fn 133 []] H (fun v H' => v = .tup [] ∧ H' = H.set b (.cells (bm l.length) 2 (prs (dg l)))) := by
 rcases Nat.eq_zero_or_pos l.length with h0 | h0
 ·obtain rfl := List.eq_nil_of_length_eq_zero h0
  rw [kp]
  have hself : H.set b (.cells (bm ([] : List (Int × Int)).length) 2 (prs [])) = H := by
   refine List.ext_getElem? fun i => ?_
   rw [List.getElem?_set]
   split
   ·rename_i e; subst e; first | exact hb.symm | (rw [if_pos (getElem?_lt hb)]; exact hb.symm)
   ·rfl
  rw [hself]
  exact srt0_c H _ _ ⟨b, _, cap, rfl, hb⟩
 ·rw [dJ h0] at hb ⊢
  exact sortc_c H b cap l hb h0 h1
theorem cptk_c (H : ac) (b : Nat) (cap : Option Nat) (l : List (Int × Int)) (hb : H[b]? = some (.cells (bm l.length) 2 (prs (dg l)))) (h1 : l.length ≤ 1000000) :
  ACalls Tryz.prog 134 [.sl (some (b, 0)) l.length cap] H (fun v H' => v = .sl (some (b, 0)) (bQ (dg l)).length none ∧ H' = H.set b (.cells (bm l.length) 2 (prs (dq (dg l).length (bQ (dg l)))))) := by
 have h := cpt_cell H b cap (dg l) (by rw [fp]; exact hb) (by rw [fp]; omega)
 rw [fp l] at h ⊢
 exact h
theorem kall_c (H : ac) (W : Int) (Hh : Int) (pp : AV) (xs : List Int) (s : AV) (l : List T6) (q : AV) (sc : List (Int × Int)) (g : Int) (hpp : Sl H 1 pp xs.length (ints .u8 xs)) (hs : Sl H 6 s l.length (r6 l)) (hq : Sl H 2 q sc.length (prs sc)) (hV : b9 W Hh xs = true) (hS : bU l = true) (hl0 : 0 < l.length) (hsB : cd sc = true) (hg : 1 ≤ g ∧ g ≤ 32) : ACalls Tryz.prog 96 [.agg [.int .i64 W, .int .i64 Hh, pp], s, q, .int .i64 g] H (fun v H' => v = .sl (some (H.length, 0)) ((aW W Hh l sc g).length) none ∧ H' = H ++ [.cells (bm (rowA W Hh l sc g).length) 2 (prs (aW W Hh l sc g))]) := by
 obtain ⟨bpp, opp, cpp, rfl, hbpp⟩ := hpp
 have hblpp := getElem?_lt hbpp
 have hb0pp := fun l => aD (l := l) hbpp
 obtain ⟨bs, os, cs, rfl, hbs⟩ := hs
 have hbls := getElem?_lt hbs
 have hb0s := fun l => aD (l := l) hbs
 obtain ⟨bq, oq, cq, rfl, hbq⟩ := hq
 have hblq := getElem?_lt hbq
 have hb0q := fun l => aD (l := l) hbq
 have hsc := dG.1 hsB
 have hpl := jy W Hh l sc g sc.length
 refine AcT false Tryz.func96 ?_; intro hbel Q hQ
 have g'1 := (jn @hbpp (jn @hb0pp (jn @hbs (jn @hb0s (jn @hbq @hb0q)))))
 refine aa g'1 ?_
 refine aj (by kernel_rfl) (iZ _ _ l ⟨_, _, _, rfl, by first | exact hb0s _ | exact hbs⟩ (by assumption)) ?_
 refine aa g'1 ?_
 refine aq (fun h1 => ?_) (fun h1 => ?_)
 ·have h1d := bsT h1
  have hfinA := allL_nil (W := W) (Hh := Hh) (sc := sc) (g := g) h1d
  have g'2 := (jn @h1 (jn @h1d g'1))
  refine aa g'2 ?_
  refine hQ _ _ (br (.inl rfl) hbel (x1 := .sl none 0 (some 0)) (l2 := [.cells false 2 []]) (.sl (some (H.length, 0)) 0 none) (av Tryz.results96) [.cells false 2 []] rfl [1] (by decide) ⟨by first | (rw [hfinA.1]; done) | (rw [hfinA.1]; rfl) | rfl | (unfold aW; rw [hfinB]; done) | (unfold bu; rw [hfinB]; done) | skip, by first | (rw [hfinA.1, hfinA.2]; rfl) | (unfold aW; rw [hfinB]; rfl) | (unfold aW; rw [hfinB]; done) | skip⟩ ?_)
  exact bl @gy
 ·have h1d := bsT h1
  have htau := h1d
  have hfinB : rowA W Hh l sc g = prS W Hh l sc g sc.length := if_pos htau
  have g'3 := (jn @h1 (jn @h1d g'1))
  refine aa g'3 ?_
  refine go_loop try_mixed (by kernel_rfl) (fun k F Hx => ∃ i : Nat, i + k = sc.length ∧ F = [(1, .sl (some (bs, 0)) l.length cs), (3, .int .i64 g), (4, .ptr (some (H.length, 0))), (9, .sl (some (H.length + 1, 0)) ((prS W Hh l sc g i).length) (bA (prS W Hh l sc g i).length)), (15, .sl (some (bq, 0)) sc.length cq), (16, .int .i64 ((sc.length : Nat) : Int)), (17, .int .i64 ((i : Nat) : Int))] ∧ Hx = H ++ [.cells true 0 [.int .i64 W, .int .i64 Hh, .sl (some (bpp, 0)) xs.length cpp], .cells (bm (prS W Hh l sc g i).length) 2 (prs (prS W Hh l sc g i))]) (sc.length) ?_ ?_
  ·refine ⟨_, _, _, ⟨0, by omega, rfl, rfl⟩, Abs.byG hbel [.cells false 2 []] rfl [0, 1] (by decide) ?_⟩
   exact aN @prS.eq_1
  ·rintro k0 F Hx ⟨i, hm0, rfl, rfl⟩ J0 hJ0
   have g'4 := (jn @bE (jn @cD g'3))
   refine aa g'4 ?_
   refine aq (fun h2 => ?_) (fun h2 => ?_)
   ·have h2d := bsT h2
    have hlt : i < sc.length := by omega
    have hbi := kh.1 (hsc.2 _ (List.getElem_mem hlt))
    rw [← cu hlt] at hbi
    have hpi := jy W Hh l sc g i
    have hvl := tO W Hh l (g1 sc i) (g2 sc i) g
    have q3 := cA (l := sc) (j := i) (by omega)
    have g'5 := (jn @h2 (jn @h2d (jn @q3 g'4)))
    refine aa g'5 ?_
    refine aj (by kernel_rfl) (proven_c _ W Hh _ xs _ l (g1 sc i) (g2 sc i) g ⟨_, _, _, rfl, by first | exact hb0pp _ | exact hbpp⟩ ⟨_, _, _, rfl, by first | exact hb0s _ | exact hbs⟩ hV hS hl0 (by omega) (by omega)) ?_
    rcases Nat.eq_zero_or_pos ((ei W Hh l (g1 sc i) (g2 sc i) g).length) with h4 | h4
    ·have h4e : ei W Hh l (g1 sc i) (g2 sc i) g = [] := List.eq_nil_of_length_eq_zero h4
     rcases Nat.eq_zero_or_pos ((prS W Hh l sc g i).length) with h5 | h5
     ·have h5e : prS W Hh l sc g i = [] := List.eq_nil_of_length_eq_zero h5
      have g'6 := (jn @h4 (jn @h5 (jn @lk (jn @ll g'5))))
      refine aa g'6 ?_
      refine hJ0 _ _ ⟨k0 - 1, by omega, _, _, _, ⟨i + 1, by omega, rfl, rfl⟩, Abs.byG hbel [] rfl [0, 1] (by decide) ?_⟩
      exact aN (jn @prS.eq_2 (jn @List.append_nil.{0} (jn @h4e @h5e)))
     ·have h5c := iQ h5
      have h5o := dJ h5
      have h5z : ((prS W Hh l sc g i).length == 0) = false := beq_eq_false_iff_ne.2 (by omega)
      have g'7 := (jn @h4 (jn @h5c (jn @h5o (jn @h5z (jn @jp g'5)))))
      refine aa g'7 ?_
      refine hJ0 _ _ ⟨k0 - 1, by omega, _, _, _, ⟨i + 1, by omega, rfl, rfl⟩, Abs.byG hbel [] rfl [0, 4] (by decide) ?_⟩
      exact aN (jn @prS.eq_2 (jn @List.append_nil.{0} (jn @h4e (jn @h5c (jn @h5o @Nat.add_zero)))))
    ·have h4z : decide (0 < (ei W Hh l (g1 sc i) (g2 sc i) g).length) = true := decide_eq_true h4
     have h4c := iQ (n := (prS W Hh l sc g i).length + (ei W Hh l (g1 sc i) (g2 sc i) g).length) (by omega)
     have h4o := dJ (n := (prS W Hh l sc g i).length + (ei W Hh l (g1 sc i) (g2 sc i) g).length) (by omega)
     have g'8 := (jn @h4 (jn @h4z (jn @jp g'5)))
     refine aa g'8 ?_
     refine hJ0 _ _ ⟨k0 - 1, by omega, _, _, _, ⟨i + 1, by omega, rfl, rfl⟩, Abs.byG hbel [] rfl [0, 4] (by decide) ?_⟩
     exact aN (jn @prS.eq_2 (jn @List.append_nil.{0} (jn @h4c @h4o)))
   ·have h2d := bsT h2
    obtain rfl : i = sc.length := by omega
    have g'9 := (jn @h2 (jn @h2d g'4))
    refine aa g'9 ?_
    refine aj (by kernel_rfl) (srtk_c _ _ _ (prS W Hh l sc g sc.length) (by first | (rw [ah]; rfl) | (rw [ae]; rfl) | rfl) (by omega)) ?_
    refine aa g'9 ?_
    refine aj (by kernel_rfl) (cptk_c _ _ _ (prS W Hh l sc g sc.length) (by first | (rw [ah]; rfl) | (rw [ae]; rfl) | rfl) (by omega)) ?_
    refine aa g'9 ?_
    refine hQ _ _ (br (.inl rfl) hbel (x1 := .sl (some (H.length + 1, 0)) ((bQ (dg (prS W Hh l sc g sc.length))).length) none) (l2 := [.cells (bm (prS W Hh l sc g sc.length).length) 2 (prs (bQ (dg (prS W Hh l sc g sc.length))))]) (.sl (some (H.length, 0)) ((bQ (dg (prS W Hh l sc g sc.length))).length) none) (av Tryz.results96) [] rfl [1] (by decide) ⟨by first | (rw [hfinA.1]; done) | (rw [hfinA.1]; rfl) | rfl | (unfold aW; rw [hfinB]; done) | (unfold bu; rw [hfinB]; done) | skip, by first | (rw [hfinA.1, hfinA.2]; rfl) | (unfold aW; rw [hfinB]; rfl) | (unfold aW; rw [hfinB]; done) | skip⟩ ?_)
    exact bl @gy
open Go.RowKit
theorem ksus_c (H : ac) (s : AV) (l : List T6) (m : Int) (r : Int) (g : Int) (hs : Sl H 6 s l.length (r6 l)) (hS : bU l = true) (hr : -1 ≤ r ∧ r ≤ 1024) (hg : 1 ≤ g ∧ g ≤ 32) : ACalls Tryz.prog 98 [s, .agg [.int .i64 m, .int .i64 r], .int .i64 g] H (fun v H' => v = .sl (some (H.length, 0)) ((bu l m r g).length) none ∧ H' = H ++ [.cells (bm (fq l m r g).length) 2 (prs (bu l m r g))]) := by
 obtain ⟨bs, os, cs, rfl, hbs⟩ := hs
 have hbls := getElem?_lt hbs
 have hb0s := fun l => aD (l := l) hbs
 have hda := km hS m
 have hsl := jz (aC l m) r g (aC l m).length
 have hpair : ∀ j', j' < (aC l m).length → bxB (g91 (aC l m) j') (g92 (aC l m) j') (g93 (aC l m) j') (g94 (aC l m) j') (g95 (aC l m) j') (g96 (aC l m) j') = true := fun j' hj' => by
  have k := dirA_ok hS (g9_mem hj')
  unfold pairB at k; rw [Bool.and_eq_true] at k; exact k.1
 refine AcT false Tryz.func98 ?_; intro hbel Q hQ
 have g'1 := (jn @hbs @hb0s)
 refine aa g'1 ?_
 refine az (fun h1 => ?_) (fun h1 => ?_)
 ·have h1d := bsT h1
  have h1n := bnT h1
  have hr1 : ¬ r = -1 := by simpa using h1d
  have g'2 := (jn @h1 (jn @h1n (jn @aT (jn @aS g'1))))
  refine aa g'2 ?_
  refine aj (by kernel_rfl) (iZ _ _ l ⟨_, _, _, rfl, by first | exact hb0s _ | exact hbs⟩ (by assumption)) ?_
  refine aa g'2 ?_
  refine aq (fun h2 => ?_) (fun h2 => ?_)
  ·have h2d := bsT h2
   have hfinA := tT (l := l) (m := m) (r := r) (g := g) (.inr h2d)
   have g'3 := (jn @h2 (jn @h2d g'2))
   refine aa g'3 ?_
   refine hQ _ _ (br (.inl rfl) hbel (x1 := .sl none 0 (some 0)) (l2 := [.cells false 2 []]) (.sl (some (H.length, 0)) 0 none) (av Tryz.results98) [.cells false 2 []] rfl [1] (by decide) ⟨by first | (rw [hfinA.1]; done) | (rw [hfinA.1]; rfl) | (unfold bu; rw [hfinB]; done) | skip, by first | (rw [hfinA.1, hfinA.2]; rfl) | (unfold bu; rw [hfinB]; rfl) | (unfold bu; rw [hfinB]; done) | skip⟩ ?_)
   exact bl @gy
  ·have h2d := bsT h2
   have htau := h2d
   have hdt := dirA_tau hS htau m
   have hfinB : fq l m r g = swS (aC l m) r g (aC l m).length := by unfold fq; rw [decide_eq_false hr1, htau]; rfl
   have g'4 := (jn @h2 (jn @h2d g'2))
   refine aa g'4 ?_
   refine aj (by kernel_rfl) (iq _ _ l m r ⟨_, _, _, rfl, by first | exact hb0s _ | exact hbs⟩ (by assumption)) ?_
   refine aa g'4 ?_
   refine go_loop try_mixed (by kernel_rfl) (fun k F Hx => ∃ i : Nat, i + k = (aC l m).length ∧ F = [(2, .int .i64 g), (4, .ptr (some (H.length, 0))), (7, .sl (some (H.length + 2, 0)) ((swS (aC l m) r g i).length) (bA (swS (aC l m) r g i).length)), (22, .sl (some (H.length + 1, 0)) ((aC l m).length) (bA (aC l m).length)), (23, .int .i64 (((aC l m).length : Nat) : Int)), (24, .int .i64 ((i : Nat) : Int))] ∧ Hx = H ++ [.cells true 0 [.int .i64 m, .int .i64 r], .cells (bm (aC l m).length) 9 (r9 (aC l m)), .cells (bm (swS (aC l m) r g i).length) 2 (prs (swS (aC l m) r g i))]) ((aC l m).length) ?_ ?_
   ·refine ⟨_, _, _, ⟨0, by omega, rfl, rfl⟩, Abs.byG hbel [.cells false 2 []] rfl [0, 1, 2] (by decide) ?_⟩
    exact aN (jn @swS.eq_1 (jn @bv (jn @bF (jn @bZ @bW))))
   ·rintro k0 F Hx ⟨i, hm0, rfl, rfl⟩ J0 hJ0
    have g'5 := (jn @dC (jn @iY (jn @bE (jn @cD g'4))))
    refine aa g'5 ?_
    refine aq (fun h3 => ?_) (fun h3 => ?_)
    ·have h3d := bsT h3
     have hpi := hpair i (by omega)
     have hsi := jz (aC l m) r g i
     have hvl := ki (g91 (aC l m) i) (g92 (aC l m) i) (g93 (aC l m) i) (g94 (aC l m) i) (g97 (aC l m) i) (g98 (aC l m) i) (g99 (aC l m) i) (if 0 < r - g then r - g else 0) (r + g)
     have q4 := r9_load (l := aC l m) (j := i) (by omega)
     have g'6 := (jn @h3 (jn @h3d (jn @q4 g'5)))
     refine aa g'6 ?_
     refine aP (by kernel_rfl) (rect_c _ (g91 (aC l m) i) (g92 (aC l m) i) (g93 (aC l m) i) (g94 (aC l m) i) (g95 (aC l m) i) (g96 (aC l m) i) hpi) ?_
     refine aa g'6 ?_
     refine bL (by kernel_rfl) (by simp) (swept_c _ (g91 (aC l m) i) (g92 (aC l m) i) (g93 (aC l m) i) (g94 (aC l m) i) (g97 (aC l m) i) (g98 (aC l m) i) (g99 (aC l m) i) (if 0 < (r - g) then (r - g) else 0) (r + g)) ?_
     rcases Nat.eq_zero_or_pos ((cC (g91 (aC l m) i) (g92 (aC l m) i) (g93 (aC l m) i) (g94 (aC l m) i) (g97 (aC l m) i) (g98 (aC l m) i) (g99 (aC l m) i) (if 0 < (r - g) then (r - g) else 0) (r + g)).length) with h5 | h5
     ·have h5e : cC (g91 (aC l m) i) (g92 (aC l m) i) (g93 (aC l m) i) (g94 (aC l m) i) (g97 (aC l m) i) (g98 (aC l m) i) (g99 (aC l m) i) (if 0 < (r - g) then (r - g) else 0) (r + g) = [] := List.eq_nil_of_length_eq_zero h5
      rcases Nat.eq_zero_or_pos ((swS (aC l m) r g i).length) with h6 | h6
      ·have h6e : swS (aC l m) r g i = [] := List.eq_nil_of_length_eq_zero h6
       have g'7 := (jn @h5 (jn @h6 (jn @lk (jn @ll g'6))))
       refine aa g'7 ?_
       refine hJ0 _ _ ⟨k0 - 1, by omega, _, _, _, ⟨i + 1, by omega, rfl, rfl⟩, Abs.byG hbel [] rfl [0, 1, 2] (by decide) ?_⟩
       exact aN (jn @swS.eq_2 (jn @List.append_nil.{0} (jn @h5e (jn @h6e (jn @bv (jn @bF (jn @bZ @bW)))))))
      ·have h6c := iQ h6
       have h6o := dJ h6
       have h6z : ((swS (aC l m) r g i).length == 0) = false := beq_eq_false_iff_ne.2 (by omega)
       have g'8 := (jn @h5 (jn @h6c (jn @h6o (jn @h6z (jn @jp g'6)))))
       refine aa g'8 ?_
       refine hJ0 _ _ ⟨k0 - 1, by omega, _, _, _, ⟨i + 1, by omega, rfl, rfl⟩, Abs.byG hbel [] rfl [0, 1, 5] (by decide) ?_⟩
       exact aN (jn @swS.eq_2 (jn @List.append_nil.{0} (jn @h5e (jn @h6c (jn @h6o (jn @Nat.add_zero (jn @bv (jn @bF (jn @bZ @bW)))))))))
     ·have h5z : decide (0 < (cC (g91 (aC l m) i) (g92 (aC l m) i) (g93 (aC l m) i) (g94 (aC l m) i) (g97 (aC l m) i) (g98 (aC l m) i) (g99 (aC l m) i) (if 0 < (r - g) then (r - g) else 0) (r + g)).length) = true := decide_eq_true h5
      have h5c := iQ (n := (swS (aC l m) r g i).length + (cC (g91 (aC l m) i) (g92 (aC l m) i) (g93 (aC l m) i) (g94 (aC l m) i) (g97 (aC l m) i) (g98 (aC l m) i) (g99 (aC l m) i) (if 0 < (r - g) then (r - g) else 0) (r + g)).length) (by omega)
      have h5o := dJ (n := (swS (aC l m) r g i).length + (cC (g91 (aC l m) i) (g92 (aC l m) i) (g93 (aC l m) i) (g94 (aC l m) i) (g97 (aC l m) i) (g98 (aC l m) i) (g99 (aC l m) i) (if 0 < (r - g) then (r - g) else 0) (r + g)).length) (by omega)
      have g'9 := (jn @h5 (jn @h5z (jn @jp g'6)))
      refine aa g'9 ?_
      refine hJ0 _ _ ⟨k0 - 1, by omega, _, _, _, ⟨i + 1, by omega, rfl, rfl⟩, Abs.byG hbel [] rfl [0, 1, 5] (by decide) ?_⟩
      exact aN (jn @swS.eq_2 (jn @List.append_nil.{0} (jn @h5c (jn @h5o (jn @bv (jn @bF (jn @bZ @bW)))))))
    ·have h3d := bsT h3
     obtain rfl : i = (aC l m).length := by omega
     have g'10 := (jn @h3 (jn @h3d g'5))
     refine aa g'10 ?_
     refine aj (by kernel_rfl) (srtk_c _ _ _ (swS (aC l m) r g (aC l m).length) (by first | (rw [ah]; rfl) | (rw [ae]; rfl) | rfl) (by omega)) ?_
     refine aa g'10 ?_
     refine aj (by kernel_rfl) (cptk_c _ _ _ (swS (aC l m) r g (aC l m).length) (by first | (rw [ah]; rfl) | (rw [ae]; rfl) | rfl) (by omega)) ?_
     refine aa g'10 ?_
     refine hQ _ _ (br (.inl rfl) hbel (x1 := .sl (some (H.length + 2, 0)) ((bQ (dg (swS (aC l m) r g (aC l m).length))).length) none) (l2 := [.cells (bm (swS (aC l m) r g (aC l m).length).length) 2 (prs (bQ (dg (swS (aC l m) r g (aC l m).length))))]) (.sl (some (H.length, 0)) ((bQ (dg (swS (aC l m) r g (aC l m).length))).length) none) (av Tryz.results98) [] rfl [2] (by decide) ⟨by first | (rw [hfinA.1]; done) | (rw [hfinA.1]; rfl) | (unfold bu; rw [hfinB]; done) | skip, by first | (rw [hfinA.1, hfinA.2]; rfl) | (unfold bu; rw [hfinB]; rfl) | (unfold bu; rw [hfinB]; done) | skip⟩ ?_)
     exact bl @gy
 ·have h1d := bsT h1
  have h1n := bnT h1
  have hr1 : r = -1 := by simpa using h1d
  have hfinA := tT (l := l) (m := m) (g := g) (.inl hr1)
  have g'11 := (jn @h1 (jn @h1n (jn @aT (jn @aS g'1))))
  refine aa g'11 ?_
  refine hQ _ _ (br (.inl rfl) hbel (x1 := .sl none 0 (some 0)) (l2 := [.cells false 2 []]) (.sl (some (H.length, 0)) 0 none) (av Tryz.results98) [.cells false 2 []] rfl [1] (by decide) ⟨by first | (rw [hfinA.1]; done) | (rw [hfinA.1]; rfl) | (unfold bu; rw [hfinB]; done) | skip, by first | (rw [hfinA.1, hfinA.2]; rfl) | (unfold bu; rw [hfinB]; rfl) | (unfold bu; rw [hfinB]; done) | skip⟩ ?_)
  exact bl @gy
open Go.RowKit
open Go.RowKit
set_option maxRecDepth 100000 in
theorem kw (H : ac) (s : AV) (xs : List Int) (hs : Sl H 1 s xs.length (ints .u8 xs)) (hl : xs.length ≤ 1000000) (h0 : 0 < xs.length) : ACalls Tryz.prog 74 [s] H (fun v H' => v = .sl (some (H.length, 0)) xs.length none ∧ H' = H ++ [.cells true 1 (ints .u8 xs)]) := by
 obtain ⟨b, own, cap, rfl, hb⟩ := hs
 have hbl := getElem?_lt hb
 have hb0 := fun l => aD (l := l) hb
 generalize hm : xs.length = m at *
 refine AcT true Tryz.func74 ?_; intro hbel Q hQ
 have htk : List.take m (ints .u8 xs) = ints .u8 xs := List.take_of_length_le (by rw [aK]; omega)
 have htk1 : List.take (m * 1) (ints .u8 xs) = ints .u8 xs := List.take_of_length_le (by rw [aK]; omega)
 have hm0 : (m == 0) = false := beq_eq_false_iff_ne.2 (by omega)
 have hm1 : (m != 0) = true := bne_iff_ne.2 (by omega)
 simp -implicitDefEqProofs (disch := omega) only [hb, hb0, Option.isNone_some, hm0, h0, htk, htk1, gq, hm1, simprocAttr, ax, ay, Function.comp_apply, one1, lenV, af, am, ap, aop, AV.ofValue, AV.ofCell, AV.cells, AV.flat, AV.one, arep, aB, aH, aw]
 repeat refine And.intro (by omega) ?_
 refine hQ _ _ (end_by (.inl rfl) hbel (x1 := .sl (some (H.length + 1, 0)) m none) (.sl (some (H.length, 0)) m none) (av Tryz.results74) [1] (by decide) ⟨rfl, rfl⟩ ?_)
 exact absT
theorem susL_own {l : List T6} {m r g : Int} : bm (fq l m r g).length = bm (bu l m r g).length := by
 unfold bu
 have h := fp (fq l m r g)
 generalize dg (fq l m r g) = s at *
 match s, h with
 | [], h => rw [← h]; rfl
 | a :: t, h =>
  have h2 : a ∈ bQ (a :: t) := fm.2 (List.mem_cons_self ..)
  rw [dJ (by rw [← h]; simp), dJ (List.length_pos_of_mem h2)]
theorem ksus2_c (H : ac) (s : AV) (l : List T6) (m : Int) (r : Int) (g : Int) (hs : Sl H 6 s l.length (r6 l)) (hS : bU l = true) (hr : -1 ≤ r ∧ r ≤ 1024) (hg : 1 ≤ g ∧ g ≤ 32) : ACalls Tryz.prog 98 [s, .agg [.int .i64 m, .int .i64 r], .int .i64 g] H (fun v H' => v = .sl (some (H.length, 0)) (bu l m r g).length none ∧ H' = H ++ [.cells (bm (bu l m r g).length) 2 (prs (bu l m r g))]) := by
 have h := ksus_c H s l m r g hs hS hr hg
 rw [susL_own] at h
 exact h
theorem learn1_c (H : ac) (c1 : Int) (c2 : Int) (W : Int) (Hh : Int) (pp : AV) (xs : List Int) (bz : Nat) (hpp : Sl H 1 pp xs.length (ints .u8 xs)) (hz : ∃ o, H[bz]? = some (.cells o 0 [.int .i64 W, .int .i64 Hh, pp])) (hV : b9 W Hh xs = true) : ACalls Tryz.prog 99 [.agg [.int .i64 c1, .int .i64 c2], .ptr (some (bz, 0))] H (fun v H' => v = .bool (frP W Hh xs (c1, c2)) ∧ H' = H) := by
 obtain ⟨bpp, opp, cpp, rfl, hbpp⟩ := hpp
 have hblpp := getElem?_lt hbpp
 have hb0pp := fun l => aD (l := l) hbpp
 obtain ⟨oz, hbz⟩ := hz
 have hblz := getElem?_lt hbz
 have hb0z := fun l => aD (l := l) hbz
 refine AcT true Tryz.func99 ?_; intro hbel Q hQ
 have g'1 := (jn @hbpp (jn @hb0pp (jn @hbz @hb0z)))
 refine aa g'1 ?_
 refine aj (by kernel_rfl) (pat_c _ W Hh _ xs c1 c2 ⟨_, _, _, rfl, by first | exact hb0pp _ | exact hbpp⟩ hV) ?_
 refine aa g'1 ?_
 exact hQ _ _ (ai (.inl rfl) hbel (x := .bool ((atI W Hh xs c1 c2) == 1)) (av Tryz.results99) rfl ⟨rfl, rfl⟩)
theorem learn_c (H : ac) (W : Int) (Hh : Int) (pp : AV) (xs : List Int) (s : AV) (l : List T6) (q : AV) (sc : List (Int × Int)) (g : Int) (hpp : Sl H 1 pp xs.length (ints .u8 xs)) (hs : Sl H 6 s l.length (r6 l)) (hq : Sl H 2 q sc.length (prs sc)) (hl : l.length ≤ 1000000000) (hsc : sc.length ≤ 1000000000) : ACalls Tryz.prog 56 [.agg [.int .i64 W, .int .i64 Hh, pp], s, q, .int .i64 g] H (fun v H' => v = .tup [.agg [.int .i64 (lnZ W Hh xs l sc g W), .int .i64 (lnZ W Hh xs l sc g Hh), .sl (some (H.length, 0)) ((lnX W Hh xs l sc g).length) none], .int .i64 (lnE W Hh xs l sc g)] ∧ H' = H ++ [.cells (bm (lnX W Hh xs l sc g).length) 1 (ints .u8 (lnX W Hh xs l sc g))]) := by
 obtain ⟨bpp, opp, cpp, rfl, hbpp⟩ := hpp
 have hblpp := getElem?_lt hbpp
 have hb0pp := fun l => aD (l := l) hbpp
 obtain ⟨bs, os, cs, rfl, hbs⟩ := hs
 have hbls := getElem?_lt hbs
 have hb0s := fun l => aD (l := l) hbs
 obtain ⟨bq, oq, cq, rfl, hbq⟩ := hq
 have hblq := getElem?_lt hbq
 have hb0q := fun l => aD (l := l) hbq
 (refine bK Tryz.func56 _ rfl (Nat.le_of_ble_eq_true (by kernel_rfl)) rfl ?_; intro hbel Q hQ hQ' c hc; unfold Tryz.f56 at hc; simp only [Option.some.injEq] at hc; subst hc; clear hQ')
 refine jo false try_mixed (by kernel_rfl) (fun F Hx => look F 1 = .sl (some (bs, 0)) l.length cs ∧ look F 2 = .sl (some (bq, 0)) sc.length cq ∧ look F 3 = .int .i64 g ∧ look F 4 = .ptr (some (H.length, 0)) ∧ look F 8 = .ptr (some (H.length + 1, 0)) ∧ look F 9 = .int .i64 0 ∧ Hx = H ++ [.cells true 0 [.int .i64 W, .int .i64 Hh, .sl (some (bpp, 0)) xs.length cpp], .cells true 0 [.int .i64 0, .int .i64 0, .sl none 0 (some 0)]]) ?_ ?_
 ·skip
  have g'2 := (jn @hbpp (jn @hb0pp (jn @hbs (jn @hb0s (jn @hbq @hb0q)))))
  refine aa g'2 ?_
  refine aZ ?_
  exact absT
 rintro F Hx ⟨f1, f2, f3, f4, f5, f6, rfl⟩
 refine jo false try_mixed (by kernel_rfl) (fun F Hx => cV W Hh xs l sc g = true ∧ look F 1 = .sl (some (bs, 0)) l.length cs ∧ look F 2 = .sl (some (bq, 0)) sc.length cq ∧ look F 3 = .int .i64 g ∧ look F 4 = .ptr (some (H.length, 0)) ∧ look F 8 = .ptr (some (H.length + 1, 0)) ∧ look F 9 = .int .i64 0 ∧ Hx = H ++ [.cells true 0 [.int .i64 W, .int .i64 Hh, .sl (some (bpp, 0)) xs.length cpp], .cells true 0 [.int .i64 0, .int .i64 0, .sl none 0 (some 0)]]) ?_ ?_
 ·skip
  have g'3 := (jn @hbpp (jn @hb0pp (jn @hbs (jn @hb0s (jn @hbq (jn @hb0q (jn @f1 (jn @f2 (jn @f3 (jn @f4 (jn @f5 @f6)))))))))))
  refine aa g'3 ?_
  refine aj (by kernel_rfl) (kright_c _ W Hh _ xs _ l _ sc g ⟨_, _, _, rfl, by first | exact hb0pp _ | exact hbpp⟩ ⟨_, _, _, rfl, by first | exact hb0s _ | exact hbs⟩ ⟨_, _, _, rfl, by first | exact hb0q _ | exact hbq⟩ (by first | omega | simp) (by first | omega | simp)) ?_
  refine aa g'3 ?_
  refine aq (fun h7 => ?_) (fun h7 => ?_)
  ·have h7d := bsT h7
   have hfinP := ln_1 h7d
   have g'4 := (jn @h7 (jn @h7d g'3))
   refine aa g'4 ?_
   refine hQ _ _ (br (.inl rfl) hbel (x1 := .tup [.agg [.int .i64 0, .int .i64 0, .sl none 0 (some 0)], .int .i64 1]) (l2 := [.cells false 1 []]) (.tup [.agg [.int .i64 0, .int .i64 0, .sl (some (H.length, 0)) 0 none], .int .i64 1]) (resTf (jn @f1 (jn @f2 (jn @f3 (jn @f4 (jn @f5 @f6))))) Tryz.results56) [.cells false 1 []] rfl [2] (by decide) ⟨by first | (rw [hfinP.1, hfinP.2.1, hfinP.2.2.1, hfinP.2.2.2]; done) | (rw [hfinP.1, hfinP.2.1, hfinP.2.2.1, hfinP.2.2.2]; rfl) | skip, by first | (rw [hfinP.2.1, hfinO]; done) | (rw [hfinP.2.1, hfinO]; rfl) | (rw [hfinP.2.1]; done) | (rw [hfinP.2.1]; rfl) | skip⟩ ?_)
   exact bj
  ·have h7d := bsT h7
   have g'5 := (jn @h7 (jn @h7d g'3))
   refine aa g'5 ?_
   refine aZ ?_
   exact absTf (jn @f1 (jn @f2 (jn @f3 (jn @f4 (jn @f5 @f6)))))
 rintro F Hx ⟨h8d, f9, f10, f11, f12, f13, f14, rfl⟩
 have hR := h8d
 obtain ⟨hV, hl0, hS, hsB, hg⟩ := eI.1 hR
 have hVV := cg.1 hV
 have hpp2 := hVV.pos
 have hWb : 1 ≤ W ∧ W ≤ 64 := ⟨hVV.w0, hVV.w1⟩
 have hHb : 1 ≤ Hh ∧ Hh ≤ 64 := ⟨hVV.h0, hVV.h1⟩
 have hx00 := (hVV.idx (show inB W Hh 0 0 = true from dK.2 (by have := hVV.w0; have := hVV.h0; omega))).2.2.2.2.1
 have hx0 : 0 < xs.length := by omega
 have hx6 : xs.length ≤ 1000000 := by have h4 := hVV.len; have := Int.mul_le_mul hVV.w1 hVV.h1 (by have := hVV.h0; omega) (by decide); omega
 have hsc2 := dG.1 hsB
 have hAl := allL_len (W := W) (Hh := Hh) (l := l) (sc := sc) (g := g)
 have hA : ∀ c ∈ (aW W Hh l sc g), inB W Hh c.1 c.2 = true := fun c hc => allL_in hc
 refine cm false try_mixed [[0, 1, 2, 3, 4, 5, 6, 7, 8, 9], [0, 1, 2, 3, 4, 5, 8, 6, 7, 9]] (by kernel_rfl) (fun F2 H2 => F2 = [(1, .sl (some (bs, 0)) l.length cs), (2, .sl (some (bq, 0)) sc.length cq), (3, .int .i64 g), (4, .ptr (some (H.length, 0))), (8, .ptr (some (H.length + 1, 0))), (9, .int .i64 0), (10, .ptr (some (H.length + 3, 0)))] ∧ H2 = H ++ [.cells true 0 [.int .i64 W, .int .i64 Hh, .sl (some (bpp, 0)) xs.length cpp], .cells true 0 [.int .i64 0, .int .i64 0, .sl none 0 (some 0)], .cells true 1 (ints .u8 xs), .cells true 0 [.int .i64 W, .int .i64 Hh, .sl (some (H.length + 2, 0)) xs.length none]]) ?_ ?_
 ·refine aR ?_ (aR ?_ (cn)) <;> intro J hJ
  ·skip
   have g'6 := (jn @hbpp (jn @hb0pp (jn @hbs (jn @hb0s (jn @hbq (jn @hb0q (jn @f1 (jn @f2 (jn @f3 (jn @f4 (jn @f5 (jn @f6 (jn @f9 (jn @f10 (jn @f11 (jn @f12 (jn @f13 (jn @f14 @h8d))))))))))))))))))
   refine aM g'6 ?_
   refine bL (by kernel_rfl) (by simp) (kw _ _ xs ⟨_, _, _, rfl, by first | exact hb0pp _ | exact hbpp⟩ hx6 hx0) ?_
   refine aM g'6 ?_
   refine aZ (hJ _ _ ⟨_, _, _, ⟨rfl, rfl⟩, Abs.byG hbel [] rfl [0, 1, 2, 3] (by decide) ?_⟩)
   exact aN (jn @f1 (jn @f2 (jn @f3 (jn @f4 (jn @f5 (jn @f6 (jn @f9 (jn @f10 (jn @f11 (jn @f12 (jn @f13 @f14)))))))))))
  ·skip
   have g'7 := (jn @hbpp (jn @hb0pp (jn @hbs (jn @hb0s (jn @hbq (jn @hb0q (jn @f1 (jn @f2 (jn @f3 (jn @f4 (jn @f5 (jn @f6 (jn @f9 (jn @f10 (jn @f11 (jn @f12 (jn @f13 (jn @f14 @h8d))))))))))))))))))
   refine aM g'7 ?_
   refine bL (by kernel_rfl) (by simp) (kw _ _ xs ⟨_, _, _, rfl, by first | exact hb0pp _ | exact hbpp⟩ hx6 hx0) ?_
   refine aM g'7 ?_
   refine aZ (hJ _ _ ⟨_, _, _, ⟨rfl, rfl⟩, Abs.byG hbel [] rfl [0, 1, 3, 2] (by decide) ?_⟩)
   exact aN (jn @f1 (jn @f2 (jn @f3 (jn @f4 (jn @f5 (jn @f6 (jn @f9 (jn @f10 (jn @f11 (jn @f12 (jn @f13 @f14)))))))))))
 rintro F2 H2 ⟨rfl, rfl⟩
 refine aI false try_mixed (by kernel_rfl) ?_
 have g'8 := (jn @hbpp (jn @hb0pp (jn @hbs (jn @hb0s (jn @hbq (jn @hb0q (jn @h8d (jn @aK @aJ))))))))
 refine aa g'8 ?_
 refine aj (by kernel_rfl) (iZ _ _ l ⟨_, _, _, rfl, by first | exact hb0s _ | exact hbs⟩ (by assumption)) ?_
 refine aa g'8 ?_
 refine aq (fun h15 => ?_) (fun h15 => ?_)
 ·have h15d := bsT h15
  have hfinP := ln_0 hR (if_neg (by rw [h15d]; decide))
  have hfinO := dJ hx0
  have g'9 := (jn @h15 (jn @h15d g'8))
  refine aa g'9 ?_
  refine hQ _ _ (br (.inl rfl) hbel (x1 := .tup [.agg [.int .i64 W, .int .i64 Hh, .sl (some (H.length + 2, 0)) xs.length none], .int .i64 0]) (l2 := [.cells true 1 (ints .u8 xs)]) (.tup [.agg [.int .i64 W, .int .i64 Hh, .sl (some (H.length, 0)) xs.length none], .int .i64 0]) (av Tryz.results56) [] rfl [2] (by decide) ⟨by first | (rw [hfinP.1, hfinP.2.1, hfinP.2.2.1, hfinP.2.2.2]; done) | (rw [hfinP.1, hfinP.2.1, hfinP.2.2.1, hfinP.2.2.2]; rfl) | skip, by first | (rw [hfinP.2.1, hfinO]; done) | (rw [hfinP.2.1, hfinO]; rfl) | (rw [hfinP.2.1]; done) | (rw [hfinP.2.1]; rfl) | skip⟩ ?_)
  exact bj
 ·have h15d := bsT h15
  have htau := h15d
  have g'10 := (jn @h15 (jn @h15d g'8))
  refine aa g'10 ?_
  refine aj (by kernel_rfl) (kall_c _ W Hh _ xs _ l _ sc g ⟨_, _, _, rfl, by first | exact hb0pp _ | exact hbpp⟩ ⟨_, _, _, rfl, by first | exact hb0s _ | exact hbs⟩ ⟨_, _, _, rfl, by first | exact hb0q _ | exact hbq⟩ hV hS hl0 hsB (by omega)) ?_
  refine aa g'10 ?_
  refine go_loop try_mixed (by kernel_rfl) (fun k F Hx => ∃ i : Nat, i + k = (aW W Hh l sc g).length ∧ d3 W Hh (aW W Hh l sc g) xs = d3 W Hh ((aW W Hh l sc g).drop i) (lfS W (aW W Hh l sc g) xs i) ∧ F = [(1, .sl (some (bs, 0)) l.length cs), (2, .sl (some (bq, 0)) sc.length cq), (3, .int .i64 g), (4, .ptr (some (H.length, 0))), (8, .ptr (some (H.length + 1, 0))), (10, .ptr (some (H.length + 3, 0))), (41, .sl (some (H.length + 4, 0)) ((aW W Hh l sc g).length) none), (42, .int .i64 (((aW W Hh l sc g).length : Nat) : Int)), (43, .int .i64 ((i : Nat) : Int))] ∧ Hx = H ++ [.cells true 0 [.int .i64 W, .int .i64 Hh, .sl (some (bpp, 0)) xs.length cpp], .cells true 0 [.int .i64 0, .int .i64 0, .sl none 0 (some 0)], .cells true 1 (ints .u8 (lfS W (aW W Hh l sc g) xs i)), .cells true 0 [.int .i64 W, .int .i64 Hh, .sl (some (H.length + 2, 0)) ((lfS W (aW W Hh l sc g) xs i).length) none], .cells (bm (rowA W Hh l sc g).length) 2 (prs (aW W Hh l sc g))]) ((aW W Hh l sc g).length) ?_ ?_
  ·refine ⟨_, _, _, ⟨0, by omega, rfl, rfl, rfl⟩, Abs.byG hbel [] rfl [0, 1, 2, 3, 4] (by decide) ?_⟩
   exact aN @lfS.eq_1
  ·rintro k0 F Hx ⟨i, hm0, hrem, rfl, rfl⟩ J0 hJ0
   have g'11 := (jn @bE (jn @cD g'10))
   refine aa g'11 ?_
   refine aq (fun h16 => ?_) (fun h16 => ?_)
   ·have h16d := bsT h16
    have hlt : i < (aW W Hh l sc g).length := by omega
    have hfv := g5 (W := W) (A := (aW W Hh l sc g)) hV i
    obtain ⟨j1, j2, j3, j4, j5, -⟩ := (cg.1 hfv).idx (gin_mem hlt hA)
    have q17 := cA (l := aW W Hh l sc g) (j := i) (by omega)
    have q18 := c7 (k := .u8) (xs := lfS W (aW W Hh l sc g) xs i) (j := (((g2 (aW W Hh l sc g) i) * W) + (g1 (aW W Hh l sc g) i)).toNat) (by omega)
    have g'12 := (jn @h16 (jn @h16d (jn @q17 (jn @q18 g'11))))
    refine aa g'12 ?_
    refine aq (fun h19 => ?_) (fun h19 => ?_)
    ·have h19d := bsT h19
     have h19n := bnT h19
     have hfinP := ln_11 hR (by unfold lnO; rw [if_pos htau, hrem, pJ hlt hA, if_pos (by simpa using h19d)]; rfl)
     have g'13 := (jn @h19 (jn @h19n (jn @aT (jn @aS g'12))))
     refine aa g'13 ?_
     refine hQ _ _ (br (.inl rfl) hbel (x1 := .tup [.agg [.int .i64 0, .int .i64 0, .sl none 0 (some 0)], .int .i64 11]) (l2 := [.cells false 1 []]) (.tup [.agg [.int .i64 0, .int .i64 0, .sl (some (H.length, 0)) 0 none], .int .i64 11]) (av Tryz.results56) [.cells false 1 []] rfl [6] (by decide) ⟨by first | (rw [hfinP.1, hfinP.2.1, hfinP.2.2.1, hfinP.2.2.2]; done) | (rw [hfinP.1, hfinP.2.1, hfinP.2.2.1, hfinP.2.2.2]; rfl) | skip, by first | (rw [hfinP.2.1, hfinO]; done) | (rw [hfinP.2.1, hfinO]; rfl) | (rw [hfinP.2.1]; done) | (rw [hfinP.2.1]; rfl) | skip⟩ ?_)
     exact bj
    ·have h19d := bsT h19
     have h19n := bnT h19
     have hne : ¬ gi (lfS W (aW W Hh l sc g) xs i) (((g2 (aW W Hh l sc g) i) * W) + (g1 (aW W Hh l sc g) i)).toNat = 2 := by simpa using h19d
     have g'14 := (jn @h19 (jn @h19n (jn @aT (jn @aS (jn @iW (jn @List.length_set.{0} g'12))))))
     refine aa g'14 ?_
     refine hJ0 _ _ ⟨k0 - 1, by omega, _, _, _, ⟨i + 1, by omega, hrem.trans ((pJ hlt hA).trans (if_neg hne)), rfl, rfl⟩, Abs.byG hbel [] rfl [0, 1, 2, 3, 4] (by decide) ?_⟩
     exact aN (jn @lfS.eq_2 @List.length_set.{0})
   ·have h16d := bsT h16
    obtain rfl : i = (aW W Hh l sc g).length := by omega
    rw [List.drop_length] at hrem
    have g'15 := (jn @h16 (jn @h16d g'11))
    refine aa g'15 ?_
    refine go_loop try_mixed (by kernel_rfl) (fun k F Hx => ∃ i : Nat, i + k = sc.length ∧ lnO W Hh xs l sc g = dr W Hh (fP l (sc.drop i) g) (lwS W Hh l sc g (lfS W (aW W Hh l sc g) xs (aW W Hh l sc g).length) i) ∧ F = [(1, .sl (some (bs, 0)) l.length cs), (3, .int .i64 g), (4, .ptr (some (H.length, 0))), (8, .ptr (some (H.length + 1, 0))), (10, .ptr (some (H.length + 3, 0))), (66, .sl (some (bq, 0)) sc.length cq), (67, .int .i64 ((sc.length : Nat) : Int)), (68, .int .i64 ((i : Nat) : Int))] ∧ Hx = H ++ [.cells true 0 [.int .i64 W, .int .i64 Hh, .sl (some (bpp, 0)) xs.length cpp], .cells true 0 [.int .i64 0, .int .i64 0, .sl none 0 (some 0)], .cells true 1 (ints .u8 (lwS W Hh l sc g (lfS W (aW W Hh l sc g) xs (aW W Hh l sc g).length) i)), .cells true 0 [.int .i64 W, .int .i64 Hh, .sl (some (H.length + 2, 0)) ((lwS W Hh l sc g (lfS W (aW W Hh l sc g) xs (aW W Hh l sc g).length) i).length) none]]) (sc.length) ?_ ?_
    ·refine ⟨_, _, _, ⟨0, by omega, by unfold lnO; rw [if_pos htau, hrem]; rfl, rfl, rfl⟩, Abs.byG hbel [] rfl [0, 1, 2, 3] (by decide) ?_⟩
     exact aN @lwS.eq_1
    ·rintro k1 F Hx ⟨i, hm1, hrem2, rfl, rfl⟩ J1 hJ1
     refine aa g'15 ?_
     refine aq (fun h20 => ?_) (fun h20 => ?_)
     ·have h20d := bsT h20
      have hlt : i < sc.length := by omega
      have hbi := kh.1 (hsc2.2 _ (List.getElem_mem hlt))
      rw [← cu hlt] at hbi
      have hwv := g7 (W := W) (Hh := Hh) (l := l) (sc := sc) (g := g) (g5 (W := W) (A := (aW W Hh l sc g)) hV (aW W Hh l sc g).length) i
      have hsl := tV (l := l) (m := g1 sc i) (r := g2 sc i) (g := g) hS
      have q21 := cA (l := sc) (j := i) (by omega)
      have g'16 := (jn @h20 (jn @h20d (jn @q21 g'15)))
      refine aa g'16 ?_
      refine aq (fun h22 => ?_) (fun h22 => ?_)
      ·have h22d := bsT h22
       have h22n := bnT h22
       have hr1 : g2 sc i = -1 := by simpa using h22d
       have hst := lwS_skip (W := W) (Hh := Hh) (l := l) (g := g) (o := (lfS W (aW W Hh l sc g) xs (aW W Hh l sc g).length)) hr1
       have hnx := tU (W := W) (Hh := Hh) (l := l) (g := g) (o := (lfS W (aW W Hh l sc g) xs (aW W Hh l sc g).length)) hlt (.inl hr1)
       have g'17 := (jn @h22 (jn @h22n (jn @aT (jn @aS g'16))))
       refine aa g'17 ?_
       refine hJ1 _ _ ⟨k1 - 1, by omega, _, _, _, ⟨i + 1, by omega, hrem2.trans hnx, rfl, rfl⟩, Abs.byG hbel [] rfl [0, 1, 2, 3] (by decide) ?_⟩
       exact aN (jn @hst @List.length_set.{0})
      ·have h22d := bsT h22
       have h22n := bnT h22
       have hr1 : ¬ g2 sc i = -1 := by simpa using h22d
       have g'18 := (jn @h22 (jn @h22n (jn @aT (jn @aS g'16))))
       refine aa g'18 ?_
       refine aj (by kernel_rfl) (ksus2_c _ _ l (g1 sc i) (g2 sc i) g ⟨_, _, _, rfl, by first | exact hb0s _ | exact hbs⟩ hS (by omega) (by omega)) ?_
       refine aa g'18 ?_
       refine aj (by kernel_rfl) (del_cell _ _ _ (bu l (g1 sc i) (g2 sc i) g) (by rw [ah]; rfl) (Nat.le_trans (tV hS) (by decide)) _ [.ptr (some (H.length + 3, 0))] (by kernel_rfl) (by simp [AV.bels, AV.bel]) (frP W Hh (lwS W Hh l sc g (lfS W (aW W Hh l sc g) xs (aW W Hh l sc g).length) i)) (fun X e L he => learn1_c _ e.1 e.2 W Hh (.sl (some (H.length + 2, 0)) (lwS W Hh l sc g (lfS W (aW W Hh l sc g) xs (aW W Hh l sc g).length) i).length none) (lwS W Hh l sc g (lfS W (aW W Hh l sc g) xs (aW W Hh l sc g).length) i) _ ⟨_, _, _, rfl, by rw [ib, List.append_assoc, ah]; rfl⟩ ⟨_, by rw [ib, List.append_assoc, ah]; rfl⟩ (g7 (g5 hV _) _))) ?_
       refine aa g'18 ?_
       refine aq (fun h23 => ?_) (fun h23 => ?_)
       ·have h23d := bsT h23
        have h23n := bnT h23
        have hd0 : (bO (frP W Hh (lwS W Hh l sc g (lfS W (aW W Hh l sc g) xs (aW W Hh l sc g).length) i)) (bu l (g1 sc i) (g2 sc i) g)).length = 0 := by have q := h23d; omega
        have hfinP := ln_11 hR (hrem2.trans (lwS_bad hlt hr1 hd0))
        have g'19 := (jn @h23 (jn @h23n g'18))
        refine aa g'19 ?_
        refine hQ _ _ (br (.inl rfl) hbel (x1 := .tup [.agg [.int .i64 0, .int .i64 0, .sl none 0 (some 0)], .int .i64 11]) (l2 := [.cells false 1 []]) (.tup [.agg [.int .i64 0, .int .i64 0, .sl (some (H.length, 0)) 0 none], .int .i64 11]) (av Tryz.results56) [.cells false 1 []] rfl [6] (by decide) ⟨by first | (rw [hfinP.1, hfinP.2.1, hfinP.2.2.1, hfinP.2.2.2]; done) | (rw [hfinP.1, hfinP.2.1, hfinP.2.2.1, hfinP.2.2.2]; rfl) | skip, by first | (rw [hfinP.2.1, hfinO]; done) | (rw [hfinP.2.1, hfinO]; rfl) | (rw [hfinP.2.1]; done) | (rw [hfinP.2.1]; rfl) | skip⟩ ?_)
        exact bj
       ·have h23d := bsT h23
        have h23n := bnT h23
        have hd0 : ¬ (bO (frP W Hh (lwS W Hh l sc g (lfS W (aW W Hh l sc g) xs (aW W Hh l sc g).length) i)) (bu l (g1 sc i) (g2 sc i) g)).length = 0 := by have q := h23d; first | omega | (rw [beq_eq_false_iff_ne] at q; omega)
        have hp1 : g1 (dq (bu l (g1 sc i) (g2 sc i) g).length (bO (frP W Hh (lwS W Hh l sc g (lfS W (aW W Hh l sc g) xs (aW W Hh l sc g).length) i)) (bu l (g1 sc i) (g2 sc i) g))) 0 = g1 (bO (frP W Hh (lwS W Hh l sc g (lfS W (aW W Hh l sc g) xs (aW W Hh l sc g).length) i)) (bu l (g1 sc i) (g2 sc i) g)) 0 := pad_g1 hd0
        have hp2 : g2 (dq (bu l (g1 sc i) (g2 sc i) g).length (bO (frP W Hh (lwS W Hh l sc g (lfS W (aW W Hh l sc g) xs (aW W Hh l sc g).length) i)) (bu l (g1 sc i) (g2 sc i) g))) 0 = g2 (bO (frP W Hh (lwS W Hh l sc g (lfS W (aW W Hh l sc g) xs (aW W Hh l sc g).length) i)) (bu l (g1 sc i) (g2 sc i) g)) 0 := pad_g2 hd0
        have hsfp := pad_len (p := frP W Hh (lwS W Hh l sc g (lfS W (aW W Hh l sc g) xs (aW W Hh l sc g).length) i)) (l := (bu l (g1 sc i) (g2 sc i) g))
        have hpn := delL_le (p := frP W Hh (lwS W Hh l sc g (lfS W (aW W Hh l sc g) xs (aW W Hh l sc g).length) i)) (l := (bu l (g1 sc i) (g2 sc i) g))
        have hnx := tU (W := W) (Hh := Hh) (l := l) (g := g) (o := (lfS W (aW W Hh l sc g) xs (aW W Hh l sc g).length)) hlt (.inr hd0)
        have q24 := (show List.take 2 (prs (dq (bu l (g1 sc i) (g2 sc i) g).length (bO (frP W Hh (lwS W Hh l sc g (lfS W (aW W Hh l sc g) xs (aW W Hh l sc g).length) i)) (bu l (g1 sc i) (g2 sc i) g)))) = [.int .i64 (g1 (dq (bu l (g1 sc i) (g2 sc i) g).length (bO (frP W Hh (lwS W Hh l sc g (lfS W (aW W Hh l sc g) xs (aW W Hh l sc g).length) i)) (bu l (g1 sc i) (g2 sc i) g))) 0), .int .i64 (g2 (dq (bu l (g1 sc i) (g2 sc i) g).length (bO (frP W Hh (lwS W Hh l sc g (lfS W (aW W Hh l sc g) xs (aW W Hh l sc g).length) i)) (bu l (g1 sc i) (g2 sc i) g))) 0)] from by have q := cA (l := dq (bu l (g1 sc i) (g2 sc i) g).length (bO (frP W Hh (lwS W Hh l sc g (lfS W (aW W Hh l sc g) xs (aW W Hh l sc g).length) i)) (bu l (g1 sc i) (g2 sc i) g))) (j := 0) (by omega); rwa [Nat.zero_mul, List.drop_zero] at q)
        have g'20 := (jn @h23 (jn @h23n (jn @hsfp (jn @q24 g'18))))
        refine aa g'20 ?_
        refine az (fun h25 => ?_) (fun h25 => ?_)
        ·have h25d := bsT h25
         have h25n := bnT h25
         have hd1 : (bO (frP W Hh (lwS W Hh l sc g (lfS W (aW W Hh l sc g) xs (aW W Hh l sc g).length) i)) (bu l (g1 sc i) (g2 sc i) g)).length = 1 := by have q := h25d; omega
         have g'21 := (jn @h25 (jn @h25n g'20))
         refine aa g'21 ?_
         refine aj (by kernel_rfl) (cO _ (g1 (dq (bu l (g1 sc i) (g2 sc i) g).length (bO (frP W Hh (lwS W Hh l sc g (lfS W (aW W Hh l sc g) xs (aW W Hh l sc g).length) i)) (bu l (g1 sc i) (g2 sc i) g))) 0) 0 (W - 1)) ?_
         refine aa g'21 ?_
         refine az (fun h26 => ?_) (fun h26 => ?_)
         ·have h26d := bsT h26
          have hd2 := h26d
          rw [hp1] at hd2
          have g'22 := (jn @h26 (jn @h26d g'21))
          refine aa g'22 ?_
          refine aj (by kernel_rfl) (cO _ (g2 (dq (bu l (g1 sc i) (g2 sc i) g).length (bO (frP W Hh (lwS W Hh l sc g (lfS W (aW W Hh l sc g) xs (aW W Hh l sc g).length) i)) (bu l (g1 sc i) (g2 sc i) g))) 0) 0 (Hh - 1)) ?_
          refine aa g'22 ?_
          refine aq (fun h27 => ?_) (fun h27 => ?_)
          ·have h27d := bsT h27
           have hd3 := h27d
           rw [hp2] at hd3
           have hst := lwS_set (W := W) (Hh := Hh) (l := l) (g := g) (o := (lfS W (aW W Hh l sc g) xs (aW W Hh l sc g).length)) hr1 ⟨hd1, hd2, hd3⟩
           rw [← hp1, ← hp2] at hst
           obtain ⟨j1, j2, j3, j4, j5, -⟩ := (cg.1 hwv).idx (x := g1 (dq (bu l (g1 sc i) (g2 sc i) g).length (bO (frP W Hh (lwS W Hh l sc g (lfS W (aW W Hh l sc g) xs (aW W Hh l sc g).length) i)) (bu l (g1 sc i) (g2 sc i) g))) 0) (y := g2 (dq (bu l (g1 sc i) (g2 sc i) g).length (bO (frP W Hh (lwS W Hh l sc g (lfS W (aW W Hh l sc g) xs (aW W Hh l sc g).length) i)) (bu l (g1 sc i) (g2 sc i) g))) 0) (dK.2 (by rw [hp1, hp2]; have := bM.1 hd2; have := bM.1 hd3; omega))
           have g'23 := (jn @h27 (jn @h27d (jn @iW (jn @List.length_set.{0} g'22))))
           refine aa g'23 ?_
           refine hJ1 _ _ ⟨k1 - 1, by omega, _, _, _, ⟨i + 1, by omega, hrem2.trans hnx, rfl, rfl⟩, Abs.byG hbel [] rfl [0, 1, 2, 3] (by decide) ?_⟩
           exact aN (jn @hst @List.length_set.{0})
          ·have h27d := bsT h27
           have hd3 := h27d
           rw [hp2] at hd3
           have hst := kq (W := W) (Hh := Hh) (l := l) (g := g) (o := (lfS W (aW W Hh l sc g) xs (aW W Hh l sc g).length)) hr1 (fun q => by rw [hd3] at q; exact absurd q.2.2 (by decide))
           have g'24 := (jn @h27 (jn @h27d g'22))
           refine aa g'24 ?_
           refine hJ1 _ _ ⟨k1 - 1, by omega, _, _, _, ⟨i + 1, by omega, hrem2.trans hnx, rfl, rfl⟩, Abs.byG hbel [] rfl [0, 1, 2, 3] (by decide) ?_⟩
           exact aN (jn @hst @List.length_set.{0})
         ·have h26d := bsT h26
          have hd2 := h26d
          rw [hp1] at hd2
          have hst := kq (W := W) (Hh := Hh) (l := l) (g := g) (o := (lfS W (aW W Hh l sc g) xs (aW W Hh l sc g).length)) hr1 (fun q => by rw [hd2] at q; exact absurd q.2.1 (by decide))
          have g'25 := (jn @h26 (jn @h26d g'21))
          refine aa g'25 ?_
          refine hJ1 _ _ ⟨k1 - 1, by omega, _, _, _, ⟨i + 1, by omega, hrem2.trans hnx, rfl, rfl⟩, Abs.byG hbel [] rfl [0, 1, 2, 3] (by decide) ?_⟩
          exact aN (jn @hst @List.length_set.{0})
        ·have h25d := bsT h25
         have h25n := bnT h25
         have hd1 : ¬ (bO (frP W Hh (lwS W Hh l sc g (lfS W (aW W Hh l sc g) xs (aW W Hh l sc g).length) i)) (bu l (g1 sc i) (g2 sc i) g)).length = 1 := by have q := h25d; first | omega | (rw [beq_eq_false_iff_ne] at q; omega)
         have hst := kq (W := W) (Hh := Hh) (l := l) (g := g) (o := (lfS W (aW W Hh l sc g) xs (aW W Hh l sc g).length)) hr1 (fun q => hd1 q.1)
         have g'26 := (jn @h25 (jn @h25n g'20))
         refine aa g'26 ?_
         refine hJ1 _ _ ⟨k1 - 1, by omega, _, _, _, ⟨i + 1, by omega, hrem2.trans hnx, rfl, rfl⟩, Abs.byG hbel [] rfl [0, 1, 2, 3] (by decide) ?_⟩
         exact aN (jn @hst @List.length_set.{0})
     ·have h20d := bsT h20
      obtain rfl : i = sc.length := by omega
      rw [List.drop_length] at hrem2
      have hfinP := ln_0 hR hrem2
      have hfinO : bm (lwS W Hh l sc g (lfS W (aW W Hh l sc g) xs (aW W Hh l sc g).length) sc.length).length = true := dJ (by have := vld_pos (g7 (W := W) (Hh := Hh) (l := l) (sc := sc) (g := g) (g5 (W := W) (A := (aW W Hh l sc g)) hV (aW W Hh l sc g).length) sc.length); omega)
      have g'27 := (jn @h20 (jn @h20d g'15))
      refine aa g'27 ?_
      refine hQ _ _ (br (.inl rfl) hbel (x1 := .tup [.agg [.int .i64 W, .int .i64 Hh, .sl (some (H.length + 2, 0)) ((lwS W Hh l sc g (lfS W (aW W Hh l sc g) xs (aW W Hh l sc g).length) sc.length).length) none], .int .i64 0]) (l2 := [.cells true 1 (ints .u8 (lwS W Hh l sc g (lfS W (aW W Hh l sc g) xs (aW W Hh l sc g).length) sc.length))]) (.tup [.agg [.int .i64 W, .int .i64 Hh, .sl (some (H.length, 0)) ((lwS W Hh l sc g (lfS W (aW W Hh l sc g) xs (aW W Hh l sc g).length) sc.length).length) none], .int .i64 0]) (av Tryz.results56) [] rfl [2] (by decide) ⟨by first | (rw [hfinP.1, hfinP.2.1, hfinP.2.2.1, hfinP.2.2.2]; done) | (rw [hfinP.1, hfinP.2.1, hfinP.2.2.1, hfinP.2.2.2]; rfl) | skip, by first | (rw [hfinP.2.1, hfinO]; done) | (rw [hfinP.2.1, hfinO]; rfl) | (rw [hfinP.2.1]; done) | (rw [hfinP.2.1]; rfl) | skip⟩ ?_)
      exact bj
open Go.RowKit
def lsB (l : List T6) : Bool := decide (0 < ((l.length : Nat) : Int)) && (decide (((l.length : Nat) : Int) ≤ 16) && !(l.any fun b => !bG b))
theorem jD {l : List T6} : lsB l = true ↔ 0 < l.length ∧ bU l = true := by
 rw [bX]; unfold lsB
 simp only [Bool.and_eq_true, decide_eq_true_eq, Bool.not_eq_true', List.any_eq_false, Bool.not_eq_true', Bool.not_eq_false]
 constructor
 ·rintro ⟨h1, h2, h3⟩; exact ⟨by omega, by omega, fun b hb => by simpa using h3 b hb⟩
 ·rintro ⟨h1, h2, h3⟩; exact ⟨by omega, by omega, fun b hb => by simpa using h3 b hb⟩
theorem lvs1_c (H : ac) (x0 : Int) (y0 : Int) (x1 : Int) (y1 : Int) (f : Int) (c : Int) : ACalls Tryz.prog 72 [.agg [.int .i64 x0, .int .i64 y0, .int .i64 x1, .int .i64 y1, .int .i64 f, .int .i64 c]] H (fun v H' => v = .bool (!(bG (x0, y0, x1, y1, f, c))) ∧ H' = H) := by
 refine AcT true Tryz.func72 ?_; intro hbel Q hQ
 refine bi ?_
 refine aj (by kernel_rfl) (eo _ x0 y0 x1 y1 f c) ?_
 refine bi ?_
 exact hQ _ _ (ai (.inl rfl) hbel (x := .bool (!(bxB x0 y0 x1 y1 f c))) (av Tryz.results72) rfl ⟨by first | rfl | (simp [bG, true_and]; done), rfl⟩)
theorem lY (H : ac) (s : AV) (l : List T6) (hs : Sl H 6 s l.length (r6 l)) (hl : l.length ≤ 1000000000) : ACalls Tryz.prog 41 [s] H (fun v H' => v = .bool (lsB l) ∧ H' = H) := by
 obtain ⟨bs, os, cs, rfl, hbs⟩ := hs
 have hbls := getElem?_lt hbs
 have hb0s := fun l => aD (l := l) hbs
 refine AcT true Tryz.func41 ?_; intro hbel Q hQ
 have g'1 := (jn @hbs @hb0s)
 refine aa g'1 ?_
 refine az (fun h1 => ?_) (fun h1 => ?_)
 ·have h1d := bsT h1
  have g'2 := (jn @h1 (jn @h1d g'1))
  refine aa g'2 ?_
  refine az (fun h2 => ?_) (fun h2 => ?_)
  ·have h2d := bsT h2
   have g'3 := (jn @h2 (jn @h2d g'2))
   refine aa g'3 ?_
   refine aj (by kernel_rfl) (ju _ _ l ⟨_, _, _, rfl, by first | exact hb0s _ | exact hbs⟩ (by omega) _ [] (by kernel_rfl) rfl (fun b => !bG b) (fun j hj => lvs1_c _ _ _ _ _ _ _)) ?_
   refine aa g'3 ?_
   exact hQ _ _ (aE (.inl rfl) hbel (x := .bool (!(l.any (fun b => !bG b)))) (av Tryz.results41) rfl ⟨by first | (simp [lsB, h1d, h2d]; done) | (unfold lsB; simp only [h1, h2]; rfl), rfl⟩)
  ·have h2d := bsT h2
   have g'4 := (jn @h2 (jn @h2d g'2))
   refine aa g'4 ?_
   exact hQ _ _ (aE (.inl rfl) hbel (x := .bool false) (av Tryz.results41) rfl ⟨by first | (simp [lsB, h1d, h2d]; done) | (unfold lsB; simp only [h1, h2]; rfl), rfl⟩)
 ·have h1d := bsT h1
  have g'5 := (jn @h1 (jn @h1d g'1))
  refine aa g'5 ?_
  exact hQ _ _ (aE (.inl rfl) hbel (x := .bool false) (av Tryz.results41) rfl ⟨by first | (simp [lsB, h1d]; done) | (unfold lsB; simp only [h1]; rfl), rfl⟩)
theorem lvc1_c (H : ac) (m : Int) (r : Int) : ACalls Tryz.prog 85 [.agg [.int .i64 m, .int .i64 r]] H (fun v H' => v = .bool (!(eH (m, r))) ∧ H' = H) := by
 refine AcT true Tryz.func85 ?_; intro hbel Q hQ
 refine bi ?_
 refine az (fun h1 => ?_) (fun h1 => ?_)
 ·have h1d := bsT h1
  have g'6 := (jn @h1 @h1d)
  refine aa g'6 ?_
  refine az (fun h2 => ?_) (fun h2 => ?_)
  ·have h2d := bsT h2
   have g'7 := (jn @h2 (jn @h2d g'6))
   refine aa g'7 ?_
   refine az (fun h3 => ?_) (fun h3 => ?_)
   ·have h3d := bsT h3
    have g'8 := (jn @h3 (jn @h3d g'7))
    refine aa g'8 ?_
    exact hQ _ _ (ai (.inl rfl) hbel (x := .bool (decide (1024 < r))) (av Tryz.results85) rfl ⟨by first | (simp [eH, dy, btw, h1d, h2d, h3d]; done) | (by_cases hq : 1024 < r <;> simp [eH, dy, btw, hq] <;> omega), rfl⟩)
   ·have h3d := bsT h3
    have g'9 := (jn @h3 (jn @h3d g'7))
    refine aa g'9 ?_
    exact hQ _ _ (ai (.inl rfl) hbel (x := .bool true) (av Tryz.results85) rfl ⟨by first | (simp [eH, dy, btw, h1d, h2d, h3d]; done) | (by_cases hq : 1024 < r <;> simp [eH, dy, btw, hq] <;> omega), rfl⟩)
  ·have h2d := bsT h2
   have g'10 := (jn @h2 (jn @h2d g'6))
   refine aa g'10 ?_
   exact hQ _ _ (ai (.inl rfl) hbel (x := .bool true) (av Tryz.results85) rfl ⟨by first | (simp [eH, dy, btw, h1d, h2d]; done) | (by_cases hq : 1024 < r <;> simp [eH, dy, btw, hq] <;> omega), rfl⟩)
 ·have h1d := bsT h1
  have g'11 := (jn @h1 @h1d)
  refine aa g'11 ?_
  exact hQ _ _ (ai (.inl rfl) hbel (x := .bool true) (av Tryz.results85) rfl ⟨by first | (simp [eH, dy, btw, h1d]; done) | (by_cases hq : 1024 < r <;> simp [eH, dy, btw, hq] <;> omega), rfl⟩)
theorem gB (H : ac) (q : AV) (sc : List (Int × Int)) (hq : Sl H 2 q sc.length (prs sc)) (hl : sc.length ≤ 1000000000) : ACalls Tryz.prog 53 [q] H (fun v H' => v = .bool (cd sc) ∧ H' = H) := by
 obtain ⟨bq, oq, cq, rfl, hbq⟩ := hq
 have hblq := getElem?_lt hbq
 have hb0q := fun l => aD (l := l) hbq
 refine AcT true Tryz.func53 ?_; intro hbel Q hQ
 have g'12 := (jn @hbq @hb0q)
 refine aa g'12 ?_
 refine az (fun h1 => ?_) (fun h1 => ?_)
 ·have h1d := bsT h1
  have g'13 := (jn @h1 (jn @h1d g'12))
  refine aa g'13 ?_
  refine aj (by kernel_rfl) (has_m _ _ sc ⟨_, _, _, rfl, by first | exact hb0q _ | exact hbq⟩ (by omega) _ [] (by kernel_rfl) rfl (fun e => !eH e) (fun j hj => lvc1_c _ _ _)) ?_
  refine aa g'13 ?_
  exact hQ _ _ (aE (.inl rfl) hbel (x := .bool (!(sc.any (fun e => !eH e)))) (av Tryz.results53) rfl ⟨by first | (simp [cd, h1d]; done) | (unfold cd; simp only [h1]; rfl), rfl⟩)
 ·have h1d := bsT h1
  have g'14 := (jn @h1 (jn @h1d g'12))
  refine aa g'14 ?_
  exact hQ _ _ (aE (.inl rfl) hbel (x := .bool false) (av Tryz.results53) rfl ⟨by first | (simp [cd, h1d]; done) | (unfold cd; simp only [h1]; rfl), rfl⟩)
theorem lcop_c (H : ac) (W : Int) (Hh : Int) (pp : AV) (xs : List Int) (hpp : Sl H 1 pp xs.length (ints .u8 xs)) (hx6 : xs.length ≤ 1000000) (hx0 : 0 < xs.length) : ACalls Tryz.prog 43 [.agg [.int .i64 W, .int .i64 Hh, pp]] H (fun v H' => v = .agg [.int .i64 W, .int .i64 Hh, .sl (some (H.length, 0)) xs.length none] ∧ H' = H ++ [.cells true 1 (ints .u8 xs)]) := by
 obtain ⟨bpp, opp, cpp, rfl, hbpp⟩ := hpp
 have hblpp := getElem?_lt hbpp
 have hb0pp := fun l => aD (l := l) hbpp
 refine AcT false Tryz.func43 ?_; intro hbel Q hQ
 have g'15 := (jn @hbpp @hb0pp)
 refine aa g'15 ?_
 refine bL (by kernel_rfl) (by simp) (kw _ _ xs ⟨_, _, _, rfl, by first | exact hb0pp _ | exact hbpp⟩ hx6 hx0) ?_
 refine aa g'15 ?_
 refine hQ _ _ (br (.inl rfl) hbel (x1 := .agg [.int .i64 W, .int .i64 Hh, .sl (some (H.length + 2, 0)) xs.length none]) (l2 := [.cells true 1 (ints .u8 xs)]) (.agg [.int .i64 W, .int .i64 Hh, .sl (some (H.length, 0)) xs.length none]) (av Tryz.results43) [] rfl [2] (by decide) ⟨rfl, rfl⟩ ?_)
 exact bj
open Go.RowKit
theorem volI_bd (b : T6) : 0 ≤ dt b ∧ dt b ≤ 1125906929254400 := by
 unfold dt
 split
 ·rename_i h
  have hb := bY.1 h
  have ha := bS.1 hb.2.2
  have m1 := bR (a := b.2.2.1 - b.1 + 1) (b := b.2.2.2.1 - b.2.1 + 1) (A := 2097153) (B := 2097153) (by omega) (by omega)
  have p1 : 0 ≤ (b.2.2.1 - b.1 + 1) * (b.2.2.2.1 - b.2.1 + 1) := Int.mul_nonneg (by omega) (by omega)
  have m2 := bR (a := (b.2.2.1 - b.1 + 1) * (b.2.2.2.1 - b.2.1 + 1)) (b := b.2.2.2.2.2) (A := 4398050705409) (B := 256) (by omega) (by omega)
  have p2 : 0 ≤ (b.2.2.1 - b.1 + 1) * (b.2.2.2.1 - b.2.1 + 1) * b.2.2.2.2.2 := Int.mul_nonneg p1 (by omega)
  omega
 ·omega
def volS (l : List T6) : Nat → Int
 | 0 => 0
 | n + 1 => volS l n + dt (g6 l n)
theorem volS_bd (l : List T6) : ∀ n : Nat, 0 ≤ volS l n ∧ volS l n ≤ 1125906929254400 * (n : Int)
 | 0 => by simp [volS]
 | n + 1 => by
  have := volS_bd l n
  have e := volI_bd (g6 l n)
  simp only [volS]
  omega
theorem gl (H : ac) (W : Int) (Hh : Int) (pp : AV) (xs : List Int) (s : AV) (l : List T6) (tu : Int) (le : Int) (sl : Int) (ra : Int) (lost : Bool) (bz : Nat) (hpp : Sl H 1 pp xs.length (ints .u8 xs)) (hs : Sl H 6 s l.length (r6 l)) (hz : ∃ o, H[bz]? = some (.cells o 0 [.int .i64 W, .int .i64 Hh, pp, s, .int .i64 tu, .int .i64 le, .int .i64 sl, .int .i64 ra, .bool lost])) : ACalls Tryz.prog 19 [.ptr (some (bz, 0))] H (fun v H' => v = .bool lost ∧ H' = H) := by
 obtain ⟨bpp, opp, cpp, rfl, hbpp⟩ := hpp
 have hblpp := getElem?_lt hbpp
 have hb0pp := fun l => aD (l := l) hbpp
 obtain ⟨bs, os, cs, rfl, hbs⟩ := hs
 have hbls := getElem?_lt hbs
 have hb0s := fun l => aD (l := l) hbs
 obtain ⟨oz, hbz⟩ := hz
 have hblz := getElem?_lt hbz
 have hb0z := fun l => aD (l := l) hbz
 refine AcT true Tryz.func19 ?_; intro hbel Q hQ
 simp -implicitDefEqProofs (disch := omega) only [hbpp, hb0pp, hbs, hb0s, hbz, hb0z, Option.isNone_some.{0}, ar, ak, al, au, simprocAttr, ax, ay, Function.comp_apply, one1, lenV, af, am, ap, aop, AV.ofValue, AV.ofCell, AV.cells, AV.flat, AV.one, arep, aB, aw]
 repeat refine And.intro (by omega) ?_
 exact hQ _ _ (aE (.inl rfl) hbel (x := .bool lost) (av Tryz.results19) rfl ⟨rfl, rfl⟩)
theorem i7 (H : ac) (W : Int) (Hh : Int) (pp : AV) (xs : List Int) (s : AV) (l : List T6) (tu : Int) (le : Int) (sl : Int) (ra : Int) (lost : Bool) (bz : Nat) (hpp : Sl H 1 pp xs.length (ints .u8 xs)) (hs : Sl H 6 s l.length (r6 l)) (hz : ∃ o, H[bz]? = some (.cells o 0 [.int .i64 W, .int .i64 Hh, pp, s, .int .i64 tu, .int .i64 le, .int .i64 sl, .int .i64 ra, .bool lost])) (hl16 : l.length ≤ 16) (hl0 : 0 < l.length) : ACalls Tryz.prog 20 [.ptr (some (bz, 0))] H (fun v H' => v = .sl (some (H.length, 0)) l.length none ∧ H' = H ++ [.cells true 6 (r6 l)]) := by
 obtain ⟨bpp, opp, cpp, rfl, hbpp⟩ := hpp
 have hblpp := getElem?_lt hbpp
 have hb0pp := fun l => aD (l := l) hbpp
 obtain ⟨bs, os, cs, rfl, hbs⟩ := hs
 have hbls := getElem?_lt hbs
 have hb0s := fun l => aD (l := l) hbs
 obtain ⟨oz, hbz⟩ := hz
 have hblz := getElem?_lt hbz
 have hb0z := fun l => aD (l := l) hbz
 refine AcT true Tryz.func20 ?_; intro hbel Q hQ
 simp -implicitDefEqProofs (disch := omega) only [hbpp, hb0pp, hbs, hb0s, hbz, hb0z, Option.isNone_some.{0}, ar, ak, al, au, simprocAttr, ax, ay, Function.comp_apply, one1, lenV, af, am, ap, aop, AV.ofValue, AV.ofCell, AV.cells, AV.flat, AV.one, arep, aB, aw]
 repeat refine And.intro (by omega) ?_
 refine aj (by kernel_rfl) (ir _ _ l ⟨_, _, _, rfl, by first | exact hb0s _ | exact hbs⟩ (by first | omega | (simp only [List.length_cons, List.length_nil]; omega)) (by first | omega | simp)) ?_
 simp -implicitDefEqProofs (disch := omega) only [hbpp, hb0pp, hbs, hb0s, hbz, hb0z, Option.isNone_some.{0}, ar, ak, al, au, simprocAttr, ax, ay, Function.comp_apply, one1, lenV, af, am, ap, aop, AV.ofValue, AV.ofCell, AV.cells, AV.flat, AV.one, arep, aB, aw]
 repeat refine And.intro (by omega) ?_
 refine hQ _ _ (br (.inl rfl) hbel (x1 := .sl (some (H.length, 0)) l.length none) (l2 := [.cells true 6 (r6 l)]) (.sl (some (H.length, 0)) l.length none) (av Tryz.results20) [] rfl [0] (by decide) ⟨rfl, rfl⟩ ?_)
 exact bl @bo
theorem gm (H : ac) (W : Int) (Hh : Int) (pp : AV) (xs : List Int) (s : AV) (l : List T6) (tu : Int) (le : Int) (sl : Int) (ra : Int) (lost : Bool) (bz : Nat) (hpp : Sl H 1 pp xs.length (ints .u8 xs)) (hs : Sl H 6 s l.length (r6 l)) (hz : ∃ o, H[bz]? = some (.cells o 0 [.int .i64 W, .int .i64 Hh, pp, s, .int .i64 tu, .int .i64 le, .int .i64 sl, .int .i64 ra, .bool lost])) (hx6 : xs.length ≤ 1000000) (hx0 : 0 < xs.length) : ACalls Tryz.prog 22 [.ptr (some (bz, 0))] H (fun v H' => v = .agg [.int .i64 W, .int .i64 Hh, .sl (some (H.length, 0)) xs.length none] ∧ H' = H ++ [.cells true 1 (ints .u8 xs)]) := by
 obtain ⟨bpp, opp, cpp, rfl, hbpp⟩ := hpp
 have hblpp := getElem?_lt hbpp
 have hb0pp := fun l => aD (l := l) hbpp
 obtain ⟨bs, os, cs, rfl, hbs⟩ := hs
 have hbls := getElem?_lt hbs
 have hb0s := fun l => aD (l := l) hbs
 obtain ⟨oz, hbz⟩ := hz
 have hblz := getElem?_lt hbz
 have hb0z := fun l => aD (l := l) hbz
 refine AcT true Tryz.func22 ?_; intro hbel Q hQ
 simp -implicitDefEqProofs (disch := omega) only [hbpp, hb0pp, hbs, hb0s, hbz, hb0z, Option.isNone_some.{0}, ar, ak, al, au, simprocAttr, ax, ay, Function.comp_apply, one1, lenV, af, am, ap, aop, AV.ofValue, AV.ofCell, AV.cells, AV.flat, AV.one, arep, aB, aw]
 repeat refine And.intro (by omega) ?_
 refine aj (by kernel_rfl) (lcop_c _ W Hh _ xs ⟨_, _, _, rfl, by first | exact hb0pp _ | exact hbpp⟩ hx6 hx0) ?_
 simp -implicitDefEqProofs (disch := omega) only [hbpp, hb0pp, hbs, hb0s, hbz, hb0z, Option.isNone_some.{0}, ar, ak, al, au, simprocAttr, ax, ay, Function.comp_apply, one1, lenV, af, am, ap, aop, AV.ofValue, AV.ofCell, AV.cells, AV.flat, AV.one, arep, aB, aw]
 repeat refine And.intro (by omega) ?_
 refine hQ _ _ (br (.inl rfl) hbel (x1 := .agg [.int .i64 W, .int .i64 Hh, .sl (some (H.length + 1, 0)) xs.length none]) (l2 := [.cells true 1 (ints .u8 xs)]) (.agg [.int .i64 W, .int .i64 Hh, .sl (some (H.length, 0)) xs.length none]) (av Tryz.results22) [] rfl [1] (by decide) ⟨rfl, rfl⟩ ?_)
 exact bj
theorem lvol_c (H : ac) (W : Int) (Hh : Int) (pp : AV) (xs : List Int) (s : AV) (l : List T6) (tu : Int) (le : Int) (sl : Int) (ra : Int) (lost : Bool) (bz : Nat) (hpp : Sl H 1 pp xs.length (ints .u8 xs)) (hs : Sl H 6 s l.length (r6 l)) (hz : ∃ o, H[bz]? = some (.cells o 0 [.int .i64 W, .int .i64 Hh, pp, s, .int .i64 tu, .int .i64 le, .int .i64 sl, .int .i64 ra, .bool lost])) (hl16 : l.length ≤ 16) (hl0 : 0 < l.length) : ACalls Tryz.prog 32 [.ptr (some (bz, 0))] H (fun v H' => v = .int .i64 (volS l l.length) ∧ H' = H) := by
 obtain ⟨bpp, opp, cpp, rfl, hbpp⟩ := hpp
 have hblpp := getElem?_lt hbpp
 have hb0pp := fun l => aD (l := l) hbpp
 obtain ⟨bs, os, cs, rfl, hbs⟩ := hs
 have hbls := getElem?_lt hbs
 have hb0s := fun l => aD (l := l) hbs
 obtain ⟨oz, hbz⟩ := hz
 have hblz := getElem?_lt hbz
 have hb0z := fun l => aD (l := l) hbz
 refine AcT true Tryz.func32 ?_; intro hbel Q hQ
 simp -implicitDefEqProofs (disch := omega) only [hbpp, hb0pp, hbs, hb0s, hbz, hb0z, Option.isNone_some.{0}, ar, ak, al, au, simprocAttr, ax, ay, Function.comp_apply, one1, lenV, af, am, ap, aop, AV.ofValue, AV.ofCell, AV.cells, AV.flat, AV.one, arep, aB, aw]
 repeat refine And.intro (by omega) ?_
 refine aj (by kernel_rfl) (i7 _ W Hh _ xs _ l tu le sl ra lost _ ⟨_, _, _, rfl, by first | exact hb0pp _ | exact hbpp⟩ ⟨_, _, _, rfl, by first | exact hb0s _ | exact hbs⟩ ⟨_, by first | exact hb0z _ | exact hbz⟩ hl16 hl0) ?_
 simp -implicitDefEqProofs (disch := omega) only [hbpp, hb0pp, hbs, hb0s, hbz, hb0z, Option.isNone_some.{0}, ar, ak, al, au, simprocAttr, ax, ay, Function.comp_apply, one1, lenV, af, am, ap, aop, AV.ofValue, AV.ofCell, AV.cells, AV.flat, AV.one, arep, aB, aw]
 repeat refine And.intro (by omega) ?_
 refine go_loop try_mixed (by kernel_rfl) (fun k F Hx => ∃ i : Nat, i + k = l.length ∧ F = [(3, .int .i64 (volS l i)), (7, .sl (some (H.length, 0)) l.length none), (8, .int .i64 ((l.length : Nat) : Int)), (9, .int .i64 ((i : Nat) : Int))] ∧ Hx = H ++ [.cells true 6 (r6 l)]) (l.length) ?_ ?_
 ·refine ⟨_, _, _, ⟨0, by omega, rfl, rfl⟩, Abs.byG hbel [] rfl [0] (by decide) ?_⟩
  exact aN (jn @volS.eq_1 (jn @bg (jn @be (jn @bt @bo))))
 ·rintro k0 F Hx ⟨i, hm0, rfl, rfl⟩ J0 hJ0
  simp -implicitDefEqProofs (disch := omega) only [hbpp, hb0pp, hbs, hb0s, hbz, hb0z, aL, aY, Option.isNone_some.{0}, ar, ak, al, au, simprocAttr, ax, ay, Function.comp_apply, one1, lenV, af, am, ap, aop, AV.ofValue, AV.ofCell, AV.cells, AV.flat, AV.one, arep, aB, aw]
  repeat refine And.intro (by omega) ?_
  refine aq (fun h1 => ?_) (fun h1 => ?_)
  ·have h1d := bsT h1
   have hlt : i < l.length := by omega
   have hvb := volI_bd (g61 l i, g62 l i, g63 l i, g64 l i, g65 l i, g66 l i)
   have hvs := volS_bd l i
   have hve : dt (g61 l i, g62 l i, g63 l i, g64 l i, g65 l i, g66 l i) = dt (g6 l i) := rfl
   have q2 := cE (l := l) (j := i) (by omega)
   simp -implicitDefEqProofs (disch := omega) only [hbpp, hb0pp, hbs, hb0s, hbz, hb0z, aL, aY, h1, h1d, q2, Option.isNone_some.{0}, ar, ak, al, au, simprocAttr, ax, ay, Function.comp_apply, one1, lenV, af, am, ap, aop, AV.ofValue, AV.ofCell, AV.cells, AV.flat, AV.one, arep, aB, aw]
   repeat refine And.intro (by omega) ?_
   refine aj (by kernel_rfl) (vol_c _ (g61 l i) (g62 l i) (g63 l i) (g64 l i) (g65 l i) (g66 l i)) ?_
   simp -implicitDefEqProofs (disch := omega) only [hbpp, hb0pp, hbs, hb0s, hbz, hb0z, aL, aY, h1, h1d, q2, Option.isNone_some.{0}, ar, ak, al, au, simprocAttr, ax, ay, Function.comp_apply, one1, lenV, af, am, ap, aop, AV.ofValue, AV.ofCell, AV.cells, AV.flat, AV.one, arep, aB, aw]
   repeat refine And.intro (by omega) ?_
   refine hJ0 _ _ ⟨k0 - 1, by omega, _, _, _, ⟨i + 1, by omega, rfl, rfl⟩, Abs.byG hbel [] rfl [0] (by decide) ?_⟩
   exact aN (jn @volS.eq_2 (jn @hve (jn @bg (jn @be (jn @bt @bo)))))
  ·have h1d := bsT h1
   obtain rfl : i = l.length := by omega
   simp -implicitDefEqProofs (disch := omega) only [hbpp, hb0pp, hbs, hb0s, hbz, hb0z, aL, aY, h1, h1d, Option.isNone_some.{0}, ar, ak, al, au, simprocAttr, ax, ay, Function.comp_apply, one1, lenV, af, am, ap, aop, AV.ofValue, AV.ofCell, AV.cells, AV.flat, AV.one, arep, aB, aw]
   repeat refine And.intro (by omega) ?_
   exact hQ _ _ (ai (.inl rfl) hbel (x := .int .i64 (volS l l.length)) (av Tryz.results32) rfl ⟨rfl, rfl⟩)
open Go.RowKit
theorem eQ {α : Type} {H l : List α} {x : α} {b : Nat} (h : b < H.length) : (H ++ l).set b x = H.set b x ++ l := List.set_append_left _ _ h
theorem fv {α : Type} {H l : List α} {x : α} {b : Nat} (h : b < H.length) : (H.set b x ++ l)[b]? = some x := by
 rw [List.getElem?_append_left (by rw [List.length_set]; exact h), List.getElem?_set_self h]
theorem eM {α : Type} {H : List α} {x : α} {b : Nat} (h : b < H.length) : (H.set b x)[b]? = some x := List.getElem?_set_self h
theorem ep {α : Type} {H l : List α} {x y : α} {b : Nat} (h : b < H.length) : (H.set b x ++ l).set b y = H.set b y ++ l := by
 rw [eQ (by rw [List.length_set]; exact h), List.set_set]
theorem fJ {α : Type} {H l : List α} {x : α} {b k : Nat} : (H.set b x ++ l)[H.length + k]? = l[k]? := by
 rw [List.getElem?_append_right (by rw [List.length_set]; omega), List.length_set]; congr 1; omega
theorem gC {α : Type} {H l : List α} {x : α} {b : Nat} : (H.set b x ++ l)[H.length]? = l[0]? := fJ (k := 0)
theorem fK {α : Type} {H l : List α} {x y : α} {b k : Nat} : (H.set b x ++ l).set (H.length + k) y = H.set b x ++ l.set k y := by
 rw [List.set_append_right _ _ (by rw [List.length_set]; omega), List.length_set]; congr 2; omega
theorem gD {α : Type} {H l : List α} {x y : α} {b : Nat} : (H.set b x ++ l).set H.length y = H.set b x ++ l.set 0 y := fK (k := 0)
theorem Abs0.put {n : Nat} {σ : Nat → Nat} {F1 F2 : Fr} {H1 H2 : ac} (h : Abs0 n σ F1 H1 F2 H2) (hs : ∀ c, n ≤ c → n ≤ σ c) (hi : ∀ b, σ b < H1.length → b < H2.length) (ho : ∀ (b : Nat) (x : ABlk), H2[b]? = some x → x.owned = true → ∃ x', H1[σ b]? = some x' ∧ x'.owned = true) {bf : Nat} (hb : bf < n) (hd : H1[bf]? = some .dead) (y : ABlk) : Abs0 n σ F1 (H1.set bf (y.mv σ)) F2 (H2.set bf y) := by
 have lt1 : bf < H1.length := getElem?_lt hd
 have lt2 : bf < H2.length := Nat.lt_of_lt_of_le hb h.len
 have hsb : ∀ c, c ≠ bf → σ c ≠ bf := fun c hc => by
  by_cases hcn : c < n
  ·rw [h.small c hcn]; exact hc
  ·have := hs c (by omega); omega
 have own : ∀ (b : Nat) (x : ABlk), (H2.set bf y)[b]? = some x → x.owned = true → ∃ x', (H1.set bf (y.mv σ))[σ b]? = some x' ∧ x'.owned = true := fun b x hx ox => by
  by_cases e : bf = b
  ·subst e
   rw [List.getElem?_set_self lt2] at hx; injection hx with hx; subst hx
   rw [h.small _ hb, List.getElem?_set_self lt1]
   exact ⟨_, rfl, by cases y <;> exact ox⟩
  ·rw [List.getElem?_set_ne e] at hx
   rw [List.getElem?_set_ne (hsb b (fun k => e k.symm)).symm]
   exact ho b x hx ox
 refine ⟨h.small, by rw [List.length_set]; exact h.len, fun E E' e1 e2 e3 t v hv => h.frame E E' (by rw [e1, List.length_set]) (by rw [e2, List.length_set]) e3 t v hv, fun E E' e1 e2 eB e3 w hw b x hx => ?_, fun b c x z hx hz ox oz hbc => ⟨?_, own b x hx ox, own c z hz oz⟩⟩
 ·rw [List.length_set] at e1 e2
  by_cases e : bf = b
  ·subst e
   rw [List.getElem?_set_self lt2] at hx; injection hx with hx; subst hx
   have k := hw bf _ (List.getElem?_set_self lt1)
   rw [e3, h.small _ hb]
   exact kH eB e3 (fun b hb => by rw [e2]; exact hi b (by rw [← e1]; exact hb)) k
  ·rw [List.getElem?_set_ne e] at hx
   refine h.heap E E' e1 e2 eB e3 w (fun c z hz => ?_) b x hx
   by_cases e' : bf = c
   ·subst e'; rw [hd] at hz; injection hz with hz; subst hz; trivial
   ·exact hw c z (by rw [List.getElem?_set_ne e']; exact hz)
 ·by_cases e : bf = b
  ·subst e; rw [h.small _ hb]; exact (hsb c (fun k => hbc k.symm)).symm
  ·by_cases e' : bf = c
   ·subst e'; rw [h.small _ hb]; exact hsb b (fun k => e k.symm)
   ·rw [List.getElem?_set_ne e] at hx
    rw [List.getElem?_set_ne e'] at hz
    exact (h.inj b c x z hx hz ox oz hbc).1
theorem Abs.byP {H M l1 l2 : ac} {F1 F2 : Fr} {bf : Nat} {b1 : ABlk} (b2 : ABlk) (hbel : HBel H.length H) (hbf : bf < H.length) (hM : M = H.set bf b1 ++ l1) (G : ac) (hG : G.all fw = true) (sel : List Nat) (hnd : sel.Nodup)
  (h : er (H.length + (l1 ++ G).length) (sig H.length (l1 ++ G).length sel) F1 F2 ∧ b1 = b2.mv (sig H.length (l1 ++ G).length sel) ∧ eD (H.length + (l1 ++ G).length) (sig H.length (l1 ++ G).length sel) (l1 ++ G) sel l2) : Abs H.length (sig H.length (l1 ++ G).length sel) F1 M F2 (H.set bf b2 ++ l2) := by
 subst hM
 obtain ⟨hF, hb, ha⟩ := h
 have hl := (eE ha).1
 have hH := (eE ha).2
 have hn : (H.set bf .dead).length = H.length := List.length_set
 have hbel2 : HBel H.length (H.set bf .dead) := fun b x hx => by
  by_cases e : bf = b
  ·subst e; rw [List.getElem?_set_self hbf] at hx; injection hx with hx; subst hx; rfl
  ·rw [List.getElem?_set_ne e] at hx; exact hbel b x hx
 have k := Abs0.of (n := H.length) (H0 := H.set bf .dead) (l1 := l1 ++ G) (l2 := l2) (F1 := F1) (F2 := F2) hn hbel2 sel hnd (j6 hF) hl hH
 have small : ∀ b, b < H.length → sig H.length (l1 ++ G).length sel b = b := fun b hb => by simp [sig, hb]
 have k2 := k.put (bf := bf) (fun c hc => by
   unfold sig
   rw [if_neg (by omega)]
   split <;> omega) (fun b hb => by
   simp only [List.length_append, List.length_set] at hb ⊢
   unfold sig at hb
   split at hb
   ·omega
   ·split at hb
    ·rename_i q; have := getElem?_lt q; omega
    ·omega) (fun b x hx ho => by
   by_cases hbn : b < H.length
   ·rw [small b hbn, List.getElem?_append_left (by rw [hn]; exact hbn)]
    rw [List.getElem?_append_left (by rw [hn]; exact hbn)] at hx
    exact ⟨x, hx, ho⟩
   ·rw [List.getElem?_append_right (by rw [hn]; omega), hn] at hx
    have hlt := getElem?_lt hx
    have h1 : sel[b - H.length]? = some (sel[b - H.length]'(by omega)) := List.getElem?_eq_getElem _
    have h2 : sig H.length (l1 ++ G).length sel b = H.length + sel[b - H.length]'(by omega) := by unfold sig; rw [if_neg hbn, h1]
    rw [h2, List.getElem?_append_right (by rw [hn]; omega), hn, show ∀ i : Nat, H.length + i - H.length = i from fun i => by omega]
    rcases hH _ _ x h1 hx with rfl | h4 | h4
    ·cases ho
    ·exact ⟨_, h4, by cases x <;> exact ho⟩
    ·exact h4.own (by cases x <;> exact ho)) hbf (by rw [List.getElem?_append_left (by rw [hn]; exact hbf)]; exact List.getElem?_set_self hbf) b2
 rw [ep hbf, ep hbf, ← hb, ← List.append_assoc] at k2
 exact ⟨G, hG, k2⟩
theorem hI {P : Program} {fn : Func} {H M l1 l2 : ac} {bf : Nat} {b1 : ABlk} (b2 : ABlk) {R : AV → ac → Prop} {F : Fr} {e : Exit} (he : e = .ret ∨ e = .normal) (hbel : HBel H.length H) (hbf : bf < H.length) (hM : M = H.set bf b1 ++ l1) {x1 : AV} (x2 : AV) (hx : cN P fn F M = some x1) (G : ac) (hG : G.all fw = true) (sel : List Nat) (hnd : sel.Nodup) (hR : R x2 (H.set bf b2 ++ l2))
  (h : W (H.length + (l1 ++ G).length) x1 (x2.mv (sig H.length (l1 ++ G).length sel)) ∧ b1 = b2.mv (sig H.length (l1 ++ G).length sel) ∧ eD (H.length + (l1 ++ G).length) (sig H.length (l1 ++ G).length sel) (l1 ++ G) sel l2) : dp P fn H.length R e F M := by
 have kk := Abs.byP (F1 := [(0, x1)]) (F2 := [(0, x2)]) b2 hbel hbf hM G hG sel hnd ⟨⟨h.1, trivial⟩, h.2⟩
 rcases he with rfl | rfl
 ·exact ⟨x1, hx, _, x2, _, hR, kk⟩
 ·exact ⟨x1, hx, _, x2, _, hR, kk⟩
open Go.RowKit
theorem boxes_p (H : ac) (s : AV) (l : List T6) (t : Int) (g : Int) (tu : Int) (le : Int) (sl : Int) (ra : Int) (still : Bool) (hs : Sl H 6 s l.length (r6 l)) (hS : bU l = true) (hl0 : 0 < l.length) (hC : cJ t g = true) (hB : cK tu le sl ra = true) (hA : imA l t (stF still g) tu le sl = true) : ACalls Tryz.prog 52 [s, .agg [.int .i64 t, .int .i64 g], .agg [.int .i64 tu, .int .i64 le, .int .i64 sl, .int .i64 ra], .bool still] H (fun v H' => v = .tup [.sl (some (H.length, 0)) ((imS l t (stF still g) tu le sl l.length).length) none, .int .i64 0] ∧ H' = H ++ [.cells true 6 (r6 (imS l t (stF still g) tu le sl l.length))]) := by
 have k := boxes_y H s l t g tu le sl ra still hs hS hC hB hA
 rw [iQ (by rw [dk]; exact hl0), dJ (by rw [dk]; exact hl0)] at k
 exact k
theorem lmv_y (H : ac) (W : Int) (Hh : Int) (pp : AV) (xs : List Int) (s : AV) (l : List T6) (tu : Int) (le : Int) (sl : Int) (ra : Int)  (bz : Nat) (t : Int) (g : Int) (still : Bool) (hpp : Sl H 1 pp xs.length (ints .u8 xs)) (hs : Sl H 6 s l.length (r6 l)) (hz : H[bz]? = some (.cells true 0 [.int .i64 W, .int .i64 Hh, pp, s, .int .i64 tu, .int .i64 le, .int .i64 sl, .int .i64 ra, .bool false])) (hS : bU l = true) (hl0 : 0 < l.length) (hC : cJ t g = true) (hB : cK tu le sl ra = true) (hA : imA l t (stF still g) tu le sl = true) : ACalls Tryz.prog 17 [.ptr (some (bz, 0)), .agg [.int .i64 t, .int .i64 g], .bool still] H (fun v H' => v = .int .i64 0 ∧ H' = H.set bz (.cells true 0 [.int .i64 W, .int .i64 Hh, pp, .sl (some (H.length, 0)) ((imS l t (stF still g) tu le sl l.length).length) none, .int .i64 tu, .int .i64 le, .int .i64 sl, .int .i64 ra, .bool false]) ++ [.cells true 6 (r6 (imS l t (stF still g) tu le sl l.length))]) := by
 obtain ⟨bpp, opp, cpp, rfl, hbpp⟩ := hpp
 have hblpp := getElem?_lt hbpp
 have hb0pp := fun l => aD (l := l) hbpp
 obtain ⟨bs, os, cs, rfl, hbs⟩ := hs
 have hbls := getElem?_lt hbs
 have hb0s := fun l => aD (l := l) hbs
 have hbz := hz
 have hblz := getElem?_lt hbz
 have hb0z := fun l => aD (l := l) hbz
 refine AcT false Tryz.func17 ?_; intro hbel Q hQ
 simp -implicitDefEqProofs (disch := omega) only [hbpp, hb0pp, hbs, hb0s, hbz, hb0z, hC, hB, hA, Option.isNone_some.{0}, ar, ak, al, au, simprocAttr, ax, ay, Function.comp_apply, one1, lenV, af, am, ap, aop, AV.ofValue, AV.ofCell, AV.cells, AV.flat, AV.one, arep, aB, aw]
 repeat refine And.intro (by omega) ?_
 refine aj (by kernel_rfl) (fF _ t g) ?_
 simp -implicitDefEqProofs (disch := omega) only [hbpp, hb0pp, hbs, hb0s, hbz, hb0z, hC, hB, hA, Option.isNone_some.{0}, ar, ak, al, au, simprocAttr, ax, ay, Function.comp_apply, one1, lenV, af, am, ap, aop, AV.ofValue, AV.ofCell, AV.cells, AV.flat, AV.one, arep, aB, aw]
 repeat refine And.intro (by omega) ?_
 rcases Bool.eq_false_or_eq_true (imA l t (stF still g) tu le sl) with h1 | h1
 ·have h1d := h1
  refine bL (by kernel_rfl) (by simp) (boxes_p _ _ l t g tu le sl ra still ⟨_, _, _, rfl, by first | exact hb0s _ | exact hbs⟩ (by assumption) hl0 hC hB hA) ?_
  simp -implicitDefEqProofs (disch := omega) only [hbpp, hb0pp, hbs, hb0s, hbz, hb0z, h1, h1d, hblz, ep, eQ, fv, eM, fJ, gC, fK, gD, List.length_set, List.set_set, hC, hB, hA, Option.isNone_some.{0}, ar, ak, al, au, simprocAttr, ax, ay, Function.comp_apply, one1, lenV, af, am, ap, aop, AV.ofValue, AV.ofCell, AV.cells, AV.flat, AV.one, arep, aB, aw]
  repeat refine And.intro (by omega) ?_
  refine hQ _ _ (hI (b1 := .cells true 0 [.int .i64 W, .int .i64 Hh, .sl (some (bpp, 0)) xs.length cpp, .sl (some (H.length + 1, 0)) ((imS l t (stF still g) tu le sl l.length).length) none, .int .i64 tu, .int .i64 le, .int .i64 sl, .int .i64 ra, .bool false]) (.cells true 0 [.int .i64 W, .int .i64 Hh, .sl (some (bpp, 0)) xs.length cpp, .sl (some (H.length, 0)) ((imS l t (stF still g) tu le sl l.length).length) none, .int .i64 tu, .int .i64 le, .int .i64 sl, .int .i64 ra, .bool false]) (l1 := [.cells true 0 [.int .i64 t, .int .i64 g], .cells true 6 (r6 (imS l t (stF still g) tu le sl l.length))]) (l2 := [.cells true 6 (r6 (imS l t (stF still g) tu le sl l.length))]) (.inl rfl) hbel hblz (by first | rfl | simp) (x1 := .int .i64 0) (.int .i64 0) (av Tryz.results17) [] rfl [1] (by decide) ⟨rfl, rfl⟩ ?_)
  exact bl (jn @bo (jn @hblpp (jn @hbls @hblz)))
 ·have h1d := h1
  exact absurd (hA.symm.trans h1d) (by decide)
theorem lmv_n (H : ac) (W : Int) (Hh : Int) (pp : AV) (xs : List Int) (s : AV) (l : List T6) (tu : Int) (le : Int) (sl : Int) (ra : Int)  (bz : Nat) (t : Int) (g : Int) (still : Bool) (hpp : Sl H 1 pp xs.length (ints .u8 xs)) (hs : Sl H 6 s l.length (r6 l)) (hz : ∃ o, H[bz]? = some (.cells o 0 [.int .i64 W, .int .i64 Hh, pp, s, .int .i64 tu, .int .i64 le, .int .i64 sl, .int .i64 ra, .bool false])) (hS : bU l = true) (hl0 : 0 < l.length) (hC : cJ t g = true) (hB : cK tu le sl ra = true) (hA : imA l t (stF still g) tu le sl = false) : ACalls Tryz.prog 17 [.ptr (some (bz, 0)), .agg [.int .i64 t, .int .i64 g], .bool still] H (fun v H' => v = .int .i64 2 ∧ H' = H) := by
 obtain ⟨bpp, opp, cpp, rfl, hbpp⟩ := hpp
 have hblpp := getElem?_lt hbpp
 have hb0pp := fun l => aD (l := l) hbpp
 obtain ⟨bs, os, cs, rfl, hbs⟩ := hs
 have hbls := getElem?_lt hbs
 have hb0s := fun l => aD (l := l) hbs
 obtain ⟨oz, hbz⟩ := hz
 have hblz := getElem?_lt hbz
 have hb0z := fun l => aD (l := l) hbz
 refine AcT true Tryz.func17 ?_; intro hbel Q hQ
 simp -implicitDefEqProofs (disch := omega) only [hbpp, hb0pp, hbs, hb0s, hbz, hb0z, hC, hB, hA, Option.isNone_some.{0}, ar, ak, al, au, simprocAttr, ax, ay, Function.comp_apply, one1, lenV, af, am, ap, aop, AV.ofValue, AV.ofCell, AV.cells, AV.flat, AV.one, arep, aB, aw]
 repeat refine And.intro (by omega) ?_
 refine aj (by kernel_rfl) (fF _ t g) ?_
 simp -implicitDefEqProofs (disch := omega) only [hbpp, hb0pp, hbs, hb0s, hbz, hb0z, hC, hB, hA, Option.isNone_some.{0}, ar, ak, al, au, simprocAttr, ax, ay, Function.comp_apply, one1, lenV, af, am, ap, aop, AV.ofValue, AV.ofCell, AV.cells, AV.flat, AV.one, arep, aB, aw]
 repeat refine And.intro (by omega) ?_
 rcases Bool.eq_false_or_eq_true (imA l t (stF still g) tu le sl) with h1 | h1
 ·have h1d := h1
  exact absurd (hA.symm.trans h1d) (by decide)
 ·have h1d := h1
  refine aP (by kernel_rfl) (boxes_n _ _ l t g tu le sl ra still ⟨_, _, _, rfl, by first | exact hb0s _ | exact hbs⟩ (by assumption) hC hB hA) ?_
  simp -implicitDefEqProofs (disch := omega) only [hbpp, hb0pp, hbs, hb0s, hbz, hb0z, h1, h1d, hC, hB, hA, Option.isNone_some.{0}, ar, ak, al, au, simprocAttr, ax, ay, Function.comp_apply, one1, lenV, af, am, ap, aop, AV.ofValue, AV.ofCell, AV.cells, AV.flat, AV.one, arep, aB, aw]
  repeat refine And.intro (by omega) ?_
  exact hQ _ _ (ai (.inl rfl) hbel (x := .int .i64 2) (av Tryz.results17) rfl ⟨rfl, rfl⟩)
theorem lmv_a (H : ac) (W : Int) (Hh : Int) (pp : AV) (xs : List Int) (s : AV) (l : List T6) (tu : Int) (le : Int) (sl : Int) (ra : Int) (lost : Bool) (bz : Nat) (t : Int) (g : Int) (still : Bool) (hpp : Sl H 1 pp xs.length (ints .u8 xs)) (hs : Sl H 6 s l.length (r6 l)) (hz : ∃ o, H[bz]? = some (.cells o 0 [.int .i64 W, .int .i64 Hh, pp, s, .int .i64 tu, .int .i64 le, .int .i64 sl, .int .i64 ra, .bool lost])) (hC : cJ t g = false) : ACalls Tryz.prog 17 [.ptr (some (bz, 0)), .agg [.int .i64 t, .int .i64 g], .bool still] H (fun v H' => v = .int .i64 1 ∧ H' = H) := by
 obtain ⟨bpp, opp, cpp, rfl, hbpp⟩ := hpp
 have hblpp := getElem?_lt hbpp
 have hb0pp := fun l => aD (l := l) hbpp
 obtain ⟨bs, os, cs, rfl, hbs⟩ := hs
 have hbls := getElem?_lt hbs
 have hb0s := fun l => aD (l := l) hbs
 obtain ⟨oz, hbz⟩ := hz
 have hblz := getElem?_lt hbz
 have hb0z := fun l => aD (l := l) hbz
 refine AcT true Tryz.func17 ?_; intro hbel Q hQ
 simp -implicitDefEqProofs (disch := omega) only [hbpp, hb0pp, hbs, hb0s, hbz, hb0z, hC, Option.isNone_some.{0}, ar, ak, al, au, simprocAttr, ax, ay, Function.comp_apply, one1, lenV, af, am, ap, aop, AV.ofValue, AV.ofCell, AV.cells, AV.flat, AV.one, arep, aB, aw]
 repeat refine And.intro (by omega) ?_
 refine aj (by kernel_rfl) (fF _ t g) ?_
 simp -implicitDefEqProofs (disch := omega) only [hbpp, hb0pp, hbs, hb0s, hbz, hb0z, hC, Option.isNone_some.{0}, ar, ak, al, au, simprocAttr, ax, ay, Function.comp_apply, one1, lenV, af, am, ap, aop, AV.ofValue, AV.ofCell, AV.cells, AV.flat, AV.one, arep, aB, aw]
 repeat refine And.intro (by omega) ?_
 exact hQ _ _ (ai (.inl rfl) hbel (x := .int .i64 1) (av Tryz.results17) rfl ⟨rfl, rfl⟩)
theorem lmv_s (H : ac) (W : Int) (Hh : Int) (pp : AV) (xs : List Int) (s : AV) (l : List T6) (tu : Int) (le : Int) (sl : Int) (ra : Int)  (bz : Nat) (t : Int) (g : Int) (still : Bool) (hpp : Sl H 1 pp xs.length (ints .u8 xs)) (hs : Sl H 6 s l.length (r6 l)) (hz : ∃ o, H[bz]? = some (.cells o 0 [.int .i64 W, .int .i64 Hh, pp, s, .int .i64 tu, .int .i64 le, .int .i64 sl, .int .i64 ra, .bool true])) (hC : cJ t g = true) : ACalls Tryz.prog 17 [.ptr (some (bz, 0)), .agg [.int .i64 t, .int .i64 g], .bool still] H (fun v H' => v = .int .i64 9 ∧ H' = H) := by
 obtain ⟨bpp, opp, cpp, rfl, hbpp⟩ := hpp
 have hblpp := getElem?_lt hbpp
 have hb0pp := fun l => aD (l := l) hbpp
 obtain ⟨bs, os, cs, rfl, hbs⟩ := hs
 have hbls := getElem?_lt hbs
 have hb0s := fun l => aD (l := l) hbs
 obtain ⟨oz, hbz⟩ := hz
 have hblz := getElem?_lt hbz
 have hb0z := fun l => aD (l := l) hbz
 refine AcT true Tryz.func17 ?_; intro hbel Q hQ
 simp -implicitDefEqProofs (disch := omega) only [hbpp, hb0pp, hbs, hb0s, hbz, hb0z, hC, Option.isNone_some.{0}, ar, ak, al, au, simprocAttr, ax, ay, Function.comp_apply, one1, lenV, af, am, ap, aop, AV.ofValue, AV.ofCell, AV.cells, AV.flat, AV.one, arep, aB, aw]
 repeat refine And.intro (by omega) ?_
 refine aj (by kernel_rfl) (fF _ t g) ?_
 simp -implicitDefEqProofs (disch := omega) only [hbpp, hb0pp, hbs, hb0s, hbz, hb0z, hC, Option.isNone_some.{0}, ar, ak, al, au, simprocAttr, ax, ay, Function.comp_apply, one1, lenV, af, am, ap, aop, AV.ofValue, AV.ofCell, AV.cells, AV.flat, AV.one, arep, aB, aw]
 repeat refine And.intro (by omega) ?_
 exact hQ _ _ (ai (.inl rfl) hbel (x := .int .i64 9) (av Tryz.results17) rfl ⟨rfl, rfl⟩)
theorem lrs_y (H : ac) (W : Int) (Hh : Int) (pp : AV) (xs : List Int) (s : AV) (l : List T6) (tu : Int) (le : Int) (sl : Int) (ra : Int) (lost : Bool) (bz : Nat) (q : AV) (m : List T6) (hpp : Sl H 1 pp xs.length (ints .u8 xs)) (hs : Sl H 6 s l.length (r6 l)) (hz : H[bz]? = some (.cells true 0 [.int .i64 W, .int .i64 Hh, pp, s, .int .i64 tu, .int .i64 le, .int .i64 sl, .int .i64 ra, .bool lost])) (hq : Sl H 6 q m.length (r6 m)) (hm : lsB m = true) : ACalls Tryz.prog 31 [.ptr (some (bz, 0)), q] H (fun v H' => v = .int .i64 0 ∧ H' = H.set bz (.cells true 0 [.int .i64 W, .int .i64 Hh, pp, .sl (some (H.length, 0)) m.length none, .int .i64 tu, .int .i64 le, .int .i64 sl, .int .i64 ra, .bool false]) ++ [.cells true 6 (r6 m)]) := by
 obtain ⟨bpp, opp, cpp, rfl, hbpp⟩ := hpp
 have hblpp := getElem?_lt hbpp
 have hb0pp := fun l => aD (l := l) hbpp
 obtain ⟨bs, os, cs, rfl, hbs⟩ := hs
 have hbls := getElem?_lt hbs
 have hb0s := fun l => aD (l := l) hbs
 obtain ⟨bq, oq, cq, rfl, hbq⟩ := hq
 have hblq := getElem?_lt hbq
 have hb0q := fun l => aD (l := l) hbq
 have hbz := hz
 have hblz := getElem?_lt hbz
 have hb0z := fun l => aD (l := l) hbz
 have hmm := jD.1 hm
 have hm16 := (bX.1 hmm.2).1
 have hm0 := hmm.1
 refine AcT false Tryz.func31 ?_; intro hbel Q hQ
 simp -implicitDefEqProofs (disch := omega) only [hbpp, hb0pp, hbs, hb0s, hbq, hb0q, hbz, hb0z, hm, Option.isNone_some.{0}, ar, ak, al, au, simprocAttr, ax, ay, Function.comp_apply, one1, lenV, af, am, ap, aop, AV.ofValue, AV.ofCell, AV.cells, AV.flat, AV.one, arep, aB, aw]
 repeat refine And.intro (by omega) ?_
 refine aj (by kernel_rfl) (lY _ _ m ⟨_, _, _, rfl, by first | exact hb0q _ | exact hbq⟩ (by omega)) ?_
 simp -implicitDefEqProofs (disch := omega) only [hbpp, hb0pp, hbs, hb0s, hbq, hb0q, hbz, hb0z, hm, Option.isNone_some.{0}, ar, ak, al, au, simprocAttr, ax, ay, Function.comp_apply, one1, lenV, af, am, ap, aop, AV.ofValue, AV.ofCell, AV.cells, AV.flat, AV.one, arep, aB, aw]
 repeat refine And.intro (by omega) ?_
 refine aj (by kernel_rfl) (ir _ _ m ⟨_, _, _, rfl, by first | exact hb0q _ | exact hbq⟩ (by first | omega | (simp only [List.length_cons, List.length_nil]; omega)) (by first | omega | simp)) ?_
 simp -implicitDefEqProofs (disch := omega) only [hbpp, hb0pp, hbs, hb0s, hbq, hb0q, hbz, hb0z, hblz, ep, eQ, fv, eM, fJ, gC, fK, gD, List.length_set, List.set_set, hm, Option.isNone_some.{0}, ar, ak, al, au, simprocAttr, ax, ay, Function.comp_apply, one1, lenV, af, am, ap, aop, AV.ofValue, AV.ofCell, AV.cells, AV.flat, AV.one, arep, aB, aw]
 repeat refine And.intro (by omega) ?_
 refine hQ _ _ (hI (b1 := .cells true 0 [.int .i64 W, .int .i64 Hh, .sl (some (bpp, 0)) xs.length cpp, .sl (some (H.length, 0)) m.length none, .int .i64 tu, .int .i64 le, .int .i64 sl, .int .i64 ra, .bool false]) (.cells true 0 [.int .i64 W, .int .i64 Hh, .sl (some (bpp, 0)) xs.length cpp, .sl (some (H.length, 0)) m.length none, .int .i64 tu, .int .i64 le, .int .i64 sl, .int .i64 ra, .bool false]) (l1 := [.cells true 6 (r6 m)]) (l2 := [.cells true 6 (r6 m)]) (.inl rfl) hbel hblz (by first | rfl | simp) (x1 := .int .i64 0) (.int .i64 0) (av Tryz.results31) [] rfl [0] (by decide) ⟨rfl, rfl⟩ ?_)
 exact bl (jn @bo (jn @hblpp (jn @hbls (jn @hblz @hblq))))
open Go.RowKit

theorem Ints.drew {w : World} {k : IntKind} {A : Option Addr} {xs : List Int} (h : Ints w k A xs) : Ints w.drew k A xs := h

open Go.RowKit
theorem bxInfo : (Tryz.prog.info? 73).map (fun i => (i.zero, i.size, i.bytes)) = some (some (.agg #[.int .i64 0, .int .i64 0, .int .i64 0, .int .i64 0, .int .i64 0, .int .i64 0]), 6, 48) := by kernel_rfl
theorem pS (z : Array Value) : (Builtin.zeroCells z 1).toList = z.toList := by
 simp only [Builtin.zeroCells, Nat.one_mul]
 apply List.ext_getElem
 ·simp
 ·intro i h1 h2
  simp only [Array.toList_map, Array.toList_range, List.getElem_map, List.getElem_range, Array.getElem_toList]
  have h3 : i < z.size := by simpa using h2
  rw [Nat.mod_eq_of_lt h3, getElem!_pos z i h3]
theorem run_clear1 {P : Program} (w : World) (t e ty : TypeId) (z : Value) (ht : P.underlying t = some (.slice e)) (hv : (zeroValue e).run P w = .ok z w) (h1 : ∀ v ∈ z.cells.toList, v.oneCell' = true) (b o c : Nat)
  (hc : ∀ j, j < z.cells.toList.length → (w.cell? ⟨b, o + j, none⟩).isSome = true) (hf : ∀ j, j < z.cells.toList.length → w.frozen? ⟨b, o + j, none⟩ = false) :
  (Builtin.clear_ #[t] ty #[.slice (some ⟨b, o, none⟩) 1 c]).run P w = .ok (.tuple #[]) (w.setCells b o z.cells.toList) := by
 have hst := run_storeCells_cells (P := P) b o z.cells.toList 0 w hc hf h1
 simp only [Nat.add_zero] at hst
 simp [Builtin.clear_, run_underlying ht, hv, pS, hst]
set_option maxHeartbeats 4000000 in
set_option maxRecDepth 1000000 in
theorem del_w (g off cap n i j : Nat) (w : World) (news : List Value) (hl : news.length = (n - j) * 6) (hnews : ∀ t u, news[t]? = some u → w.cell? ⟨g, off + j * 6 + t, none⟩ = some u) (h1 : ∀ u ∈ news, u.oneCell' = true) (hc : ∀ t, t < n * 6 → (w.cell? ⟨g, off + t, none⟩).isSome = true ∧ w.frozen? ⟨g, off + t, none⟩ = false) (hi : i < n) (hj1 : j = i + 1) (hn : n ≤ cap) (hm : cap ≤ 9223372036854775807)
  (W1 : World) (hW1 : W1 = w.drew.setCells g (off + i * 6) news) (hc1 : ∀ t, t < n * 6 → (W1.cell? ⟨g, off + t, none⟩).isSome = true ∧ W1.frozen? ⟨g, off + t, none⟩ = false) :
  Calls Tryz.prog 93 #[.slice (some ⟨g, off, none⟩) n cap, .int .i64 (i : Int), .int .i64 (j : Int)] w fun e w' => e = .returned (.slice (some ⟨g, off, none⟩) (i + (n - j)) cap) ∧ w' = W1.setCells g (off + (i + (n - j)) * 6) (List.replicate 6 (.int .i64 0)) := by
 obtain ⟨i0, hi0, hz0, hz1, hz2⟩ := info_parts bxInfo
 obtain ⟨A, hA, hsrc⟩ : ∃ A : Addr, (if cap = j then (some (⟨g, off, none⟩ : Addr)) else some ⟨g, off + j * 6, none⟩) = some A ∧ Hid (∀ t u, news[t]? = some u → w.drew.cell? (A.add t) = some u) := by
  by_cases h : cap = j
  ·refine ⟨⟨g, off, none⟩, by simp [h], fun t u hu => ?_⟩
   have h0 : news.length = 0 := by rw [hl]; omega
   rw [List.length_eq_zero_iff.1 h0] at hu
   simp at hu
  ·refine ⟨⟨g, off + j * 6, none⟩, by simp [h], fun t u hu => ?_⟩
   rw [Addr.add_lit]
   exact hnews t u hu
 have s1 : Hid (news.length = (n - j) * 6) := hl
 have s2 : Hid (∀ u ∈ news, u.oneCell' = true) := h1
 have s3 : Hid (∀ t, t < news.length → (w.drew.cell? ⟨g, off + i * 6 + t, none⟩).isSome = true ∧ w.drew.frozen? ⟨g, off + i * 6 + t, none⟩ = false) := by
  intro t ht
  rw [hl] at ht
  have := hc (i * 6 + t) (by omega)
  rw [← Nat.add_assoc] at this
  exact this
 have hcl : ∀ ty, (Builtin.clear_ #[31] ty #[.slice (some ⟨g, off + (i + (n - j)) * 6, none⟩) (n - (i + (n - j))) (cap - (i + (n - j)))]).run Tryz.prog W1 = .ok (.tuple #[]) (W1.setCells g (off + (i + (n - j)) * 6) (List.replicate 6 (.int .i64 0))) := fun ty => by
  have hzv : (zeroValue 73).run Tryz.prog W1 = .ok (.agg #[.int .i64 0, .int .i64 0, .int .i64 0, .int .i64 0, .int .i64 0, .int .i64 0]) W1 := by simp [zeroValue, typeInfo, hi0, hz0]
  have hzl : (Value.agg #[.int .i64 0, .int .i64 0, .int .i64 0, .int .i64 0, .int .i64 0, .int .i64 0]).cells.toList = List.replicate 6 (.int .i64 0) := rfl
  have k := run_clear1 (P := Tryz.prog) W1 31 73 ty (.agg #[.int .i64 0, .int .i64 0, .int .i64 0, .int .i64 0, .int .i64 0, .int .i64 0]) Tryz.underlying31 hzv (by rw [hzl]; intro v hv; rw [List.eq_of_mem_replicate hv]; rfl) g (off + (i + (n - j)) * 6) (cap - (i + (n - j))) (fun t ht => by rw [hzl, List.length_replicate] at ht; rw [Nat.add_assoc]; exact (hc1 _ (by omega)).1) (fun t ht => by rw [hzl, List.length_replicate] at ht; rw [Nat.add_assoc]; exact (hc1 _ (by omega)).2)
  rw [hzl] at k
  rw [show n - (i + (n - j)) = 1 by omega]
  exact k
 have hW : Hid (W1 = w.drew.setCells g (off + i * 6) news) := hW1
 have hHi := hid hi0
 have hHz := hid hz1
 have hij : i ≤ j := by omega
 have hne : ¬ (i = j) := by omega
 have hj : j ≤ n := by omega
 have hic : i ≤ cap := by omega
 have hjc : j ≤ cap := by omega
 have hlt : i < j := by omega
 have hr := hid hj1
 clear hW1 hnews hl hc hc1 hi0 hz0 hz1 hz2 hj1
 go_enter Tryz.func93, Tryz.ntmps93
 go_wp2_with fail
 go_region_law (refine step_append_room rfl (.tmp 22) (.tmp 25) 31 rfl 73 i0 6 Tryz.underlying31 hHi.out hHz.out g off i cap (by simp [Act.eval, Act.put]) A (n - j) (cap - j) news (by simp [Act.eval, Act.put]) s1.out hsrc.out s2.out (by omega) s3.out ?_; rw [← hW.out])
 go_wp2
 go_ret
 exact ⟨rfl, rfl⟩
theorem uz {E : Env} {b o n : Nat} {cap : Option Nat} {v : Value} (h : Rel E (.sl (some (b, o)) n cap) v) (hn : 0 < n) : ∃ c, v = .slice (some ⟨(E.loc b).blk, (E.loc b).off + o, none⟩) n c ∧ b < E.n ∧ n ≤ c ∧ c ≤ maxLen ∧ o + c * (E.loc b).es ≤ (E.loc b).sz := by
 generalize hx : AV.sl (some (b, o)) n cap = x at h
 cases h with
 | nils b' cap' hb hc => cases hx; omega
 | sl b' o' len cap' c a h0 h1 h2 h3 h4 h5 =>
  cases hx
  rcases h4 with h4 | h4
  ·omega
  ·subst h4; exact ⟨c, rfl, h0, h1, h2, h5⟩
 | _ => cases hx
theorem pM : ∀ (ys xs : List AV) (o : Nat), o + ys.length ≤ xs.length → splice xs o ys = xs.take o ++ ys ++ xs.drop (o + ys.length)
 | [], xs, o, h => by
  rw [splice, List.append_nil, List.length_nil, Nat.add_zero, List.take_append_drop]
 | y :: ys, xs, o, h => by
  simp only [List.length_cons] at h
  rw [splice, pM ys _ _ (by rw [List.length_set]; omega)]
  have ho : o < xs.length := by omega
  rw [List.take_succ_eq_append_getElem (by simpa using ho), List.getElem_set_self, List.take_set_of_le (Nat.le_refl _), List.drop_set_of_lt (by omega), List.length_cons, show o + 1 + ys.length = o + (ys.length + 1) by omega]
  simp
theorem r6_takeB {l : List T6} {j : Nat} : (r6 l).take (j * 6) = r6 (l.take j) := by
 induction l generalizing j with
 | nil => simp [bt]
 | cons p l ih =>
  cases j with
  | zero => simp [bt]
  | succ j => rw [be, show (j + 1) * 6 = j * 6 + 1 + 1 + 1 + 1 + 1 + 1 by omega, List.take_succ_cons, List.take_succ_cons, List.take_succ_cons, List.take_succ_cons, List.take_succ_cons, List.take_succ_cons, ih]; rfl
theorem r6_dropB {l : List T6} {j : Nat} : (r6 l).drop (j * 6) = r6 (l.drop j) := by
 induction l generalizing j with
 | nil => simp [bt]
 | cons p l ih =>
  cases j with
  | zero => simp
  | succ j => rw [be, show (j + 1) * 6 = j * 6 + 1 + 1 + 1 + 1 + 1 + 1 by omega, List.drop_succ_cons, List.drop_succ_cons, List.drop_succ_cons, List.drop_succ_cons, List.drop_succ_cons, List.drop_succ_cons, ih]; rfl
def r6z : List AV := [.int .i64 0, .int .i64 0, .int .i64 0, .int .i64 0, .int .i64 0, .int .i64 0]
theorem r6_oneB : ∀ {l : List T6}, (r6 l).all AV.one = true
 | [] => rfl
 | p :: l => by rw [be]; simp only [List.all_cons, AV.one, Bool.true_and]; exact r6_oneB
theorem del_b (H : ac) (b : Nat) (cap : Option Nat) (l : List T6) (z : Int) (hb : H[b]? = some (.cells true 6 (r6 l))) (h0 : 0 ≤ z) (hz : z < (l.length : Int)) : ACalls Tryz.prog 93 [.sl (some (b, 0)) l.length cap, .int .i64 z, .int .i64 (z + 1)] H (fun v H' => v = .sl (some (b, 0)) (l.take z.toNat ++ l.drop (z.toNat + 1)).length none ∧ H' = H.set b (.cells true 6 (r6 (l.take z.toNat ++ l.drop (z.toNat + 1)) ++ r6z))) := by
 obtain ⟨i, rfl⟩ : ∃ i : Nat, z = (i : Int) := ⟨z.toNat, by omega⟩
 rw [Int.toNat_natCast]
 have hi : i < l.length := by omega
 intro E w vs hE hv
 match vs, hv with
 | [], hv => exact absurd hv.1 (by simp)
 | [_], hv => exact absurd hv.1 (by simp)
 | [_, _], hv => exact absurd hv.1 (by simp)
 | _ :: _ :: _ :: _ :: _, hv => exact absurd hv.1 (by simp)
 | [v0, v1, v2], hv =>
 obtain ⟨r0, hv⟩ := hv.uncons
 obtain ⟨r1, hv⟩ := hv.uncons
 obtain ⟨r2, -⟩ := hv.uncons
 have e1 : v1 = .int .i64 (i : Int) := by cases r1; rfl
 have e2 : v2 = .int .i64 ((i + 1 : Nat) : Int) := by cases r2; rfl
 subst e1 e2
 obtain ⟨c, rfl, hbn, hnc, hcm, hsz⟩ := uz r0 (by omega)
 rw [Nat.add_zero]
 rw [Nat.zero_add] at hsz
 have hcells : ∀ {H' : ac} {w' : World} {ys : List AV}, Emb E H' w' → H'[b]? = some (.cells true 6 ys) → ∀ t, t < l.length * 6 → ys.length = l.length * 6 → (w'.cell? ⟨(E.loc b).blk, (E.loc b).off + t, none⟩).isSome = true ∧ w'.frozen? ⟨(E.loc b).blk, (E.loc b).off + t, none⟩ = false := fun hE' hb' t ht hy => by
  have k := (hE'.blk b _ hb').2.1 rfl
  exact k.2.2.2.2 t (by omega)
 have hlen : (r6 (l.drop (i + 1))).length = (l.length - (i + 1)) * 6 := by rw [aL, List.length_drop]
 have hr : ards H b ((i + 1) * 6) ((l.length - (i + 1)) * 6) = some (r6 (l.drop (i + 1))) := by
  unfold ards; rw [hb]
  simp only
  rw [if_pos (.inl (by rw [aL]; omega)), r6_dropB, List.take_of_length_le (by rw [hlen]; omega)]
 obtain ⟨o1, o2, ovs, o3, o4⟩ := d7 hE hr
 have hol : ovs.length = (l.length - (i + 1)) * 6 := by rw [← o3.1, hlen]
 have hw1 : awrite H b (i * 6) (r6 (l.drop (i + 1))) = some (H.set b (.cells true 6 (splice (r6 l) (i * 6) (r6 (l.drop (i + 1)))))) := by
  unfold awrite; rw [hb]
  simp only
  rw [if_pos ⟨by rw [hlen, aL]; omega, r6_oneB⟩]
 obtain ⟨x1, -, -, hE1⟩ := hE.drew.write o3 hw1
 have hblt : b < H.length := getElem?_lt hb
 have hs1 : splice (r6 l) (i * 6) (r6 (l.drop (i + 1))) = r6 (l.take i ++ l.drop (i + 1)) ++ (r6 l).drop ((l.length - 1) * 6) := by
  rw [pM _ _ _ (by rw [hlen, aL]; omega), r6_takeB, bg, hlen, show i * 6 + (l.length - (i + 1)) * 6 = (l.length - 1) * 6 by omega]
 have hlA : (r6 (l.take i ++ l.drop (i + 1))).length = (l.length - 1) * 6 := by rw [aL, List.length_append, List.length_take, List.length_drop]; omega
 have hlB : ((r6 l).drop ((l.length - 1) * 6)).length = 6 := by rw [List.length_drop, aL]; omega
 rw [hs1] at hE1
 have hb1 : (H.set b (.cells true 6 (r6 (l.take i ++ l.drop (i + 1)) ++ (r6 l).drop ((l.length - 1) * 6))))[b]? = some (.cells true 6 (r6 (l.take i ++ l.drop (i + 1)) ++ (r6 l).drop ((l.length - 1) * 6))) := List.getElem?_set_self hblt
 have hw2 : awrite (H.set b (.cells true 6 (r6 (l.take i ++ l.drop (i + 1)) ++ (r6 l).drop ((l.length - 1) * 6)))) b ((l.length - 1) * 6) r6z = some (H.set b (.cells true 6 (r6 (l.take i ++ l.drop (i + 1)) ++ r6z))) := by
  unfold awrite; rw [hb1]
  simp only
  rw [if_pos ⟨by rw [List.length_append, hlA, hlB]; exact Nat.le_refl _, rfl⟩, List.set_set, gN _ _ _ (by rw [List.length_append, hlA, hlB]; rfl), List.take_append_of_le_length (by rw [hlA]; exact Nat.le_refl _), List.take_of_length_le (by rw [hlA]; exact Nat.le_refl _)]
 have hz6 : RelL E r6z (List.replicate 6 (.int .i64 0)) := .cons (.int _ _) (.cons (.int _ _) (.cons (.int _ _) (.cons (.int _ _) (.cons (.int _ _) (.cons (.int _ _) (.nil E))))))
 obtain ⟨-, -, -, hE2⟩ := hE1.write hz6 hw2
 refine (del_w (E.loc b).blk (E.loc b).off c l.length i (i + 1) w ovs hol (fun t u hu => by
   exact o4 t u hu) x1 (fun t ht => hcells hE hb t ht aL) hi rfl hnc hcm _ rfl (fun t ht => hcells hE1 hb1 t ht (by rw [List.length_append, hlA, hlB]; omega))).mono ?_
 rintro e w' ⟨rfl, rfl⟩
 refine ⟨E, _, _, _, rfl, ⟨rfl, rfl⟩, .refl E, ?_, ?_⟩
 ·have e3 : (l.take i ++ l.drop (i + 1)).length = i + (l.length - (i + 1)) := by rw [List.length_append, List.length_take, List.length_drop]; omega
  rw [e3]
  have k := Rel.sl (E := E) b 0 (i + (l.length - (i + 1))) none c ⟨(E.loc b).blk, (E.loc b).off + 0, none⟩ hbn (by omega) hcm (.inl rfl) (.inr rfl) (by rw [Nat.zero_add]; exact hsz)
  rw [Nat.add_zero] at k
  exact k
 ·rw [show i + (l.length - (i + 1)) = l.length - 1 by omega]
  exact hE2
open Go.RowKit
theorem r6_set : ∀ {l : List T6} {j : Nat} {a b c d e f : Int}, j < l.length → ((((((r6 l).set (j * 6) (.int .i64 a)).set (j * 6 + 1) (.int .i64 b)).set (j * 6 + 2) (.int .i64 c)).set (j * 6 + 3) (.int .i64 d)).set (j * 6 + 4) (.int .i64 e)).set (j * 6 + 5) (.int .i64 f) = r6 (l.set j (a, b, c, d, e, f))
 | [], j, _, _, _, _, _, _, h => by simp at h
 | p :: l, 0, _, _, _, _, _, _, _ => by simp [be]
 | p :: l, j + 1, a, b, c, d, e, f, h => by
  have ih := r6_set (l := l) (j := j) (a := a) (b := b) (c := c) (d := d) (e := e) (f := f) (by simpa using h)
  have k : (j + 1) * 6 = j * 6 + 1 + 1 + 1 + 1 + 1 + 1 := by omega
  rw [be, k]
  simp only [List.set_cons_succ]
  rw [be, ← ih]
theorem BW_pre' {m e : Nat} {o : Bool} {ys zs : List AV} : BW m (some (.cells o e (ys ++ zs))) (.cells o e ys) = True := eq_true BW.pre
theorem chp_c (H : ac) (s : AV) (l : List T6) (hs : Sl H 6 s l.length (r6 l)) (hv : ∀ b ∈ l, bG b = true) (hl2 : l.length ≤ 256) (hl0 : 0 < l.length) : ACalls Tryz.prog 92 [s] H (fun v H' => v = .tup [.int .i64 ((chO l l.length).1), .int .i64 ((chO l l.length).2.1), .agg [.int .i64 ((chO l l.length).2.2.2.1), .int .i64 ((chO l l.length).2.2.2.2.1), .int .i64 ((chO l l.length).2.2.2.2.2.1), .int .i64 ((chO l l.length).2.2.2.2.2.2.1), .int .i64 ((chO l l.length).2.2.2.2.2.2.2.1), .int .i64 ((chO l l.length).2.2.2.2.2.2.2.2)]] ∧ H' = H) := by
 obtain ⟨bs, os, cs, rfl, hbs⟩ := hs
 have hbls := getElem?_lt hbs
 have hb0s := fun l => aD (l := l) hbs
 refine AcT true Tryz.func92 ?_; intro hbel Q hQ
 have g'1 := (jn @hbs @hb0s)
 refine aa g'1 ?_
 refine go_loop try_mixed (by kernel_rfl) (fun k F Hx => ∃ i : Nat, i + k = l.length ∧ F = [(0, .sl (some (bs, 0)) l.length cs), (4, .ptr (some (H.length, 0))), (5, .int .i64 ((chO l i).1)), (6, .int .i64 ((chO l i).2.1)), (7, .int .i64 ((chO l i).2.2.1)), (8, .ptr (some (H.length + 1, 0))), (16, .sl (some (bs, 0)) l.length cs), (17, .int .i64 ((l.length : Nat) : Int)), (18, .int .i64 ((i : Nat) : Int))] ∧ Hx = H ++ [.cells true 0 [.int .i64 0, .int .i64 0, .int .i64 0, .int .i64 0, .int .i64 0, .int .i64 0], .cells true 0 [.int .i64 ((chO l i).2.2.2.1), .int .i64 ((chO l i).2.2.2.2.1), .int .i64 ((chO l i).2.2.2.2.2.1), .int .i64 ((chO l i).2.2.2.2.2.2.1), .int .i64 ((chO l i).2.2.2.2.2.2.2.1), .int .i64 ((chO l i).2.2.2.2.2.2.2.2)]]) (l.length) ?_ ?_
 ·refine ⟨_, _, _, ⟨0, by omega, rfl, rfl⟩, Abs.byG hbel [] rfl [0, 1] (by decide) ?_⟩
  exact bl @chO.eq_1
 ·rintro k0 F Hx ⟨i, hm0, rfl, rfl⟩ J0 hJ0
  refine aa g'1 ?_
  refine aq (fun h1 => ?_) (fun h1 => ?_)
  ·have h1d := bsT h1
   have hlt : i < l.length := by omega
   have hva : bxB (g61 l i) (g62 l i) (g63 l i) (g64 l i) (g65 l i) (g66 l i) = true := hv _ (cG hlt)
   have hcb := chO_bd (l := l) (n := i) (by omega)
   have q2 := cE (l := l) (j := i) (by omega)
   have g'2 := (jn @h1 (jn @h1d (jn @aL (jn @q2 g'1))))
   refine aa g'2 ?_
   refine go_loop try_mixed (by kernel_rfl) (fun k F Hx => ∃ j : Nat, j + k = l.length - (i + 1) ∧ F = [(0, .sl (some (bs, 0)) l.length cs), (4, .ptr (some (H.length, 0))), (5, .int .i64 ((chR l i (chO l i) j).1)), (6, .int .i64 ((chR l i (chO l i) j).2.1)), (7, .int .i64 ((chR l i (chO l i) j).2.2.1)), (8, .ptr (some (H.length + 1, 0))), (9, .int .i64 ((i : Nat) : Int)), (10, .ptr (some (H.length + 2, 0))), (16, .sl (some (bs, 0)) l.length cs), (17, .int .i64 ((l.length : Nat) : Int)), (18, .int .i64 ((i : Nat) : Int)), (26, .sl (some (bs, (i + 1) * 6)) (l.length - (i + 1)) none), (27, .int .i64 ((l.length - (i + 1) : Nat) : Int)), (28, .int .i64 ((j : Nat) : Int))] ∧ Hx = H ++ [.cells true 0 [.int .i64 0, .int .i64 0, .int .i64 0, .int .i64 0, .int .i64 0, .int .i64 0], .cells true 0 [.int .i64 ((chR l i (chO l i) j).2.2.2.1), .int .i64 ((chR l i (chO l i) j).2.2.2.2.1), .int .i64 ((chR l i (chO l i) j).2.2.2.2.2.1), .int .i64 ((chR l i (chO l i) j).2.2.2.2.2.2.1), .int .i64 ((chR l i (chO l i) j).2.2.2.2.2.2.2.1), .int .i64 ((chR l i (chO l i) j).2.2.2.2.2.2.2.2)], .cells true 0 [.int .i64 (g61 l i), .int .i64 (g62 l i), .int .i64 (g63 l i), .int .i64 (g64 l i), .int .i64 (g65 l i), .int .i64 (g66 l i)]]) (l.length - (i + 1)) ?_ ?_
   ·refine ⟨_, _, _, ⟨0, by omega, rfl, rfl⟩, Abs.byG hbel [] rfl [0, 1, 2] (by decide) ?_⟩
    exact bl @chR.eq_1
   ·rintro k1 F Hx ⟨j, hm1, rfl, rfl⟩ J1 hJ1
    refine aa g'2 ?_
    refine aq (fun h3 => ?_) (fun h3 => ?_)
    ·have h3d := bsT h3
     have hkt : j < l.length - (i + 1) := by omega
     have hvb : bxB (g61 l (i + 1 + j)) (g62 l (i + 1 + j)) (g63 l (i + 1 + j)) (g64 l (i + 1 + j)) (g65 l (i + 1 + j)) (g66 l (i + 1 + j)) = true := hv _ (cG (by omega))
     have hsfo : (i + 1) * 6 + j * 6 = (i + 1 + j) * 6 := by omega
     have hrb := chR_bd (l := l) (n := i) (k := j) (by omega) (by omega)
     have hv1 := g8 (mnI (g61 l i) (g61 l (i + 1 + j)), mnI (g62 l i) (g62 l (i + 1 + j)), mxI (g63 l i) (g63 l (i + 1 + j)), mxI (g64 l i) (g64 l (i + 1 + j)), (cw (g65 l i) (g66 l i) (g65 l (i + 1 + j)) (g66 l (i + 1 + j))).1, (cw (g65 l i) (g66 l i) (g65 l (i + 1 + j)) (g66 l (i + 1 + j))).2)
     have hv2 := g8 ((g61 l i), (g62 l i), (g63 l i), (g64 l i), (g65 l i), (g66 l i))
     have hv3 := g8 ((g61 l (i + 1 + j)), (g62 l (i + 1 + j)), (g63 l (i + 1 + j)), (g64 l (i + 1 + j)), (g65 l (i + 1 + j)), (g66 l (i + 1 + j)))
     have q4 := cE (l := l) (j := i + 1 + j) (by omega)
     have g'3 := (jn @h3 (jn @h3d (jn @hsfo (jn @q4 g'2))))
     refine aa g'3 ?_
     refine aj (by kernel_rfl) (bhull_c _ (g61 l i) (g62 l i) (g63 l i) (g64 l i) (g65 l i) (g66 l i) (g61 l (i + 1 + j)) (g62 l (i + 1 + j)) (g63 l (i + 1 + j)) (g64 l (i + 1 + j)) (g65 l (i + 1 + j)) (g66 l (i + 1 + j)) (by assumption) (by assumption)) ?_
     refine aa g'3 ?_
     refine aP (by kernel_rfl) (vol_c _ (mnI (g61 l i) (g61 l (i + 1 + j))) (mnI (g62 l i) (g62 l (i + 1 + j))) (mxI (g63 l i) (g63 l (i + 1 + j))) (mxI (g64 l i) (g64 l (i + 1 + j))) ((cw (g65 l i) (g66 l i) (g65 l (i + 1 + j)) (g66 l (i + 1 + j))).1) ((cw (g65 l i) (g66 l i) (g65 l (i + 1 + j)) (g66 l (i + 1 + j))).2)) ?_
     refine aa g'3 ?_
     refine aP (by kernel_rfl) (vol_c _ (g61 l i) (g62 l i) (g63 l i) (g64 l i) (g65 l i) (g66 l i)) ?_
     refine aa g'3 ?_
     refine aP (by kernel_rfl) (vol_c _ (g61 l (i + 1 + j)) (g62 l (i + 1 + j)) (g63 l (i + 1 + j)) (g64 l (i + 1 + j)) (g65 l (i + 1 + j)) (g66 l (i + 1 + j))) ?_
     refine aa g'3 ?_
     refine az (fun h5 => ?_) (fun h5 => ?_)
     ·have h5d := bsT h5
      have hk5 := h5d
      have g'4 := (jn @h5 (jn @h5d g'3))
      refine aa g'4 ?_
      refine aq (fun h6 => ?_) (fun h6 => ?_)
      ·have h6d := bsT h6
       have hU : chU l i j (chR l i (chO l i) j) = ((i : Int), (i : Int) + 1 + (j : Int), chN l i (i + 1 + j), dY (g6 l i) (g6 l (i + 1 + j))) := if_pos (.inr h6d)
       have hc1 : (chU l i j (chR l i (chO l i) j)).1 = ((i : Nat) : Int) := by rw [hU]
       have hc2 : (chU l i j (chR l i (chO l i) j)).2.1 = ((i : Nat) : Int) + 1 + ((j : Nat) : Int) := by rw [hU]
       have hc3 : (chU l i j (chR l i (chO l i) j)).2.2.1 = (((dt ((mnI (g61 l i) (g61 l (i + 1 + j))), (mnI (g62 l i) (g62 l (i + 1 + j))), (mxI (g63 l i) (g63 l (i + 1 + j))), (mxI (g64 l i) (g64 l (i + 1 + j))), ((cw (g65 l i) (g66 l i) (g65 l (i + 1 + j)) (g66 l (i + 1 + j))).1), ((cw (g65 l i) (g66 l i) (g65 l (i + 1 + j)) (g66 l (i + 1 + j))).2))) - (dt (g6 l i))) - (dt (g6 l (i + 1 + j)))) := by rw [hU]; rfl
       have hd0 : (chU l i j (chR l i (chO l i) j)).2.2.2.1 = mnI (g61 l i) (g61 l (i + 1 + j)) := by rw [hU]; rfl
       have hd1 : (chU l i j (chR l i (chO l i) j)).2.2.2.2.1 = mnI (g62 l i) (g62 l (i + 1 + j)) := by rw [hU]; rfl
       have hd2 : (chU l i j (chR l i (chO l i) j)).2.2.2.2.2.1 = mxI (g63 l i) (g63 l (i + 1 + j)) := by rw [hU]; rfl
       have hd3 : (chU l i j (chR l i (chO l i) j)).2.2.2.2.2.2.1 = mxI (g64 l i) (g64 l (i + 1 + j)) := by rw [hU]; rfl
       have hd4 : (chU l i j (chR l i (chO l i) j)).2.2.2.2.2.2.2.1 = (cw (g65 l i) (g66 l i) (g65 l (i + 1 + j)) (g66 l (i + 1 + j))).1 := by rw [hU]; rfl
       have hd5 : (chU l i j (chR l i (chO l i) j)).2.2.2.2.2.2.2.2 = (cw (g65 l i) (g66 l i) (g65 l (i + 1 + j)) (g66 l (i + 1 + j))).2 := by rw [hU]; rfl
       have g'5 := (jn @h6 (jn @h6d g'4))
       refine aa g'5 ?_
       refine hJ1 _ _ ⟨k1 - 1, by omega, _, _, _, ⟨j + 1, by omega, rfl, rfl⟩, Abs.byG hbel [] rfl [0, 1, 2] (by decide) ?_⟩
       exact bl (jn @chR.eq_2 (jn @hc1 (jn @hc2 (jn @hc3 (jn @hd0 (jn @hd1 (jn @hd2 (jn @hd3 (jn @hd4 @hd5)))))))))
      ·have h6d := bsT h6
       have hU : chU l i j (chR l i (chO l i) j) = (chR l i (chO l i) j) := if_neg (fun q => q.elim (fun q => hk5 q) (fun q => absurd q h6d))
       have g'6 := (jn @h6 (jn @h6d g'4))
       refine aa g'6 ?_
       refine hJ1 _ _ ⟨k1 - 1, by omega, _, _, _, ⟨j + 1, by omega, rfl, rfl⟩, Abs.byG hbel [] rfl [0, 1, 2] (by decide) ?_⟩
       exact bl (jn @chR.eq_2 @hU)
     ·have h5d := bsT h5
      have hU : chU l i j (chR l i (chO l i) j) = ((i : Int), (i : Int) + 1 + (j : Int), chN l i (i + 1 + j), dY (g6 l i) (g6 l (i + 1 + j))) := if_pos (.inl h5d)
      have hc1 : (chU l i j (chR l i (chO l i) j)).1 = ((i : Nat) : Int) := by rw [hU]
      have hc2 : (chU l i j (chR l i (chO l i) j)).2.1 = ((i : Nat) : Int) + 1 + ((j : Nat) : Int) := by rw [hU]
      have hc3 : (chU l i j (chR l i (chO l i) j)).2.2.1 = (((dt ((mnI (g61 l i) (g61 l (i + 1 + j))), (mnI (g62 l i) (g62 l (i + 1 + j))), (mxI (g63 l i) (g63 l (i + 1 + j))), (mxI (g64 l i) (g64 l (i + 1 + j))), ((cw (g65 l i) (g66 l i) (g65 l (i + 1 + j)) (g66 l (i + 1 + j))).1), ((cw (g65 l i) (g66 l i) (g65 l (i + 1 + j)) (g66 l (i + 1 + j))).2))) - (dt (g6 l i))) - (dt (g6 l (i + 1 + j)))) := by rw [hU]; rfl
      have hd0 : (chU l i j (chR l i (chO l i) j)).2.2.2.1 = mnI (g61 l i) (g61 l (i + 1 + j)) := by rw [hU]; rfl
      have hd1 : (chU l i j (chR l i (chO l i) j)).2.2.2.2.1 = mnI (g62 l i) (g62 l (i + 1 + j)) := by rw [hU]; rfl
      have hd2 : (chU l i j (chR l i (chO l i) j)).2.2.2.2.2.1 = mxI (g63 l i) (g63 l (i + 1 + j)) := by rw [hU]; rfl
      have hd3 : (chU l i j (chR l i (chO l i) j)).2.2.2.2.2.2.1 = mxI (g64 l i) (g64 l (i + 1 + j)) := by rw [hU]; rfl
      have hd4 : (chU l i j (chR l i (chO l i) j)).2.2.2.2.2.2.2.1 = (cw (g65 l i) (g66 l i) (g65 l (i + 1 + j)) (g66 l (i + 1 + j))).1 := by rw [hU]; rfl
      have hd5 : (chU l i j (chR l i (chO l i) j)).2.2.2.2.2.2.2.2 = (cw (g65 l i) (g66 l i) (g65 l (i + 1 + j)) (g66 l (i + 1 + j))).2 := by rw [hU]; rfl
      have g'7 := (jn @h5 (jn @h5d g'3))
      refine aa g'7 ?_
      refine hJ1 _ _ ⟨k1 - 1, by omega, _, _, _, ⟨j + 1, by omega, rfl, rfl⟩, Abs.byG hbel [] rfl [0, 1, 2] (by decide) ?_⟩
      exact bl (jn @chR.eq_2 (jn @hc1 (jn @hc2 (jn @hc3 (jn @hd0 (jn @hd1 (jn @hd2 (jn @hd3 (jn @hd4 @hd5)))))))))
    ·have h3d := bsT h3
     obtain rfl : j = l.length - (i + 1) := by omega
     have g'8 := (jn @h3 (jn @h3d g'2))
     refine aa g'8 ?_
     refine hJ0 _ _ ⟨k0 - 1, by omega, _, _, _, ⟨i + 1, by omega, rfl, rfl⟩, Abs.byG hbel [] rfl [0, 1] (by decide) ?_⟩
     exact bl @chO.eq_2
  ·have h1d := bsT h1
   obtain rfl : i = l.length := by omega
   have g'9 := (jn @h1 (jn @h1d g'1))
   refine aa g'9 ?_
   exact hQ _ _ (ai (.inl rfl) hbel (x := .tup [.int .i64 ((chO l l.length).1), .int .i64 ((chO l l.length).2.1), .agg [.int .i64 ((chO l l.length).2.2.2.1), .int .i64 ((chO l l.length).2.2.2.2.1), .int .i64 ((chO l l.length).2.2.2.2.2.1), .int .i64 ((chO l l.length).2.2.2.2.2.2.1), .int .i64 ((chO l l.length).2.2.2.2.2.2.2.1), .int .i64 ((chO l l.length).2.2.2.2.2.2.2.2)]]) (av Tryz.results92) rfl ⟨rfl, rfl⟩)
open Go.RowKit
theorem del_n (H : ac) (b n : Nat) (cap : Option Nat) (l : List T6) (z : Int) (hn : n = l.length) (hb : H[b]? = some (.cells true 6 (r6 l))) (h0 : 0 ≤ z) (hz : z < (l.length : Int)) : ACalls Tryz.prog 93 [.sl (some (b, 0)) n cap, .int .i64 z, .int .i64 (z + 1)] H (fun v H' => v = .sl (some (b, 0)) (l.take z.toNat ++ l.drop (z.toNat + 1)).length none ∧ H' = H.set b (.cells true 6 (r6 (l.take z.toNat ++ l.drop (z.toNat + 1)) ++ r6z))) := by
 subst hn; exact del_b H b cap l z hb h0 hz
theorem comp_c (H : ac) (s : AV) (l : List T6)  (hs : Sl H 6 s l.length (r6 l)) (hl : l.length ≤ 64) (hl0 : 0 < l.length) (hv : ∀ b ∈ l, bG b = true) : ACalls Tryz.prog 55 [s, .int .i64 16] H (fun v H' => v = .tup [.sl (some (H.length, 0)) ((cpL l).length) none, .int .i64 0] ∧ H' = H ++ [.cells true 6 (r6 (cpL l))]) := by
 obtain ⟨bs, os, cs, rfl, hbs⟩ := hs
 have hbls := getElem?_lt hbs
 have hb0s := fun l => aD (l := l) hbs
 have hny : l.any (fun b => !bG b) = false := List.any_eq_false.2 fun b hb => by rw [hv b hb]; decide
 refine AcT false Tryz.func55 ?_; intro hbel Q hQ
 have g'1 := (jn @hbs (jn @hb0s @hny))
 refine aa g'1 ?_
 refine aq (fun h1 => ?_) (fun h1 => ?_)
 ·have h1d := bsT h1
  omega
 ·have h1d := bsT h1
  have g'2 := (jn @h1 (jn @h1d g'1))
  refine aa g'2 ?_
  refine aj (by kernel_rfl) (ju _ _ l ⟨_, _, _, rfl, by first | exact hb0s _ | exact hbs⟩ (by omega) _ [] (by kernel_rfl) rfl (fun b => !bG b) (fun j hj => cmp1_c _ _ _ _ _ _ _)) ?_
  refine aa g'2 ?_
  refine aj (by kernel_rfl) (ir _ _ l ⟨_, _, _, rfl, by first | exact hb0s _ | exact hbs⟩ (by first | omega | (simp only [List.length_cons, List.length_nil]; omega)) (by first | omega | simp)) ?_
  refine aa g'2 ?_
  refine go_loop try_mixed (by kernel_rfl) (fun k F Hx => ∃ QQ : List T6, QQ.length = k ∧ (∀ b ∈ QQ, bG b = true) ∧ 0 < QQ.length ∧ QQ.length ≤ 64 ∧ cpI (QQ.length - 16) QQ = cpL l ∧ F = [(1, .int .i64 16), (6, .sl (some (H.length, 0)) QQ.length none)] ∧ Hx = H ++ [.cells true 6 (r6 QQ)]) (l.length) ?_ ?_
  ·refine ⟨_, _, _, ⟨l, by omega, hv, hl0, hl, rfl, rfl, rfl⟩, Abs.byG hbel [] rfl [0] (by decide) ?_⟩
   exact aN (jn @bg (jn @be (jn @bt @bo)))
  ·rintro k0 F Hx ⟨QQ, hm0, hqv, hq0, hq6, hqc, rfl, rfl⟩ J0 hJ0
   have g'3 := (jn @aL (jn @aY g'2))
   refine aa g'3 ?_
   refine aq (fun h2 => ?_) (fun h2 => ?_)
   ·have h2d := bsT h2
    have hgt : 16 < QQ.length := by omega
    obtain ⟨ci, cj, hci, hcj, hc1, hc2, hc3⟩ := chO_p (l := QQ) (by omega)
    have hsn := cpS_len (l := QQ) (by omega)
    have hcs : List.take (chO QQ QQ.length).2.1.toNat (List.set QQ (chO QQ QQ.length).1.toNat ((chO QQ QQ.length).2.2.2.1, (chO QQ QQ.length).2.2.2.2.1, (chO QQ QQ.length).2.2.2.2.2.1, (chO QQ QQ.length).2.2.2.2.2.2.1, (chO QQ QQ.length).2.2.2.2.2.2.2.1, (chO QQ QQ.length).2.2.2.2.2.2.2.2)) ++ List.drop ((chO QQ QQ.length).2.1.toNat + 1) (List.set QQ (chO QQ QQ.length).1.toNat ((chO QQ QQ.length).2.2.2.1, (chO QQ QQ.length).2.2.2.2.1, (chO QQ QQ.length).2.2.2.2.2.1, (chO QQ QQ.length).2.2.2.2.2.2.1, (chO QQ QQ.length).2.2.2.2.2.2.2.1, (chO QQ QQ.length).2.2.2.2.2.2.2.2)) = cpS QQ := rfl
    have hcl : (List.take (chO QQ QQ.length).2.1.toNat (List.set QQ (chO QQ QQ.length).1.toNat ((chO QQ QQ.length).2.2.2.1, (chO QQ QQ.length).2.2.2.2.1, (chO QQ QQ.length).2.2.2.2.2.1, (chO QQ QQ.length).2.2.2.2.2.2.1, (chO QQ QQ.length).2.2.2.2.2.2.2.1, (chO QQ QQ.length).2.2.2.2.2.2.2.2))).length + (List.drop ((chO QQ QQ.length).2.1.toNat + 1) (List.set QQ (chO QQ QQ.length).1.toNat ((chO QQ QQ.length).2.2.2.1, (chO QQ QQ.length).2.2.2.2.1, (chO QQ QQ.length).2.2.2.2.2.1, (chO QQ QQ.length).2.2.2.2.2.2.1, (chO QQ QQ.length).2.2.2.2.2.2.2.1, (chO QQ QQ.length).2.2.2.2.2.2.2.2))).length = (cpS QQ).length := by rw [← List.length_append]; rfl
    have hqn : cpI ((cpS QQ).length - 16) (cpS QQ) = cpL l := by rw [hsn, ← hqc, show QQ.length - 16 = (QQ.length - 1 - 16) + 1 by omega]; rfl
    have g'4 := (jn @h2 (jn @h2d g'3))
    refine aa g'4 ?_
    refine aj (by kernel_rfl) (chp_c _ _ QQ ⟨_, _, _, by first | rfl | (rw [List.length_append]; done) | (rw [List.length_append]; rfl), by first | rfl | (rw [ah]; rfl) | (rw [ae]; rfl) | (rw [ah, ag]; rfl) | (rw [ae, ag]; rfl)⟩ (by assumption) (by omega) (by omega)) ?_
    have g'5 := (jn @r6_set (jn @List.length_set.{0} g'4))
    refine aa g'5 ?_
    refine aj (by kernel_rfl) (del_n _ _ _ _ (QQ.set (((chO QQ QQ.length).1).toNat) ((chO QQ QQ.length).2.2.2.1, (chO QQ QQ.length).2.2.2.2.1, (chO QQ QQ.length).2.2.2.2.2.1, (chO QQ QQ.length).2.2.2.2.2.2.1, (chO QQ QQ.length).2.2.2.2.2.2.2.1, (chO QQ QQ.length).2.2.2.2.2.2.2.2)) ((chO QQ QQ.length).2.1) (by first | rfl | exact List.length_set.symm | simp) (by first | rfl | (rw [ah]; rfl) | (rw [ae]; rfl)) (by first | omega | (rw [List.length_set]; omega)) (by first | omega | (rw [List.length_set]; omega))) ?_
    refine aa g'5 ?_
    refine hJ0 _ _ ⟨k0 - 1, by omega, _, _, _, ⟨cpS QQ, by omega, cpS_ok (by omega) hqv, by omega, by omega, hqn, rfl, rfl⟩, Abs.byG hbel [] rfl [0] (by decide) ?_⟩
    exact aN (jn @hcs (jn @hcl (jn @BW_pre' (jn @bo (jn @or_true (jn @true_or (jn @bg (jn @be @bt))))))))
   ·have h2d := bsT h2
    obtain rfl : QQ = cpL l := by rw [← hqc, show QQ.length - 16 = 0 by omega]; rfl
    have g'6 := (jn @h2 (jn @h2d g'3))
    refine aa g'6 ?_
    refine hQ _ _ (br (.inl rfl) hbel (x1 := .tup [.sl (some (H.length, 0)) ((cpL l).length) none, .int .i64 0]) (l2 := [.cells true 6 (r6 (cpL l))]) (.tup [.sl (some (H.length, 0)) ((cpL l).length) none, .int .i64 0]) (av Tryz.results55) [] rfl [0] (by decide) ⟨rfl, rfl⟩ ?_)
    exact bl @bo
open Go.RowKit
open Go.RowKit
open Go.RowKit
theorem learnT_c (H : ac) (W Hh : Int) (pp : AV) (xs : List Int) (s : AV) (l : List T6) (q : AV) (sc : List (Int × Int)) (g : Int) (o : List Int) (hpp : Sl H 1 pp xs.length (ints .u8 xs)) (hs : Sl H 6 s l.length (r6 l)) (hq : Sl H 2 q sc.length (prs sc)) (hR : cV W Hh xs l sc g = true) (ho : lnO W Hh xs l sc g = some o) :
  ACalls Tryz.prog 56 [.agg [.int .i64 W, .int .i64 Hh, pp], s, q, .int .i64 g] H (fun v H' => v = .tup [.agg [.int .i64 W, .int .i64 Hh, .sl (some (H.length, 0)) o.length none], .int .i64 0] ∧ H' = H ++ [.cells (bm o.length) 1 (ints .u8 o)]) := by
 obtain ⟨hV, hl0, hS, hsB, hg⟩ := eI.1 hR
 have k := learn_c H W Hh pp xs s l q sc g hpp hs hq (by have := fk hS; omega) (by have := (dG.1 hsB).1; omega)
 obtain ⟨e1, e2, e3, e4⟩ := ln_0 hR ho
 rw [e1, e2, e3, e4] at k
 exact k
open Go.RowKit
theorem tX (H : ac) (W Hh : Int) (pp : AV) (xs : List Int) (s : AV) (l : List T6) (q : AV) (sc : List (Int × Int)) (g : Int) (o : List Int) (hpp : Sl H 1 pp xs.length (ints .u8 xs)) (hs : Sl H 6 s l.length (r6 l)) (hq : Sl H 2 q sc.length (prs sc)) (hR : cV W Hh xs l sc g = true) (ho : lnO W Hh xs l sc g = some o) (h0 : 0 < o.length) :
  ACalls Tryz.prog 56 [.agg [.int .i64 W, .int .i64 Hh, pp], s, q, .int .i64 g] H (fun v H' => v = .tup [.agg [.int .i64 W, .int .i64 Hh, .sl (some (H.length, 0)) o.length none], .int .i64 0] ∧ H' = H ++ [.cells true 1 (ints .u8 o)]) := by
 have k := learnT_c H W Hh pp xs s l q sc g o hpp hs hq hR ho
 rw [dJ h0] at k
 exact k
theorem lse_a (H : ac) (W : Int) (Hh : Int) (pp : AV) (xs : List Int) (s : AV) (l : List T6) (tu : Int) (le : Int) (sl : Int) (ra : Int) (lost : Bool) (bz : Nat) (q : AV) (sc : List (Int × Int)) (hpp : Sl H 1 pp xs.length (ints .u8 xs)) (hs : Sl H 6 s l.length (r6 l)) (hz : ∃ o, H[bz]? = some (.cells o 0 [.int .i64 W, .int .i64 Hh, pp, s, .int .i64 tu, .int .i64 le, .int .i64 sl, .int .i64 ra, .bool lost])) (hq : Sl H 2 q sc.length (prs sc)) (hsl : sc.length ≤ 1000000000) (hsB : cd sc = false) : ACalls Tryz.prog 18 [.ptr (some (bz, 0)), q] H (fun v H' => v = .int .i64 1 ∧ H' = H) := by
 obtain ⟨bpp, opp, cpp, rfl, hbpp⟩ := hpp
 have hblpp := getElem?_lt hbpp
 have hb0pp := fun l => aD (l := l) hbpp
 obtain ⟨bs, os, cs, rfl, hbs⟩ := hs
 have hbls := getElem?_lt hbs
 have hb0s := fun l => aD (l := l) hbs
 obtain ⟨bq, oq, cq, rfl, hbq⟩ := hq
 have hblq := getElem?_lt hbq
 have hb0q := fun l => aD (l := l) hbq
 obtain ⟨oz, hbz⟩ := hz
 have hblz := getElem?_lt hbz
 have hb0z := fun l => aD (l := l) hbz
 (refine bK Tryz.func18 _ rfl (Nat.le_of_ble_eq_true (by kernel_rfl)) rfl ?_; intro hbel Q hQ hQ' c hc; unfold Tryz.f18 at hc; simp only [Option.some.injEq] at hc; subst hc; clear hQ')
 refine aO fun Q1 hn1 hr1 he1 => ?_
 have hQ1 := fun F H' h => hr1 F H' (hQ F H' h)
 refine aI true try_mixed (by kernel_rfl) ?_
 simp -implicitDefEqProofs (disch := omega) only [hbpp, hb0pp, hbs, hb0s, hbq, hb0q, hbz, hb0z, hsB, Option.isNone_some.{0}, ar, ak, al, au, simprocAttr, ax, ay, Function.comp_apply, one1, lenV, af, am, ap, aop, AV.ofValue, AV.ofCell, AV.cells, AV.flat, AV.one, arep, aB, aw]
 repeat refine And.intro (by omega) ?_
 refine hn1 _ _ ?_
 refine aO fun Q2 hn2 hr2 he2 => ?_
 have hQ2 := fun F H' h => hr2 F H' (hQ F H' h)
 refine aI true try_mixed (by kernel_rfl) ?_
 simp -implicitDefEqProofs (disch := omega) only [hbpp, hb0pp, hbs, hb0s, hbq, hb0q, hbz, hb0z, hsB, Option.isNone_some.{0}, ar, ak, al, au, simprocAttr, ax, ay, Function.comp_apply, one1, lenV, af, am, ap, aop, AV.ofValue, AV.ofCell, AV.cells, AV.flat, AV.one, arep, aB, aw]
 repeat refine And.intro (by omega) ?_
 refine aj (by kernel_rfl) (gB _ _ sc ⟨_, _, _, rfl, by first | exact hb0q _ | exact hbq⟩ (by omega)) ?_
 simp -implicitDefEqProofs (disch := omega) only [hbpp, hb0pp, hbs, hb0s, hbq, hb0q, hbz, hb0z, hsB, Option.isNone_some.{0}, ar, ak, al, au, simprocAttr, ax, ay, Function.comp_apply, one1, lenV, af, am, ap, aop, AV.ofValue, AV.ofCell, AV.cells, AV.flat, AV.one, arep, aB, aw]
 repeat refine And.intro (by omega) ?_
 exact hQ2 _ _ (aE (.inl rfl) hbel (x := .int .i64 1) (av Tryz.results18) rfl ⟨rfl, rfl⟩)
theorem lse_s (H : ac) (W : Int) (Hh : Int) (pp : AV) (xs : List Int) (s : AV) (l : List T6) (tu : Int) (le : Int) (sl : Int) (ra : Int)  (bz : Nat) (q : AV) (sc : List (Int × Int)) (hpp : Sl H 1 pp xs.length (ints .u8 xs)) (hs : Sl H 6 s l.length (r6 l)) (hz : ∃ o, H[bz]? = some (.cells o 0 [.int .i64 W, .int .i64 Hh, pp, s, .int .i64 tu, .int .i64 le, .int .i64 sl, .int .i64 ra, .bool true])) (hq : Sl H 2 q sc.length (prs sc)) (hsl : sc.length ≤ 1000000000) (hsB : cd sc = true) : ACalls Tryz.prog 18 [.ptr (some (bz, 0)), q] H (fun v H' => v = .int .i64 9 ∧ H' = H) := by
 obtain ⟨bpp, opp, cpp, rfl, hbpp⟩ := hpp
 have hblpp := getElem?_lt hbpp
 have hb0pp := fun l => aD (l := l) hbpp
 obtain ⟨bs, os, cs, rfl, hbs⟩ := hs
 have hbls := getElem?_lt hbs
 have hb0s := fun l => aD (l := l) hbs
 obtain ⟨bq, oq, cq, rfl, hbq⟩ := hq
 have hblq := getElem?_lt hbq
 have hb0q := fun l => aD (l := l) hbq
 obtain ⟨oz, hbz⟩ := hz
 have hblz := getElem?_lt hbz
 have hb0z := fun l => aD (l := l) hbz
 (refine bK Tryz.func18 _ rfl (Nat.le_of_ble_eq_true (by kernel_rfl)) rfl ?_; intro hbel Q hQ hQ' c hc; unfold Tryz.f18 at hc; simp only [Option.some.injEq] at hc; subst hc; clear hQ')
 refine aO fun Q3 hn3 hr3 he3 => ?_
 have hQ3 := fun F H' h => hr3 F H' (hQ F H' h)
 refine aI true try_mixed (by kernel_rfl) ?_
 simp -implicitDefEqProofs (disch := omega) only [hbpp, hb0pp, hbs, hb0s, hbq, hb0q, hbz, hb0z, hsB, Option.isNone_some.{0}, ar, ak, al, au, simprocAttr, ax, ay, Function.comp_apply, one1, lenV, af, am, ap, aop, AV.ofValue, AV.ofCell, AV.cells, AV.flat, AV.one, arep, aB, aw]
 repeat refine And.intro (by omega) ?_
 refine hn3 _ _ ?_
 refine aO fun Q4 hn4 hr4 he4 => ?_
 have hQ4 := fun F H' h => hr4 F H' (hQ F H' h)
 refine aI true try_mixed (by kernel_rfl) ?_
 simp -implicitDefEqProofs (disch := omega) only [hbpp, hb0pp, hbs, hb0s, hbq, hb0q, hbz, hb0z, hsB, Option.isNone_some.{0}, ar, ak, al, au, simprocAttr, ax, ay, Function.comp_apply, one1, lenV, af, am, ap, aop, AV.ofValue, AV.ofCell, AV.cells, AV.flat, AV.one, arep, aB, aw]
 repeat refine And.intro (by omega) ?_
 refine aj (by kernel_rfl) (gB _ _ sc ⟨_, _, _, rfl, by first | exact hb0q _ | exact hbq⟩ (by omega)) ?_
 simp -implicitDefEqProofs (disch := omega) only [hbpp, hb0pp, hbs, hb0s, hbq, hb0q, hbz, hb0z, hsB, Option.isNone_some.{0}, ar, ak, al, au, simprocAttr, ax, ay, Function.comp_apply, one1, lenV, af, am, ap, aop, AV.ofValue, AV.ofCell, AV.cells, AV.flat, AV.one, arep, aB, aw]
 repeat refine And.intro (by omega) ?_
 exact hQ4 _ _ (aE (.inl rfl) hbel (x := .int .i64 9) (av Tryz.results18) rfl ⟨rfl, rfl⟩)
theorem lse_e (H : ac) (W : Int) (Hh : Int) (pp : AV) (xs : List Int) (s : AV) (l : List T6) (tu : Int) (le : Int) (sl : Int) (ra : Int)  (bz : Nat) (q : AV) (sc : List (Int × Int)) (hpp : Sl H 1 pp xs.length (ints .u8 xs)) (hs : Sl H 6 s l.length (r6 l)) (hz : H[bz]? = some (.cells true 0 [.int .i64 W, .int .i64 Hh, pp, s, .int .i64 tu, .int .i64 le, .int .i64 sl, .int .i64 ra, .bool false])) (hq : Sl H 2 q sc.length (prs sc)) (hV : b9 W Hh xs = true) (hS : bU l = true) (hl0 : 0 < l.length) (hsB : cd sc = true) (hg : 1 ≤ ra ∧ ra ≤ 32) (hRn : (bB W Hh xs l sc ra 32).length = 0) : ACalls Tryz.prog 18 [.ptr (some (bz, 0)), q] H (fun v H' => v = .int .i64 12 ∧ H' = H.set bz (.cells true 0 [.int .i64 W, .int .i64 Hh, pp, s, .int .i64 tu, .int .i64 le, .int .i64 sl, .int .i64 ra, .bool true])) := by
 obtain ⟨bpp, opp, cpp, rfl, hbpp⟩ := hpp
 have hblpp := getElem?_lt hbpp
 have hb0pp := fun l => aD (l := l) hbpp
 obtain ⟨bs, os, cs, rfl, hbs⟩ := hs
 have hbls := getElem?_lt hbs
 have hb0s := fun l => aD (l := l) hbs
 obtain ⟨bq, oq, cq, rfl, hbq⟩ := hq
 have hblq := getElem?_lt hbq
 have hb0q := fun l => aD (l := l) hbq
 have hbz := hz
 have hblz := getElem?_lt hbz
 have hb0z := fun l => aD (l := l) hbz
 have hVV := cg.1 hV
 have hSS := bX.1 hS
 have hss := dG.1 hsB
 have hsc9 := hss.1
 have hx6 : xs.length ≤ 1000000 := by have h4 := hVV.len; have := Int.mul_le_mul hVV.w1 hVV.h1 (by have := hVV.h0; omega) (by decide); omega
 have hok : (∀ b ∈ bB W Hh xs l sc ra 32, bG b = true) ∧ (bB W Hh xs l sc ra 32).length ≤ l.length + 32 + ([] : List T6).length := gA (xs := xs) (s := sc) (g := ra) ⟨hVV.w0, hVV.w1⟩ ⟨hVV.h0, hVV.h1⟩ (l.length + 2 * 32) l 32 [] rfl hSS.2 (fun b hb => by cases hb)
 have hR6 : (bB W Hh xs l sc ra 32).length ≤ 64 := by have h1 := hok.2; simp only [List.length_nil] at h1; have h2 := hSS.1; omega
 have hRv := hok.1
 (refine bK Tryz.func18 _ rfl (Nat.le_of_ble_eq_true (by kernel_rfl)) rfl ?_; intro hbel Q hQ hQ' c hc; unfold Tryz.f18 at hc; simp only [Option.some.injEq] at hc; subst hc; clear hQ')
 refine aO fun Q5 hn5 hr5 he5 => ?_
 have hQ5 := fun F H' h => hr5 F H' (hQ F H' h)
 refine aI false try_mixed (by kernel_rfl) ?_
 simp -implicitDefEqProofs (disch := omega) only [hbpp, hb0pp, hbs, hb0s, hbq, hb0q, hbz, hb0z, hsB, Option.isNone_some.{0}, ar, ak, al, au, simprocAttr, ax, ay, Function.comp_apply, one1, lenV, af, am, ap, aop, AV.ofValue, AV.ofCell, AV.cells, AV.flat, AV.one, arep, aB, aw]
 repeat refine And.intro (by omega) ?_
 refine hn5 _ _ ?_
 refine aO fun Q6 hn6 hr6 he6 => ?_
 have hQ6 := fun F H' h => hr6 F H' (hQ F H' h)
 refine aI false try_mixed (by kernel_rfl) ?_
 simp -implicitDefEqProofs (disch := omega) only [hbpp, hb0pp, hbs, hb0s, hbq, hb0q, hbz, hb0z, hsB, Option.isNone_some.{0}, ar, ak, al, au, simprocAttr, ax, ay, Function.comp_apply, one1, lenV, af, am, ap, aop, AV.ofValue, AV.ofCell, AV.cells, AV.flat, AV.one, arep, aB, aw]
 repeat refine And.intro (by omega) ?_
 refine aj (by kernel_rfl) (gB _ _ sc ⟨_, _, _, rfl, by first | exact hb0q _ | exact hbq⟩ (by omega)) ?_
 simp -implicitDefEqProofs (disch := omega) only [hbpp, hb0pp, hbs, hb0s, hbq, hb0q, hbz, hb0z, hsB, Option.isNone_some.{0}, ar, ak, al, au, simprocAttr, ax, ay, Function.comp_apply, one1, lenV, af, am, ap, aop, AV.ofValue, AV.ofCell, AV.cells, AV.flat, AV.one, arep, aB, aw]
 repeat refine And.intro (by omega) ?_
 refine hn6 _ _ ?_
 refine aO fun Q7 hn7 hr7 he7 => ?_
 have hQ7 := fun F H' h => hr7 F H' (hQ F H' h)
 refine aI false try_mixed (by kernel_rfl) ?_
 simp -implicitDefEqProofs (disch := omega) only [hbpp, hb0pp, hbs, hb0s, hbq, hb0q, hbz, hb0z, hsB, Option.isNone_some.{0}, ar, ak, al, au, simprocAttr, ax, ay, Function.comp_apply, one1, lenV, af, am, ap, aop, AV.ofValue, AV.ofCell, AV.cells, AV.flat, AV.one, arep, aB, aw]
 repeat refine And.intro (by omega) ?_
 refine bL (by kernel_rfl) (by simp) (kr _ W Hh _ xs _ l _ sc ra 32 ⟨_, _, _, rfl, by first | exact hb0pp _ | exact hbpp⟩ ⟨_, _, _, rfl, by first | exact hb0s _ | exact hbs⟩ ⟨_, _, _, rfl, by first | exact hb0q _ | exact hbq⟩ (by assumption) (by assumption) (by assumption) (by assumption) (by assumption) (by omega)) ?_
 simp -implicitDefEqProofs (disch := omega) only [hbpp, hb0pp, hbs, hb0s, hbq, hb0q, hbz, hb0z, hsB, Option.isNone_some.{0}, ar, ak, al, au, simprocAttr, ax, ay, Function.comp_apply, one1, lenV, af, am, ap, aop, AV.ofValue, AV.ofCell, AV.cells, AV.flat, AV.one, arep, aB, aw]
 repeat refine And.intro (by omega) ?_
 refine hn7 _ _ ?_
 refine aO fun Q8 hn8 hr8 he8 => ?_
 have hQ8 := fun F H' h => hr8 F H' (hQ F H' h)
 refine aI false try_mixed (by kernel_rfl) ?_
 simp -implicitDefEqProofs (disch := omega) only [hbpp, hb0pp, hbs, hb0s, hbq, hb0q, hbz, hb0z, hsB, Option.isNone_some.{0}, ar, ak, al, au, simprocAttr, ax, ay, Function.comp_apply, one1, lenV, af, am, ap, aop, AV.ofValue, AV.ofCell, AV.cells, AV.flat, AV.one, arep, aB, aw]
 repeat refine And.intro (by omega) ?_
 refine aq (fun h1 => ?_) (fun h1 => ?_)
 ·have h1d := bsT h1
  have h1n := bnT h1
  simp -implicitDefEqProofs (disch := omega) only [hbpp, hb0pp, hbs, hb0s, hbq, hb0q, hbz, hb0z, h1, h1n, aT, aS, hblz, ep, eQ, fv, eM, fJ, gC, fK, gD, List.length_set, List.set_set, hsB, Option.isNone_some.{0}, ar, ak, al, au, simprocAttr, ax, ay, Function.comp_apply, one1, lenV, af, am, ap, aop, AV.ofValue, AV.ofCell, AV.cells, AV.flat, AV.one, arep, aB, aw]
  repeat refine And.intro (by omega) ?_
  refine hQ8 _ _ (hI (b1 := .cells true 0 [.int .i64 W, .int .i64 Hh, .sl (some (bpp, 0)) xs.length cpp, .sl (some (bs, 0)) l.length cs, .int .i64 tu, .int .i64 le, .int .i64 sl, .int .i64 ra, .bool true]) (.cells true 0 [.int .i64 W, .int .i64 Hh, .sl (some (bpp, 0)) xs.length cpp, .sl (some (bs, 0)) l.length cs, .int .i64 tu, .int .i64 le, .int .i64 sl, .int .i64 ra, .bool true]) (l1 := [.cells (bm (bB W Hh xs l sc ra 32).length) 6 (r6 (bB W Hh xs l sc ra 32))]) (l2 := []) (.inl rfl) hbel hblz (by first | rfl | simp) (x1 := .int .i64 12) (.int .i64 12) (av Tryz.results18) [] rfl [] (by decide) ⟨rfl, List.append_nil _⟩ ?_)
  exact bl (jn @hblpp (jn @hbls (jn @hblz @hblq)))
 ·have h1d := bsT h1
  have h1n := bnT h1
  simp [hRn] at h1d
open Go.RowKit
theorem tY (H : ac) (W Hh : Int) (pp : AV) (xs : List Int) (s : AV) (l : List T6) (q : AV) (sc : List (Int × Int)) (g : Int) (hpp : Sl H 1 pp xs.length (ints .u8 xs)) (hs : Sl H 6 s l.length (r6 l)) (hq : Sl H 2 q sc.length (prs sc)) (hR : cV W Hh xs l sc g = true) (ho : lnO W Hh xs l sc g = none) :
  ACalls Tryz.prog 56 [.agg [.int .i64 W, .int .i64 Hh, pp], s, q, .int .i64 g] H (fun v H' => v = .tup [.agg [.int .i64 0, .int .i64 0, .sl (some (H.length, 0)) ([] : List Int).length none], .int .i64 11] ∧ H' = H ++ [.cells (bm ([] : List Int).length) 1 (ints .u8 ([] : List Int))]) := by
 obtain ⟨hV, hl0, hS, hsB, hg⟩ := eI.1 hR
 have k := learn_c H W Hh pp xs s l q sc g hpp hs hq (by have := fk hS; omega) (by have := (dG.1 hsB).1; omega)
 have e1 : lnE W Hh xs l sc g = 11 := by unfold lnE; rw [if_pos hR, ho]
 have e2 : lnX W Hh xs l sc g = [] := by unfold lnX; rw [if_pos hR, ho]; rfl
 have e3 : ∀ n, lnZ W Hh xs l sc g n = 0 := fun n => if_neg (by rw [e1]; decide)
 rw [e1, e2, e3, e3] at k
 exact k
theorem lse_l (H : ac) (W : Int) (Hh : Int) (pp : AV) (xs : List Int) (s : AV) (l : List T6) (tu : Int) (le : Int) (sl : Int) (ra : Int)  (bz : Nat) (q : AV) (sc : List (Int × Int)) (hpp : Sl H 1 pp xs.length (ints .u8 xs)) (hs : Sl H 6 s l.length (r6 l)) (hz : H[bz]? = some (.cells true 0 [.int .i64 W, .int .i64 Hh, pp, s, .int .i64 tu, .int .i64 le, .int .i64 sl, .int .i64 ra, .bool false])) (hq : Sl H 2 q sc.length (prs sc)) (hV : b9 W Hh xs = true) (hS : bU l = true) (hl0 : 0 < l.length) (hsB : cd sc = true) (hg : 1 ≤ ra ∧ ra ≤ 32) (hR0 : 0 < (bB W Hh xs l sc ra 32).length) (ho : lnO W Hh xs (cpL (bB W Hh xs l sc ra 32)) sc ra = none) : ACalls Tryz.prog 18 [.ptr (some (bz, 0)), q] H (fun v H' => v = .int .i64 11 ∧ H' = H.set bz (.cells true 0 [.int .i64 W, .int .i64 Hh, pp, s, .int .i64 tu, .int .i64 le, .int .i64 sl, .int .i64 ra, .bool true])) := by
 obtain ⟨bpp, opp, cpp, rfl, hbpp⟩ := hpp
 have hblpp := getElem?_lt hbpp
 have hb0pp := fun l => aD (l := l) hbpp
 obtain ⟨bs, os, cs, rfl, hbs⟩ := hs
 have hbls := getElem?_lt hbs
 have hb0s := fun l => aD (l := l) hbs
 obtain ⟨bq, oq, cq, rfl, hbq⟩ := hq
 have hblq := getElem?_lt hbq
 have hb0q := fun l => aD (l := l) hbq
 have hbz := hz
 have hblz := getElem?_lt hbz
 have hb0z := fun l => aD (l := l) hbz
 have hVV := cg.1 hV
 have hSS := bX.1 hS
 have hss := dG.1 hsB
 have hsc9 := hss.1
 have hx6 : xs.length ≤ 1000000 := by have h4 := hVV.len; have := Int.mul_le_mul hVV.w1 hVV.h1 (by have := hVV.h0; omega) (by decide); omega
 have hok : (∀ b ∈ bB W Hh xs l sc ra 32, bG b = true) ∧ (bB W Hh xs l sc ra 32).length ≤ l.length + 32 + ([] : List T6).length := gA (xs := xs) (s := sc) (g := ra) ⟨hVV.w0, hVV.w1⟩ ⟨hVV.h0, hVV.h1⟩ (l.length + 2 * 32) l 32 [] rfl hSS.2 (fun b hb => by cases hb)
 have hR6 : (bB W Hh xs l sc ra 32).length ≤ 64 := by have h1 := hok.2; simp only [List.length_nil] at h1; have h2 := hSS.1; omega
 have hRv := hok.1
 have hcp := cpL_ok hR0 hRv
 have hcS := hcp.1
 have hc0 := hcp.2
 have hc16 := (bX.1 hcS).1
 have hRg : cV W Hh xs (cpL (bB W Hh xs l sc ra 32)) sc ra = true := eI.2 ⟨hV, hc0, hcS, hsB, hg⟩
 (refine bK Tryz.func18 _ rfl (Nat.le_of_ble_eq_true (by kernel_rfl)) rfl ?_; intro hbel Q hQ hQ' c hc; unfold Tryz.f18 at hc; simp only [Option.some.injEq] at hc; subst hc; clear hQ')
 refine aO fun Q1 hn1 hr1 he1 => ?_
 have hQ1 := fun F H' h => hr1 F H' (hQ F H' h)
 refine aI false try_mixed (by kernel_rfl) ?_
 simp -implicitDefEqProofs (disch := omega) only [hbpp, hb0pp, hbs, hb0s, hbq, hb0q, hbz, hb0z, hsB, Option.isNone_some.{0}, ar, ak, al, au, simprocAttr, ax, ay, Function.comp_apply, one1, lenV, af, am, ap, aop, AV.ofValue, AV.ofCell, AV.cells, AV.flat, AV.one, arep, aB, aw]
 repeat refine And.intro (by omega) ?_
 refine hn1 _ _ ?_
 refine aO fun Q2 hn2 hr2 he2 => ?_
 have hQ2 := fun F H' h => hr2 F H' (hQ F H' h)
 refine aI false try_mixed (by kernel_rfl) ?_
 simp -implicitDefEqProofs (disch := omega) only [hbpp, hb0pp, hbs, hb0s, hbq, hb0q, hbz, hb0z, hsB, Option.isNone_some.{0}, ar, ak, al, au, simprocAttr, ax, ay, Function.comp_apply, one1, lenV, af, am, ap, aop, AV.ofValue, AV.ofCell, AV.cells, AV.flat, AV.one, arep, aB, aw]
 repeat refine And.intro (by omega) ?_
 refine aj (by kernel_rfl) (gB _ _ sc ⟨_, _, _, rfl, by first | exact hb0q _ | exact hbq⟩ (by omega)) ?_
 simp -implicitDefEqProofs (disch := omega) only [hbpp, hb0pp, hbs, hb0s, hbq, hb0q, hbz, hb0z, hsB, Option.isNone_some.{0}, ar, ak, al, au, simprocAttr, ax, ay, Function.comp_apply, one1, lenV, af, am, ap, aop, AV.ofValue, AV.ofCell, AV.cells, AV.flat, AV.one, arep, aB, aw]
 repeat refine And.intro (by omega) ?_
 refine hn2 _ _ ?_
 refine aO fun Q3 hn3 hr3 he3 => ?_
 have hQ3 := fun F H' h => hr3 F H' (hQ F H' h)
 refine aI false try_mixed (by kernel_rfl) ?_
 simp -implicitDefEqProofs (disch := omega) only [hbpp, hb0pp, hbs, hb0s, hbq, hb0q, hbz, hb0z, hsB, Option.isNone_some.{0}, ar, ak, al, au, simprocAttr, ax, ay, Function.comp_apply, one1, lenV, af, am, ap, aop, AV.ofValue, AV.ofCell, AV.cells, AV.flat, AV.one, arep, aB, aw]
 repeat refine And.intro (by omega) ?_
 refine bL (by kernel_rfl) (by simp) (kr _ W Hh _ xs _ l _ sc ra 32 ⟨_, _, _, rfl, by first | exact hb0pp _ | exact hbpp⟩ ⟨_, _, _, rfl, by first | exact hb0s _ | exact hbs⟩ ⟨_, _, _, rfl, by first | exact hb0q _ | exact hbq⟩ (by assumption) (by assumption) (by assumption) (by assumption) (by assumption) (by omega)) ?_
 simp -implicitDefEqProofs (disch := omega) only [hbpp, hb0pp, hbs, hb0s, hbq, hb0q, hbz, hb0z, hsB, Option.isNone_some.{0}, ar, ak, al, au, simprocAttr, ax, ay, Function.comp_apply, one1, lenV, af, am, ap, aop, AV.ofValue, AV.ofCell, AV.cells, AV.flat, AV.one, arep, aB, aw]
 repeat refine And.intro (by omega) ?_
 refine hn3 _ _ ?_
 refine aO fun Q4 hn4 hr4 he4 => ?_
 have hQ4 := fun F H' h => hr4 F H' (hQ F H' h)
 refine aI false try_mixed (by kernel_rfl) ?_
 simp -implicitDefEqProofs (disch := omega) only [hbpp, hb0pp, hbs, hb0s, hbq, hb0q, hbz, hb0z, hsB, Option.isNone_some.{0}, ar, ak, al, au, simprocAttr, ax, ay, Function.comp_apply, one1, lenV, af, am, ap, aop, AV.ofValue, AV.ofCell, AV.cells, AV.flat, AV.one, arep, aB, aw]
 repeat refine And.intro (by omega) ?_
 refine aq (fun h1 => ?_) (fun h1 => ?_)
 ·have h1d := bsT h1
  have h1n := bnT h1
  omega
 ·have h1d := bsT h1
  have h1n := bnT h1
  simp -implicitDefEqProofs (disch := omega) only [hbpp, hb0pp, hbs, hb0s, hbq, hb0q, hbz, hb0z, h1, h1n, aT, aS, hsB, Option.isNone_some.{0}, ar, ak, al, au, simprocAttr, ax, ay, Function.comp_apply, one1, lenV, af, am, ap, aop, AV.ofValue, AV.ofCell, AV.cells, AV.flat, AV.one, arep, aB, aw]
  repeat refine And.intro (by omega) ?_
  refine hn4 _ _ ?_
  refine aO fun Q5 hn5 hr5 he5 => ?_
  have hQ5 := fun F H' h => hr5 F H' (hQ F H' h)
  refine aI false try_mixed (by kernel_rfl) ?_
  simp -implicitDefEqProofs (disch := omega) only [hbpp, hb0pp, hbs, hb0s, hbq, hb0q, hbz, hb0z, h1, h1n, aT, aS, hsB, Option.isNone_some.{0}, ar, ak, al, au, simprocAttr, ax, ay, Function.comp_apply, one1, lenV, af, am, ap, aop, AV.ofValue, AV.ofCell, AV.cells, AV.flat, AV.one, arep, aB, aw]
  repeat refine And.intro (by omega) ?_
  refine aj (by kernel_rfl) (comp_c _ _ (bB W Hh xs l sc ra 32) ⟨_, _, _, by first | rfl | (rw [List.length_append]; done) | (rw [List.length_append]; rfl), by first | rfl | (rw [ah]; rfl) | (rw [ae]; rfl) | (rw [ah, ag]; rfl) | (rw [ae, ag]; rfl)⟩ (by omega) (by assumption) (by assumption)) ?_
  simp -implicitDefEqProofs (disch := omega) only [hbpp, hb0pp, hbs, hb0s, hbq, hb0q, hbz, hb0z, h1, h1n, aT, aS, hsB, Option.isNone_some.{0}, ar, ak, al, au, simprocAttr, ax, ay, Function.comp_apply, one1, lenV, af, am, ap, aop, AV.ofValue, AV.ofCell, AV.cells, AV.flat, AV.one, arep, aB, aw]
  repeat refine And.intro (by omega) ?_
  refine hn5 _ _ ?_
  refine cm false try_mixed [[0, 1, 2, 3, 4, 5, 6, 7, 8, 9, 10, 11, 12, 13, 14, 15, 16, 17], [0, 1, 2, 3, 4, 5, 6, 7, 8, 9, 10, 15, 11, 12, 13, 14, 16, 17]] (by kernel_rfl) (fun F2 H2 => F2 = [(0, .ptr (some (bz, 0))), (4, .int .i64 0), (5, .sl (some (H.length, 0)) ((cpL (bB W Hh xs l sc ra 32)).length) none), (7, .ptr (some (H.length + 2, 0))), (8, .int .i64 11)] ∧ H2 = H ++ [.cells true 6 (r6 (cpL (bB W Hh xs l sc ra 32))), .cells (bm ([] : List Int).length) 1 (ints .u8 ([] : List Int)), .cells true 0 [.int .i64 0, .int .i64 0, .sl (some (H.length + 1, 0)) (([] : List Int).length) none]]) ?_ ?_
  ·refine aR ?_ (aR ?_ (cn)) <;> intro J hJ
   ·skip
    simp -implicitDefEqProofs (disch := omega) only [hbpp, hb0pp, hbs, hb0s, hbq, hb0q, hbz, hb0z, h1, h1n, aT, aS, dx, hsB, Option.isNone_some.{0}, ar, ak, al, au, simprocAttr, ax, ay, Function.comp_apply, one1, lenV, af, am, ap, aop, AV.ofValue, AV.ofCell, AV.cells, AV.flat, AV.one, arep, aB, aw]
    repeat refine And.intro (by omega) ?_
    refine bL (by kernel_rfl) (by simp) (tY _ W Hh _ xs _ (cpL (bB W Hh xs l sc ra 32)) _ sc ra ⟨_, _, _, rfl, by first | exact hb0pp _ | exact hbpp⟩ ⟨_, _, _, by first | rfl | (rw [List.length_append]; done) | (rw [List.length_append]; rfl), by first | rfl | (rw [ah]; rfl) | (rw [ae]; rfl) | (rw [ah, ag]; rfl) | (rw [ae, ag]; rfl)⟩ ⟨_, _, _, rfl, by first | exact hb0q _ | exact hbq⟩ (by assumption) (by assumption)) ?_
    simp -implicitDefEqProofs (disch := omega) only [hbpp, hb0pp, hbs, hb0s, hbq, hb0q, hbz, hb0z, h1, h1n, aT, aS, dx, hsB, Option.isNone_some.{0}, ar, ak, al, au, simprocAttr, ax, ay, Function.comp_apply, one1, lenV, af, am, ap, aop, AV.ofValue, AV.ofCell, AV.cells, AV.flat, AV.one, arep, aB, aw]
    repeat refine And.intro (by omega) ?_
    refine aZ (hJ _ _ ⟨_, _, _, ⟨rfl, rfl⟩, Abs.byG hbel [] rfl [1, 2, 3] (by decide) ?_⟩)
    exact aN (jn @bg (jn @be (jn @bt @bo)))
   ·skip
    simp -implicitDefEqProofs (disch := omega) only [hbpp, hb0pp, hbs, hb0s, hbq, hb0q, hbz, hb0z, h1, h1n, aT, aS, dx, hsB, Option.isNone_some.{0}, ar, ak, al, au, simprocAttr, ax, ay, Function.comp_apply, one1, lenV, af, am, ap, aop, AV.ofValue, AV.ofCell, AV.cells, AV.flat, AV.one, arep, aB, aw]
    repeat refine And.intro (by omega) ?_
    refine bL (by kernel_rfl) (by simp) (tY _ W Hh _ xs _ (cpL (bB W Hh xs l sc ra 32)) _ sc ra ⟨_, _, _, rfl, by first | exact hb0pp _ | exact hbpp⟩ ⟨_, _, _, by first | rfl | (rw [List.length_append]; done) | (rw [List.length_append]; rfl), by first | rfl | (rw [ah]; rfl) | (rw [ae]; rfl) | (rw [ah, ag]; rfl) | (rw [ae, ag]; rfl)⟩ ⟨_, _, _, rfl, by first | exact hb0q _ | exact hbq⟩ (by assumption) (by assumption)) ?_
    simp -implicitDefEqProofs (disch := omega) only [hbpp, hb0pp, hbs, hb0s, hbq, hb0q, hbz, hb0z, h1, h1n, aT, aS, dx, hsB, Option.isNone_some.{0}, ar, ak, al, au, simprocAttr, ax, ay, Function.comp_apply, one1, lenV, af, am, ap, aop, AV.ofValue, AV.ofCell, AV.cells, AV.flat, AV.one, arep, aB, aw]
    repeat refine And.intro (by omega) ?_
    refine aZ (hJ _ _ ⟨_, _, _, ⟨rfl, rfl⟩, Abs.byG hbel [] rfl [1, 3, 2] (by decide) ?_⟩)
    exact aN (jn @bg (jn @be (jn @bt @bo)))
  rintro F2 H2 ⟨rfl, rfl⟩
  refine aO fun Q6 hn6 hr6 he6 => ?_
  have hQ6 := fun F H' h => hr6 F H' (hQ F H' h)
  refine aI false try_mixed (by kernel_rfl) ?_
  simp -implicitDefEqProofs (disch := omega) only [hbpp, hb0pp, hbs, hb0s, hbq, hb0q, hbz, hb0z, h1, h1n, aT, aS, aL, aY, aK, aJ, hblz, ep, eQ, fv, eM, fJ, gC, fK, gD, List.length_set, List.set_set, hsB, Option.isNone_some.{0}, ar, ak, al, au, simprocAttr, ax, ay, Function.comp_apply, one1, lenV, af, am, ap, aop, AV.ofValue, AV.ofCell, AV.cells, AV.flat, AV.one, arep, aB, aw]
  repeat refine And.intro (by omega) ?_
  refine hQ6 _ _ (hI (b1 := .cells true 0 [.int .i64 W, .int .i64 Hh, .sl (some (bpp, 0)) xs.length cpp, .sl (some (bs, 0)) l.length cs, .int .i64 tu, .int .i64 le, .int .i64 sl, .int .i64 ra, .bool true]) (.cells true 0 [.int .i64 W, .int .i64 Hh, .sl (some (bpp, 0)) xs.length cpp, .sl (some (bs, 0)) l.length cs, .int .i64 tu, .int .i64 le, .int .i64 sl, .int .i64 ra, .bool true]) (l1 := [.cells true 6 (r6 (cpL (bB W Hh xs l sc ra 32))), .cells (bm ([] : List Int).length) 1 (ints .u8 ([] : List Int)), .cells true 0 [.int .i64 0, .int .i64 0, .sl (some (H.length + 1, 0)) (([] : List Int).length) none]]) (l2 := []) (.inl rfl) hbel hblz (by first | rfl | simp) (x1 := .int .i64 11) (.int .i64 11) (av Tryz.results18) [] rfl [] (by decide) ⟨rfl, List.append_nil _⟩ ?_)
  exact bl (jn @hblpp (jn @hbls (jn @hblz @hblq)))
open Go.RowKit
theorem lrnF_v {W H : Int} : ∀ {l : List (Int × Int)} {o q : List Int}, d3 W H l o = some q → (∀ v ∈ o, v ≤ 2) → q.length = o.length ∧ ∀ v ∈ q, v ≤ 2
 | [], o, q, h, ho => by unfold d3 at h; cases h; exact ⟨rfl, ho⟩
 | c :: l, o, q, h, ho => by
  unfold d3 at h
  split at h
  ·cases h
  ·have ih := lrnF_v h (fun v hv => (List.mem_or_eq_of_mem_set hv).elim (ho v) (fun e => by omega))
   exact ⟨by rw [ih.1, List.length_set], ih.2⟩
theorem lE {W H : Int} : ∀ {l : List (List (Int × Int))} {o q : List Int}, dr W H l o = some q → (∀ v ∈ o, v ≤ 2) → q.length = o.length ∧ ∀ v ∈ q, v ≤ 2
 | [], o, q, h, ho => by unfold dr at h; cases h; exact ⟨rfl, ho⟩
 | s :: l, o, q, h, ho => by
  unfold dr at h
  split at h
  ·cases h
  ·rename_i c hc
   split at h
   ·have ih := lE h (fun v hv => (List.mem_or_eq_of_mem_set hv).elim (ho v) (fun e => by omega))
    exact ⟨by rw [ih.1, List.length_set], ih.2⟩
   ·exact lE h ho
  ·exact lE h ho
theorem ln_v {W Hh : Int} {xs o : List Int} {l : List T6} {sc : List (Int × Int)} {g : Int} (hV : b9 W Hh xs = true) (h : lnO W Hh xs l sc g = some o) : b9 W Hh o = true ∧ o.length = xs.length := by
 obtain ⟨a, b, c, d, e, f⟩ := cg.1 hV
 have key : o.length = xs.length ∧ ∀ v ∈ o, v ≤ 2 := by
  unfold lnO at h
  split at h
  ·cases hq : d3 W Hh (aW W Hh l sc g) xs with
   | none => rw [hq] at h; cases h
   | some q =>
    rw [hq] at h
    have h' : dr W Hh (fP l sc g) q = some o := h
    have k1 := lrnF_v hq f
    have k2 := lE h' k1.2
    exact ⟨by rw [k2.1, k1.1], k2.2⟩
  ·cases h; exact ⟨rfl, f⟩
 exact ⟨cg.2 ⟨a, b, c, d, by rw [key.1]; exact e, key.2⟩, key.1⟩
structure Ev where
 k : Int
 t : Int
 g : Int
 st : Bool
 s : AV
 sc : List (Int × Int)
 x : Int
 y : Int
 h : Int
def evC (e : Ev) : List AV := [.int .i64 e.k, .int .i64 e.t, .int .i64 e.g, .bool e.st, e.s, .int .i64 e.x, .int .i64 e.y, .int .i64 e.h]
def evR (l : List Ev) : List AV := l.flatMap evC
def evG (l : List Ev) (j : Nat) : Ev := l.getD j ⟨0, 0, 0, false, .any, [], 0, 0, 0⟩
def evOk (H : ac) (l : List Ev) : Prop := ∀ e ∈ l, Sl H 2 e.s e.sc.length (prs e.sc) ∧ e.sc.length ≤ maxLen
theorem evR_cons {p : Ev} {l : List Ev} : evR (p :: l) = evC p ++ evR l := rfl
theorem kx : ∀ (a b : List AV) (n : Nat), (a ++ b).drop (a.length + n) = b.drop n
 | [], b, n => by simp
 | x :: a, b, n => by rw [List.length_cons, show a.length + 1 + n = (a.length + n) + 1 by omega]; exact kx a b n
theorem evG_mem {l : List Ev} {j : Nat} (h : j < l.length) : evG l j ∈ l := by
 unfold evG
 rw [List.getD_eq_getElem?_getD, List.getElem?_eq_getElem h]
 exact List.getElem_mem h
theorem evOk.at {H : ac} {l : List Ev} {j : Nat} (k : evOk H l) (h : j < l.length) : ∃ b o c, (evG l j).s = .sl (some (b, 0)) (evG l j).sc.length c ∧ H[b]? = some (.cells o 2 (prs (evG l j).sc)) := by
 obtain ⟨b, o, c, e1, e2⟩ := (k _ (evG_mem h)).1
 exact ⟨b, o, c, e1, e2⟩
theorem evOk.len {H : ac} {l : List Ev} {j : Nat} (k : evOk H l) (h : j < l.length) : (evG l j).sc.length ≤ 9223372036854775807 := by
 have q := (k _ (evG_mem h)).2
 unfold maxLen at q; exact q
theorem rows_ev {P : Program} {H : ac} {n : Nat} {ti tb ts te u v : TypeId} (hi : P.underlying ti = some (.int .i64)) (hb : P.underlying tb = some .bool) (hs : P.underlying ts = some (.slice te)) (hu : P.underlying u = some (.int .i64)) (hv : P.underlying v = some (.int .i64)) (hl : bI P (n + 1) te = some [u, v]) : ∀ rows : List (List AV), (∀ r : List AV, r ∈ rows → RTy P H (n + 2) [ti, ti, ti, tb, ts, ti, ti, ti] r) → ∃ l : List Ev, l.length = rows.length ∧ rows.flatten = evR l ∧ evOk H l
 | [], _ => ⟨[], rfl, rfl, fun e h => by cases h⟩
 | r :: rows, h => by
  obtain ⟨l, q1, q2, q3⟩ := rows_ev hi hb hs hu hv hl rows fun r' hr => h r' (by simp [hr])
  have hr := h r (by simp)
  obtain ⟨y1, r', rfl, hy1, hr⟩ := hr.cons
  obtain ⟨y2, r', rfl, hy2, hr⟩ := hr.cons
  obtain ⟨y3, r', rfl, hy3, hr⟩ := hr.cons
  obtain ⟨y4, r', rfl, hy4, hr⟩ := hr.cons
  obtain ⟨y5, r', rfl, hy5, hr⟩ := hr.cons
  obtain ⟨y6, r', rfl, hy6, hr⟩ := hr.cons
  obtain ⟨y7, r', rfl, hy7, hr⟩ := hr.cons
  obtain ⟨y8, r', rfl, hy8, hr⟩ := hr.cons
  obtain rfl := hr.nil
  obtain ⟨z1, rfl, -⟩ := hy1.int hi
  obtain ⟨z2, rfl, -⟩ := hy2.int hi
  obtain ⟨z3, rfl, -⟩ := hy3.int hi
  obtain ⟨z4, rfl⟩ := hy4.bool hb
  obtain ⟨sc, k1, k2, -⟩ := hy5.pairsU hs hu hv hl
  obtain ⟨z6, rfl, -⟩ := hy6.int hi
  obtain ⟨z7, rfl, -⟩ := hy7.int hi
  obtain ⟨z8, rfl, -⟩ := hy8.int hi
  refine ⟨⟨z1, z2, z3, z4, y5, sc, z6, z7, z8⟩ :: l, by simp [q1], by rw [evR_cons, List.flatten_cons, q2]; rfl, fun e he => ?_⟩
  rcases List.mem_cons.1 he with rfl | he
  ·exact ⟨k1, k2⟩
  ·exact q3 e he
theorem LTy.evs {P : Program} {H : ac} {n : Nat} {t e ti tb ts te u v : TypeId} {x : AV} (ht : P.underlying t = some (.slice e)) (hle : bI P (n + 2) e = some [ti, ti, ti, tb, ts, ti, ti, ti]) (hi : P.underlying ti = some (.int .i64)) (hb : P.underlying tb = some .bool) (hs : P.underlying ts = some (.slice te)) (hu : P.underlying u = some (.int .i64)) (hv : P.underlying v = some (.int .i64)) (hl : bI P (n + 1) te = some [u, v]) (h : LTy P H (n + 3) t x) :
  ∃ l : List Ev, Sl H 8 x l.length (evR l) ∧ l.length ≤ maxLen ∧ evOk H l := by
 obtain ⟨b, rows, rfl, k1, k2, k3⟩ := h.slice ht hle
 obtain ⟨l, q1, q2, q3⟩ := rows_ev hi hb hs hu hv hl rows k3
 exact ⟨l, ⟨b, false, none, by rw [q1], by rw [← q2]; exact k2⟩, by omega, q3⟩
open Go.RowKit
theorem lse_y (H : ac) (W : Int) (Hh : Int) (pp : AV) (xs : List Int) (s : AV) (l : List T6) (tu : Int) (le : Int) (sl : Int) (ra : Int)  (bz : Nat) (q : AV) (sc : List (Int × Int)) (hpp : Sl H 1 pp xs.length (ints .u8 xs)) (hs : Sl H 6 s l.length (r6 l)) (hz : H[bz]? = some (.cells true 0 [.int .i64 W, .int .i64 Hh, pp, s, .int .i64 tu, .int .i64 le, .int .i64 sl, .int .i64 ra, .bool false])) (hq : Sl H 2 q sc.length (prs sc)) (hV : b9 W Hh xs = true) (hS : bU l = true) (hl0 : 0 < l.length) (hsB : cd sc = true) (hg : 1 ≤ ra ∧ ra ≤ 32) (hR0 : 0 < (bB W Hh xs l sc ra 32).length) (o : List Int) (ho : lnO W Hh xs (cpL (bB W Hh xs l sc ra 32)) sc ra = some o) (ho0 : 0 < o.length) : ACalls Tryz.prog 18 [.ptr (some (bz, 0)), q] H (fun v H' => v = .int .i64 0 ∧ H' = H.set bz (.cells true 0 [.int .i64 W, .int .i64 Hh, .sl (some (H.length, 0)) o.length none, .sl (some (H.length + 1, 0)) ((cpL (bB W Hh xs l sc ra 32)).length) none, .int .i64 tu, .int .i64 le, .int .i64 sl, .int .i64 ra, .bool false]) ++ [.cells true 1 (ints .u8 o), .cells true 6 (r6 (cpL (bB W Hh xs l sc ra 32)))]) := by
 obtain ⟨bpp, opp, cpp, rfl, hbpp⟩ := hpp
 have hblpp := getElem?_lt hbpp
 have hb0pp := fun l => aD (l := l) hbpp
 obtain ⟨bs, os, cs, rfl, hbs⟩ := hs
 have hbls := getElem?_lt hbs
 have hb0s := fun l => aD (l := l) hbs
 obtain ⟨bq, oq, cq, rfl, hbq⟩ := hq
 have hblq := getElem?_lt hbq
 have hb0q := fun l => aD (l := l) hbq
 have hbz := hz
 have hblz := getElem?_lt hbz
 have hb0z := fun l => aD (l := l) hbz
 have hVV := cg.1 hV
 have hSS := bX.1 hS
 have hss := dG.1 hsB
 have hsc9 := hss.1
 have hx6 : xs.length ≤ 1000000 := by have h4 := hVV.len; have := Int.mul_le_mul hVV.w1 hVV.h1 (by have := hVV.h0; omega) (by decide); omega
 have hok : (∀ b ∈ bB W Hh xs l sc ra 32, bG b = true) ∧ (bB W Hh xs l sc ra 32).length ≤ l.length + 32 + ([] : List T6).length := gA (xs := xs) (s := sc) (g := ra) ⟨hVV.w0, hVV.w1⟩ ⟨hVV.h0, hVV.h1⟩ (l.length + 2 * 32) l 32 [] rfl hSS.2 (fun b hb => by cases hb)
 have hR6 : (bB W Hh xs l sc ra 32).length ≤ 64 := by have h1 := hok.2; simp only [List.length_nil] at h1; have h2 := hSS.1; omega
 have hRv := hok.1
 have hcp := cpL_ok hR0 hRv
 have hcS := hcp.1
 have hc0 := hcp.2
 have hc16 := (bX.1 hcS).1
 have hRg : cV W Hh xs (cpL (bB W Hh xs l sc ra 32)) sc ra = true := eI.2 ⟨hV, hc0, hcS, hsB, hg⟩
 (refine bK Tryz.func18 _ rfl (Nat.le_of_ble_eq_true (by kernel_rfl)) rfl ?_; intro hbel Q hQ hQ' c hc; unfold Tryz.f18 at hc; simp only [Option.some.injEq] at hc; subst hc; clear hQ')
 refine aO fun Q1 hn1 hr1 he1 => ?_
 have hQ1 := fun F H' h => hr1 F H' (hQ F H' h)
 refine aI false try_mixed (by kernel_rfl) ?_
 simp -implicitDefEqProofs (disch := omega) only [hbpp, hb0pp, hbs, hb0s, hbq, hb0q, hbz, hb0z, hsB, Option.isNone_some.{0}, ar, ak, al, au, simprocAttr, ax, ay, Function.comp_apply, one1, lenV, af, am, ap, aop, AV.ofValue, AV.ofCell, AV.cells, AV.flat, AV.one, arep, aB, aw]
 repeat refine And.intro (by omega) ?_
 refine hn1 _ _ ?_
 refine aO fun Q2 hn2 hr2 he2 => ?_
 have hQ2 := fun F H' h => hr2 F H' (hQ F H' h)
 refine aI false try_mixed (by kernel_rfl) ?_
 simp -implicitDefEqProofs (disch := omega) only [hbpp, hb0pp, hbs, hb0s, hbq, hb0q, hbz, hb0z, hsB, Option.isNone_some.{0}, ar, ak, al, au, simprocAttr, ax, ay, Function.comp_apply, one1, lenV, af, am, ap, aop, AV.ofValue, AV.ofCell, AV.cells, AV.flat, AV.one, arep, aB, aw]
 repeat refine And.intro (by omega) ?_
 refine aj (by kernel_rfl) (gB _ _ sc ⟨_, _, _, rfl, by first | exact hb0q _ | exact hbq⟩ (by omega)) ?_
 simp -implicitDefEqProofs (disch := omega) only [hbpp, hb0pp, hbs, hb0s, hbq, hb0q, hbz, hb0z, hsB, Option.isNone_some.{0}, ar, ak, al, au, simprocAttr, ax, ay, Function.comp_apply, one1, lenV, af, am, ap, aop, AV.ofValue, AV.ofCell, AV.cells, AV.flat, AV.one, arep, aB, aw]
 repeat refine And.intro (by omega) ?_
 refine hn2 _ _ ?_
 refine aO fun Q3 hn3 hr3 he3 => ?_
 have hQ3 := fun F H' h => hr3 F H' (hQ F H' h)
 refine aI false try_mixed (by kernel_rfl) ?_
 simp -implicitDefEqProofs (disch := omega) only [hbpp, hb0pp, hbs, hb0s, hbq, hb0q, hbz, hb0z, hsB, Option.isNone_some.{0}, ar, ak, al, au, simprocAttr, ax, ay, Function.comp_apply, one1, lenV, af, am, ap, aop, AV.ofValue, AV.ofCell, AV.cells, AV.flat, AV.one, arep, aB, aw]
 repeat refine And.intro (by omega) ?_
 refine bL (by kernel_rfl) (by simp) (kr _ W Hh _ xs _ l _ sc ra 32 ⟨_, _, _, rfl, by first | exact hb0pp _ | exact hbpp⟩ ⟨_, _, _, rfl, by first | exact hb0s _ | exact hbs⟩ ⟨_, _, _, rfl, by first | exact hb0q _ | exact hbq⟩ (by assumption) (by assumption) (by assumption) (by assumption) (by assumption) (by omega)) ?_
 simp -implicitDefEqProofs (disch := omega) only [hbpp, hb0pp, hbs, hb0s, hbq, hb0q, hbz, hb0z, hsB, Option.isNone_some.{0}, ar, ak, al, au, simprocAttr, ax, ay, Function.comp_apply, one1, lenV, af, am, ap, aop, AV.ofValue, AV.ofCell, AV.cells, AV.flat, AV.one, arep, aB, aw]
 repeat refine And.intro (by omega) ?_
 refine hn3 _ _ ?_
 refine aO fun Q4 hn4 hr4 he4 => ?_
 have hQ4 := fun F H' h => hr4 F H' (hQ F H' h)
 refine aI false try_mixed (by kernel_rfl) ?_
 simp -implicitDefEqProofs (disch := omega) only [hbpp, hb0pp, hbs, hb0s, hbq, hb0q, hbz, hb0z, hsB, Option.isNone_some.{0}, ar, ak, al, au, simprocAttr, ax, ay, Function.comp_apply, one1, lenV, af, am, ap, aop, AV.ofValue, AV.ofCell, AV.cells, AV.flat, AV.one, arep, aB, aw]
 repeat refine And.intro (by omega) ?_
 refine aq (fun h1 => ?_) (fun h1 => ?_)
 ·have h1d := bsT h1
  have h1n := bnT h1
  omega
 ·have h1d := bsT h1
  have h1n := bnT h1
  simp -implicitDefEqProofs (disch := omega) only [hbpp, hb0pp, hbs, hb0s, hbq, hb0q, hbz, hb0z, h1, h1n, aT, aS, hsB, Option.isNone_some.{0}, ar, ak, al, au, simprocAttr, ax, ay, Function.comp_apply, one1, lenV, af, am, ap, aop, AV.ofValue, AV.ofCell, AV.cells, AV.flat, AV.one, arep, aB, aw]
  repeat refine And.intro (by omega) ?_
  refine hn4 _ _ ?_
  refine aO fun Q5 hn5 hr5 he5 => ?_
  have hQ5 := fun F H' h => hr5 F H' (hQ F H' h)
  refine aI false try_mixed (by kernel_rfl) ?_
  simp -implicitDefEqProofs (disch := omega) only [hbpp, hb0pp, hbs, hb0s, hbq, hb0q, hbz, hb0z, h1, h1n, aT, aS, hsB, Option.isNone_some.{0}, ar, ak, al, au, simprocAttr, ax, ay, Function.comp_apply, one1, lenV, af, am, ap, aop, AV.ofValue, AV.ofCell, AV.cells, AV.flat, AV.one, arep, aB, aw]
  repeat refine And.intro (by omega) ?_
  refine aj (by kernel_rfl) (comp_c _ _ (bB W Hh xs l sc ra 32) ⟨_, _, _, by first | rfl | (rw [List.length_append]; done) | (rw [List.length_append]; rfl), by first | rfl | (rw [ah]; rfl) | (rw [ae]; rfl) | (rw [ah, ag]; rfl) | (rw [ae, ag]; rfl)⟩ (by omega) (by assumption) (by assumption)) ?_
  simp -implicitDefEqProofs (disch := omega) only [hbpp, hb0pp, hbs, hb0s, hbq, hb0q, hbz, hb0z, h1, h1n, aT, aS, hsB, Option.isNone_some.{0}, ar, ak, al, au, simprocAttr, ax, ay, Function.comp_apply, one1, lenV, af, am, ap, aop, AV.ofValue, AV.ofCell, AV.cells, AV.flat, AV.one, arep, aB, aw]
  repeat refine And.intro (by omega) ?_
  refine hn5 _ _ ?_
  refine cm false try_mixed [[0, 1, 2, 3, 4, 5, 6, 7, 8, 9, 10, 11, 12, 13, 14, 15, 16, 17], [0, 1, 2, 3, 4, 5, 6, 7, 8, 9, 10, 15, 11, 12, 13, 14, 16, 17]] (by kernel_rfl) (fun F2 H2 => F2 = [(0, .ptr (some (bz, 0))), (4, .int .i64 0), (5, .sl (some (H.length, 0)) ((cpL (bB W Hh xs l sc ra 32)).length) none), (7, .ptr (some (H.length + 2, 0))), (8, .int .i64 0)] ∧ H2 = H ++ [.cells true 6 (r6 (cpL (bB W Hh xs l sc ra 32))), .cells true 1 (ints .u8 o), .cells true 0 [.int .i64 W, .int .i64 Hh, .sl (some (H.length + 1, 0)) o.length none]]) ?_ ?_
  ·refine aR ?_ (aR ?_ (cn)) <;> intro J hJ
   ·skip
    simp -implicitDefEqProofs (disch := omega) only [hbpp, hb0pp, hbs, hb0s, hbq, hb0q, hbz, hb0z, h1, h1n, aT, aS, dx, hsB, Option.isNone_some.{0}, ar, ak, al, au, simprocAttr, ax, ay, Function.comp_apply, one1, lenV, af, am, ap, aop, AV.ofValue, AV.ofCell, AV.cells, AV.flat, AV.one, arep, aB, aw]
    repeat refine And.intro (by omega) ?_
    refine bL (by kernel_rfl) (by simp) (tX _ W Hh _ xs _ (cpL (bB W Hh xs l sc ra 32)) _ sc ra o ⟨_, _, _, rfl, by first | exact hb0pp _ | exact hbpp⟩ ⟨_, _, _, by first | rfl | (rw [List.length_append]; done) | (rw [List.length_append]; rfl), by first | rfl | (rw [ah]; rfl) | (rw [ae]; rfl) | (rw [ah, ag]; rfl) | (rw [ae, ag]; rfl)⟩ ⟨_, _, _, rfl, by first | exact hb0q _ | exact hbq⟩ (by assumption) (by assumption) (by assumption)) ?_
    simp -implicitDefEqProofs (disch := omega) only [hbpp, hb0pp, hbs, hb0s, hbq, hb0q, hbz, hb0z, h1, h1n, aT, aS, dx, hsB, Option.isNone_some.{0}, ar, ak, al, au, simprocAttr, ax, ay, Function.comp_apply, one1, lenV, af, am, ap, aop, AV.ofValue, AV.ofCell, AV.cells, AV.flat, AV.one, arep, aB, aw]
    repeat refine And.intro (by omega) ?_
    refine aZ (hJ _ _ ⟨_, _, _, ⟨rfl, rfl⟩, Abs.byG hbel [] rfl [1, 2, 3] (by decide) ?_⟩)
    exact aN (jn @bg (jn @be (jn @bt @bo)))
   ·skip
    simp -implicitDefEqProofs (disch := omega) only [hbpp, hb0pp, hbs, hb0s, hbq, hb0q, hbz, hb0z, h1, h1n, aT, aS, dx, hsB, Option.isNone_some.{0}, ar, ak, al, au, simprocAttr, ax, ay, Function.comp_apply, one1, lenV, af, am, ap, aop, AV.ofValue, AV.ofCell, AV.cells, AV.flat, AV.one, arep, aB, aw]
    repeat refine And.intro (by omega) ?_
    refine bL (by kernel_rfl) (by simp) (tX _ W Hh _ xs _ (cpL (bB W Hh xs l sc ra 32)) _ sc ra o ⟨_, _, _, rfl, by first | exact hb0pp _ | exact hbpp⟩ ⟨_, _, _, by first | rfl | (rw [List.length_append]; done) | (rw [List.length_append]; rfl), by first | rfl | (rw [ah]; rfl) | (rw [ae]; rfl) | (rw [ah, ag]; rfl) | (rw [ae, ag]; rfl)⟩ ⟨_, _, _, rfl, by first | exact hb0q _ | exact hbq⟩ (by assumption) (by assumption) (by assumption)) ?_
    simp -implicitDefEqProofs (disch := omega) only [hbpp, hb0pp, hbs, hb0s, hbq, hb0q, hbz, hb0z, h1, h1n, aT, aS, dx, hsB, Option.isNone_some.{0}, ar, ak, al, au, simprocAttr, ax, ay, Function.comp_apply, one1, lenV, af, am, ap, aop, AV.ofValue, AV.ofCell, AV.cells, AV.flat, AV.one, arep, aB, aw]
    repeat refine And.intro (by omega) ?_
    refine aZ (hJ _ _ ⟨_, _, _, ⟨rfl, rfl⟩, Abs.byG hbel [] rfl [1, 3, 2] (by decide) ?_⟩)
    exact aN (jn @bg (jn @be (jn @bt @bo)))
  rintro F2 H2 ⟨rfl, rfl⟩
  refine aO fun Q6 hn6 hr6 he6 => ?_
  have hQ6 := fun F H' h => hr6 F H' (hQ F H' h)
  refine aI false try_mixed (by kernel_rfl) ?_
  simp -implicitDefEqProofs (disch := omega) only [hbpp, hb0pp, hbs, hb0s, hbq, hb0q, hbz, hb0z, h1, h1n, aT, aS, aL, aY, aK, aJ, hsB, Option.isNone_some.{0}, ar, ak, al, au, simprocAttr, ax, ay, Function.comp_apply, one1, lenV, af, am, ap, aop, AV.ofValue, AV.ofCell, AV.cells, AV.flat, AV.one, arep, aB, aw]
  repeat refine And.intro (by omega) ?_
  refine hn6 _ _ ?_
  refine cm false try_mixed [[0, 1, 2, 3, 4, 5, 6, 7, 8, 9], [0, 1, 2, 4, 5, 6, 3, 7, 8, 9]] (by kernel_rfl) (fun F2 H2 => F2 = [(4, .int .i64 0)] ∧ H2 = H.set bz (.cells true 0 [.int .i64 W, .int .i64 Hh, .sl (some (H.length + 1, 0)) o.length none, .sl (some (H.length, 0)) ((cpL (bB W Hh xs l sc ra 32)).length) none, .int .i64 tu, .int .i64 le, .int .i64 sl, .int .i64 ra, .bool false]) ++ [.cells true 6 (r6 (cpL (bB W Hh xs l sc ra 32))), .cells true 1 (ints .u8 o)]) ?_ ?_
  ·refine aR ?_ (aR ?_ (cn)) <;> intro J hJ
   ·skip
    simp -implicitDefEqProofs (disch := omega) only [hbpp, hb0pp, hbs, hb0s, hbq, hb0q, hbz, hb0z, h1, h1n, aT, aS, aL, aY, aK, aJ, dx, hblz, ep, eQ, fv, eM, fJ, gC, fK, gD, List.length_set, List.set_set, hsB, Option.isNone_some.{0}, ar, ak, al, au, simprocAttr, ax, ay, Function.comp_apply, one1, lenV, af, am, ap, aop, AV.ofValue, AV.ofCell, AV.cells, AV.flat, AV.one, arep, aB, aw]
    repeat refine And.intro (by omega) ?_
    refine aZ (hJ _ _ ⟨_, _, _, ⟨rfl, rfl⟩, Abs.byP (b1 := .cells true 0 [.int .i64 W, .int .i64 Hh, .sl (some (H.length + 1, 0)) o.length none, .sl (some (H.length, 0)) ((cpL (bB W Hh xs l sc ra 32)).length) none, .int .i64 tu, .int .i64 le, .int .i64 sl, .int .i64 ra, .bool false]) (l1 := [.cells true 6 (r6 (cpL (bB W Hh xs l sc ra 32))), .cells true 1 (ints .u8 o), .cells true 0 [.int .i64 W, .int .i64 Hh, .sl (some (H.length + 1, 0)) o.length none]]) (.cells true 0 [.int .i64 W, .int .i64 Hh, .sl (some (H.length + 1, 0)) o.length none, .sl (some (H.length, 0)) ((cpL (bB W Hh xs l sc ra 32)).length) none, .int .i64 tu, .int .i64 le, .int .i64 sl, .int .i64 ra, .bool false]) hbel hblz (by first | rfl | simp) [] rfl [0, 1] (by decide) ?_⟩)
    exact aN (jn @hblpp (jn @hbls (jn @hblz (jn @hblq (jn @bg (jn @be (jn @bt @bo)))))))
   ·skip
    simp -implicitDefEqProofs (disch := omega) only [hbpp, hb0pp, hbs, hb0s, hbq, hb0q, hbz, hb0z, h1, h1n, aT, aS, aL, aY, aK, aJ, dx, hblz, ep, eQ, fv, eM, fJ, gC, fK, gD, List.length_set, List.set_set, hsB, Option.isNone_some.{0}, ar, ak, al, au, simprocAttr, ax, ay, Function.comp_apply, one1, lenV, af, am, ap, aop, AV.ofValue, AV.ofCell, AV.cells, AV.flat, AV.one, arep, aB, aw]
    repeat refine And.intro (by omega) ?_
    refine aZ (hJ _ _ ⟨_, _, _, ⟨rfl, rfl⟩, Abs.byP (b1 := .cells true 0 [.int .i64 W, .int .i64 Hh, .sl (some (H.length + 1, 0)) o.length none, .sl (some (H.length, 0)) ((cpL (bB W Hh xs l sc ra 32)).length) none, .int .i64 tu, .int .i64 le, .int .i64 sl, .int .i64 ra, .bool false]) (l1 := [.cells true 6 (r6 (cpL (bB W Hh xs l sc ra 32))), .cells true 1 (ints .u8 o), .cells true 0 [.int .i64 W, .int .i64 Hh, .sl (some (H.length + 1, 0)) o.length none]]) (.cells true 0 [.int .i64 W, .int .i64 Hh, .sl (some (H.length + 1, 0)) o.length none, .sl (some (H.length, 0)) ((cpL (bB W Hh xs l sc ra 32)).length) none, .int .i64 tu, .int .i64 le, .int .i64 sl, .int .i64 ra, .bool false]) hbel hblz (by first | rfl | simp) [] rfl [0, 1] (by decide) ?_⟩)
    exact aN (jn @hblpp (jn @hbls (jn @hblz (jn @hblq (jn @bg (jn @be (jn @bt @bo)))))))
  rintro F2 H2 ⟨rfl, rfl⟩
  refine aI false try_mixed (by kernel_rfl) ?_
  simp -implicitDefEqProofs (disch := omega) only [hbpp, hb0pp, hbs, hb0s, hbq, hb0q, hbz, hb0z, h1, h1n, aT, aS, aL, aY, aK, aJ, hblz, ep, eQ, fv, eM, fJ, gC, fK, gD, List.length_set, List.set_set, hsB, Option.isNone_some.{0}, ar, ak, al, au, simprocAttr, ax, ay, Function.comp_apply, one1, lenV, af, am, ap, aop, AV.ofValue, AV.ofCell, AV.cells, AV.flat, AV.one, arep, aB, aw]
  repeat refine And.intro (by omega) ?_
  refine hQ _ _ (hI (b1 := .cells true 0 [.int .i64 W, .int .i64 Hh, .sl (some (H.length + 1, 0)) o.length none, .sl (some (H.length, 0)) ((cpL (bB W Hh xs l sc ra 32)).length) none, .int .i64 tu, .int .i64 le, .int .i64 sl, .int .i64 ra, .bool false]) (.cells true 0 [.int .i64 W, .int .i64 Hh, .sl (some (H.length, 0)) o.length none, .sl (some (H.length + 1, 0)) ((cpL (bB W Hh xs l sc ra 32)).length) none, .int .i64 tu, .int .i64 le, .int .i64 sl, .int .i64 ra, .bool false]) (l1 := [.cells true 6 (r6 (cpL (bB W Hh xs l sc ra 32))), .cells true 1 (ints .u8 o)]) (l2 := [.cells true 1 (ints .u8 o), .cells true 6 (r6 (cpL (bB W Hh xs l sc ra 32)))]) (.inl rfl) hbel hblz (by first | rfl | simp) (x1 := .int .i64 0) (.int .i64 0) (av Tryz.results18) [] rfl [1, 0] (by decide) ⟨rfl, rfl⟩ ?_)
  exact bl (jn @bo (jn @d9 (jn @hblpp (jn @hbls (jn @hblz @hblq)))))
open Go.RowKit
open Go.RowKit
open Go.RowKit
theorem IsI.parts {H : ac} {k : IntKind} {s : AV} {l : List Int} (h : IsI H k s l) : ∃ a c, s = .sl a l.length c := by
 rcases h with ⟨rfl, rfl⟩ | ⟨b, own, cap, rfl, hb⟩
 ·exact ⟨_, _, rfl⟩
 ·exact ⟨_, _, rfl⟩
def bys (xs : List Int) : List UInt8 := xs.map fun n => UInt8.ofNat n.toNat
theorem bys_map : ∀ xs : List Int, (ints .u8 xs).mapM iE = some (bys xs)
 | [] => rfl
 | x :: xs => by
  have ih := bys_map xs
  show (AV.int .u8 x :: ints .u8 xs).mapM iE = _
  rw [List.mapM_cons, ih]
  rfl
theorem need_pos {p : Prop} [Decidable p] (h : p) : bx p = some () := by unfold bx; rw [if_pos h]
theorem lF {H : ac} {s : AV} {xs : List Int} (hs : IsI H .u8 s xs) : aw Tryz.prog 22 9 s H = some (.str (bys xs)) := by
 have h1 := bys_map xs
 have key : ∀ a n c, aElems 1 (.sl a n c) H = some (n, ints .u8 xs) → aw Tryz.prog 22 9 (.sl a n c) H = some (.str (bys xs)) := fun a n c he => by
  unfold aw
  simp only [lQ, Option.bind_some]
  rw [need_pos ⟨tInt5, by kernel_rfl⟩, Option.bind_some, he, Option.bind_some]
  simp only [h1, Option.map_some]
 rcases hs with ⟨rfl, rfl⟩ | ⟨b, own, cap, rfl, hb⟩
 ·exact key none 0 (some 0) rfl
 ·refine key _ _ _ ?_
  unfold aElems ards
  simp only [hb]
  rw [if_pos (by rw [aK]; omega), List.drop_zero, List.take_of_length_le (by rw [aK]; omega)]
  rfl
set_option maxRecDepth 100000 in
theorem plans_c (H : ac) (W Hh : Int) (xs : List Int) (s1 s2 : AV) (h1 : IsI H .u8 s1 xs) (h2 : IsI H .u8 s2 xs) : ACalls Tryz.prog 30 [.agg [.int .i64 W, .int .i64 Hh, s1], .agg [.int .i64 W, .int .i64 Hh, s2]] H (fun v H' => v = .bool true ∧ H' = H) := by
 have hc1 := fun l => lF (h1.app l)
 have hc2 := fun l => lF (h2.app l)
 obtain ⟨a1, c1, rfl⟩ := h1.parts
 obtain ⟨a2, c2, rfl⟩ := h2.parts
 refine AcT true Tryz.func30 ?_; intro hbel Q hQ
 simp -implicitDefEqProofs (disch := omega) only [hc1, hc2, simprocAttr, ax, ay, Function.comp_apply, one1, lenV, af, am, ap, aop, AV.ofValue, AV.ofCell, AV.cells, AV.flat, AV.one, arep, aB, aH]
 exact hQ _ _ (ai (.inl rfl) hbel (x := .bool true) (av Tryz.results30) rfl ⟨rfl, rfl⟩)
theorem ky (H : ac) (W Hh W2 Hh2 : Int) (xs ys : List Int) (s1 s2 : AV) (h1 : Sl H 1 s1 xs.length (ints .u8 xs)) (h2 : Sl H 1 s2 ys.length (ints .u8 ys)) (e1 : W = W2) (e2 : Hh = Hh2) (e3 : xs = ys) : ACalls Tryz.prog 30 [.agg [.int .i64 W, .int .i64 Hh, s1], .agg [.int .i64 W2, .int .i64 Hh2, s2]] H (fun v H' => v = .bool true ∧ H' = H) := by
 subst e1 e2 e3
 exact plans_c H W Hh xs s1 s2 (.inr h1) (.inr h2)
open Go.RowKit
open Go.RowKit
theorem lnew_y (H : ac) (W : Int) (Hh : Int) (pp : AV) (xs : List Int) (s : AV) (l : List T6) (tu : Int) (le : Int) (sl : Int) (ra : Int) (hpp : Sl H 1 pp xs.length (ints .u8 xs)) (hs : Sl H 6 s l.length (r6 l)) (hV : b9 W Hh xs = true) (hL : lsB l = true) (hB : cK tu le sl ra = true) : ACalls Tryz.prog 13 [.agg [.int .i64 W, .int .i64 Hh, pp], s, .agg [.int .i64 tu, .int .i64 le, .int .i64 sl, .int .i64 ra]] H (fun v H' => v = .tup [.ptr (some (H.length + 2, 0)), .int .i64 0] ∧ H' = H ++ [.cells true 1 (ints .u8 xs), .cells true 6 (r6 l), .cells true 0 [.int .i64 W, .int .i64 Hh, .sl (some (H.length, 0)) xs.length none, .sl (some (H.length + 1, 0)) l.length none, .int .i64 tu, .int .i64 le, .int .i64 sl, .int .i64 ra, .bool false]]) := by
 obtain ⟨bpp, opp, cpp, rfl, hbpp⟩ := hpp
 have hblpp := getElem?_lt hbpp
 have hb0pp := fun l => aD (l := l) hbpp
 obtain ⟨bs, os, cs, rfl, hbs⟩ := hs
 have hbls := getElem?_lt hbs
 have hb0s := fun l => aD (l := l) hbs
 have hVV := cg.1 hV
 have hx6 : xs.length ≤ 1000000 := by have h4 := hVV.len; have := Int.mul_le_mul hVV.w1 hVV.h1 (by have := hVV.h0; omega) (by decide); omega
 have hx0 : 0 < xs.length := by have := (hVV.idx (show inB W Hh 0 0 = true from dK.2 (by have := hVV.w0; have := hVV.h0; omega))).2.2.2.2.1; omega
 have hLL := jD.1 hL
 have hS16 := (bX.1 hLL.2).1
 have hl0 := hLL.1
 (refine bK Tryz.func13 _ rfl (Nat.le_of_ble_eq_true (by kernel_rfl)) rfl ?_; intro hbel Q hQ hQ' c hc; unfold Tryz.f13 at hc; simp only [Option.some.injEq] at hc; subst hc; clear hQ')
 refine aO fun Q1 hn1 hr1 he1 => ?_
 have hQ1 := fun F H' h => hr1 F H' (hQ F H' h)
 refine aI false try_mixed (by kernel_rfl) ?_
 have g'1 := (jn @hbpp (jn @hb0pp (jn @hbs (jn @hb0s (jn @hV (jn @hL @hB))))))
 refine aa g'1 ?_
 refine hn1 _ _ ?_
 refine aO fun Q2 hn2 hr2 he2 => ?_
 have hQ2 := fun F H' h => hr2 F H' (hQ F H' h)
 refine aI false try_mixed (by kernel_rfl) ?_
 refine aa g'1 ?_
 refine aj (by kernel_rfl) (g3 _ W Hh _ xs (.inr ⟨_, _, _, rfl, by first | exact hb0pp _ | exact hbpp⟩)) ?_
 refine aa g'1 ?_
 refine aj (by kernel_rfl) (lY _ _ l ⟨_, _, _, rfl, by first | exact hb0s _ | exact hbs⟩ (by omega)) ?_
 refine aa g'1 ?_
 refine aj (by kernel_rfl) (gW _ tu le sl ra) ?_
 refine aa g'1 ?_
 refine hn2 _ _ ?_
 refine cm false try_mixed [[0, 1, 2, 3, 4, 5, 6, 7, 8]] (by kernel_rfl) (fun F2 H2 => F2 = [(6, .ptr (some (H.length + 2, 0))), (7, .int .i64 0)] ∧ H2 = H ++ [.cells true 1 (ints .u8 xs), .cells true 6 (r6 l), .cells true 0 [.int .i64 W, .int .i64 Hh, .sl (some (H.length, 0)) xs.length none, .sl (some (H.length + 1, 0)) l.length none, .int .i64 tu, .int .i64 le, .int .i64 sl, .int .i64 ra, .bool false]]) ?_ ?_
 ·refine aR ?_ (cn) <;> intro J hJ
  ·skip
   refine aM g'1 ?_
   refine bL (by kernel_rfl) (by simp) (lcop_c _ W Hh _ xs ⟨_, _, _, rfl, by first | exact hb0pp _ | exact hbpp⟩ hx6 hx0) ?_
   refine aM g'1 ?_
   refine bL (by kernel_rfl) (by simp) (ir _ _ l ⟨_, _, _, rfl, by first | exact hb0s _ | exact hbs⟩ (by first | omega | (simp only [List.length_cons, List.length_nil]; omega)) (by first | omega | simp)) ?_
   refine aM g'1 ?_
   refine aZ (hJ _ _ ⟨_, _, _, ⟨rfl, rfl⟩, Abs.byG hbel [] rfl [2, 3, 4] (by decide) ?_⟩)
   exact aN (jn @bg (jn @be (jn @bt @bo)))
 rintro F2 H2 ⟨rfl, rfl⟩
 refine aI false try_mixed (by kernel_rfl) ?_
 have g'2 := (jn @aK (jn @aJ (jn @aL (jn @aY g'1))))
 refine aa g'2 ?_
 refine hQ _ _ (br (.inl rfl) hbel (x1 := .tup [.ptr (some (H.length + 2, 0)), .int .i64 0]) (l2 := [.cells true 1 (ints .u8 xs), .cells true 6 (r6 l), .cells true 0 [.int .i64 W, .int .i64 Hh, .sl (some (H.length, 0)) xs.length none, .sl (some (H.length + 1, 0)) l.length none, .int .i64 tu, .int .i64 le, .int .i64 sl, .int .i64 ra, .bool false]]) (.tup [.ptr (some (H.length + 2, 0)), .int .i64 0]) (av Tryz.results13) [] rfl [0, 1, 2] (by decide) ⟨rfl, rfl⟩ ?_)
 exact bl @bo
theorem lnew_n (H : ac) (W : Int) (Hh : Int) (pp : AV) (xs : List Int) (s : AV) (l : List T6) (tu : Int) (le : Int) (sl : Int) (ra : Int) (hpp : Sl H 1 pp xs.length (ints .u8 xs)) (hs : Sl H 6 s l.length (r6 l)) (hl : l.length ≤ 1000000000) (hn : (b9 W Hh xs && lsB l && cK tu le sl ra) = false) : ACalls Tryz.prog 13 [.agg [.int .i64 W, .int .i64 Hh, pp], s, .agg [.int .i64 tu, .int .i64 le, .int .i64 sl, .int .i64 ra]] H (fun v H' => v = .tup [.ptr none, .int .i64 1] ∧ H' = H) := by
 obtain ⟨bpp, opp, cpp, rfl, hbpp⟩ := hpp
 have hblpp := getElem?_lt hbpp
 have hb0pp := fun l => aD (l := l) hbpp
 obtain ⟨bs, os, cs, rfl, hbs⟩ := hs
 have hbls := getElem?_lt hbs
 have hb0s := fun l => aD (l := l) hbs
 refine AcT true Tryz.func13 ?_; intro hbel Q hQ
 have g'3 := (jn @hbpp (jn @hb0pp (jn @hbs @hb0s)))
 refine aa g'3 ?_
 refine aj (by kernel_rfl) (g3 _ W Hh _ xs (.inr ⟨_, _, _, rfl, by first | exact hb0pp _ | exact hbpp⟩)) ?_
 refine aa g'3 ?_
 refine az (fun h1 => ?_) (fun h1 => ?_)
 ·have h1d := bsT h1
  have hV := h1d
  have g'4 := (jn @h1 (jn @h1d g'3))
  refine aa g'4 ?_
  refine aj (by kernel_rfl) (lY _ _ l ⟨_, _, _, rfl, by first | exact hb0s _ | exact hbs⟩ (by omega)) ?_
  refine aa g'4 ?_
  refine az (fun h2 => ?_) (fun h2 => ?_)
  ·have h2d := bsT h2
   have hL := h2d
   have g'5 := (jn @h2 (jn @h2d g'4))
   refine aa g'5 ?_
   refine aj (by kernel_rfl) (gW _ tu le sl ra) ?_
   refine aa g'5 ?_
   refine aq (fun h3 => ?_) (fun h3 => ?_)
   ·have h3d := bsT h3
    have g'6 := (jn @h3 (jn @h3d g'5))
    refine aa g'6 ?_
    exact hQ _ _ (ai (.inl rfl) hbel (x := .tup [.ptr none, .int .i64 1]) (av Tryz.results13) rfl ⟨rfl, rfl⟩)
   ·have h3d := bsT h3
    rw [hV, hL, h3d] at hn
    exact absurd hn (by decide)
  ·have h2d := bsT h2
   have g'7 := (jn @h2 (jn @h2d g'4))
   refine aa g'7 ?_
   exact hQ _ _ (ai (.inl rfl) hbel (x := .tup [.ptr none, .int .i64 1]) (av Tryz.results13) rfl ⟨rfl, rfl⟩)
 ·have h1d := bsT h1
  have g'8 := (jn @h1 (jn @h1d g'3))
  refine aa g'8 ?_
  exact hQ _ _ (ai (.inl rfl) hbel (x := .tup [.ptr none, .int .i64 1]) (av Tryz.results13) rfl ⟨rfl, rfl⟩)
open Go.RowKit
def hulN (l : List T6) : Nat → T6
 | 0 => g6 l 0
 | n + 1 => dY (hulN l n) (g6 l (n + 1))
theorem hulN_ok {l : List T6} (h : ∀ b ∈ l, bG b = true) : ∀ n : Nat, n < l.length → bG (hulN l n) = true
 | 0, h0 => h _ (cG h0)
 | n + 1, hn => hulB_ok (hulN_ok h n (by omega)) (h _ (cG hn))
theorem lbox_c (H : ac) (W : Int) (Hh : Int) (pp : AV) (xs : List Int) (s : AV) (l : List T6) (tu : Int) (le : Int) (sl : Int) (ra : Int) (lost : Bool) (bz : Nat) (hpp : Sl H 1 pp xs.length (ints .u8 xs)) (hs : Sl H 6 s l.length (r6 l)) (hz : ∃ o, H[bz]? = some (.cells o 0 [.int .i64 W, .int .i64 Hh, pp, s, .int .i64 tu, .int .i64 le, .int .i64 sl, .int .i64 ra, .bool lost])) (hS : bU l = true) (hl0 : 0 < l.length) : ACalls Tryz.prog 61 [.ptr (some (bz, 0))] H (fun v H' => v = .tup [.agg [.int .i64 ((hulN l (l.length - 1)).1), .int .i64 ((hulN l (l.length - 1)).2.1), .int .i64 ((hulN l (l.length - 1)).2.2.1), .int .i64 ((hulN l (l.length - 1)).2.2.2.1), .int .i64 ((hulN l (l.length - 1)).2.2.2.2.1), .int .i64 ((hulN l (l.length - 1)).2.2.2.2.2)], .bool true] ∧ H' = H) := by
 obtain ⟨bpp, opp, cpp, rfl, hbpp⟩ := hpp
 have hblpp := getElem?_lt hbpp
 have hb0pp := fun l => aD (l := l) hbpp
 obtain ⟨bs, os, cs, rfl, hbs⟩ := hs
 have hbls := getElem?_lt hbs
 have hb0s := fun l => aD (l := l) hbs
 obtain ⟨oz, hbz⟩ := hz
 have hblz := getElem?_lt hbz
 have hb0z := fun l => aD (l := l) hbz
 have hSS := bX.1 hS
 have hl16 := hSS.1
 refine AcT true Tryz.func61 ?_; intro hbel Q hQ
 have q1 := r6_load0 (l := l) (by omega)
 simp -implicitDefEqProofs (disch := omega) only [hbpp, hb0pp, hbs, hb0s, hbz, hb0z, aL, q1, Option.isNone_some.{0}, ar, ak, al, au, simprocAttr, ax, ay, Function.comp_apply, one1, lenV, af, am, ap, aop, AV.ofValue, AV.ofCell, AV.cells, AV.flat, AV.one, arep, aB, aw]
 repeat refine And.intro (by omega) ?_
 refine go_loop try_mixed (by kernel_rfl) (fun k F Hx => ∃ i : Nat, i + k = l.length - 1 ∧ F = [(2, .ptr (some (H.length, 0))), (4, .ptr (some (H.length + 1, 0))), (20, .sl (some (bs, 6)) (l.length - 1) none), (21, .int .i64 ((l.length - 1 : Nat) : Int)), (22, .int .i64 ((i : Nat) : Int))] ∧ Hx = H ++ [.cells true 0 [.int .i64 0, .int .i64 0, .int .i64 0, .int .i64 0, .int .i64 0, .int .i64 0], .cells true 0 [.int .i64 ((hulN l i).1), .int .i64 ((hulN l i).2.1), .int .i64 ((hulN l i).2.2.1), .int .i64 ((hulN l i).2.2.2.1), .int .i64 ((hulN l i).2.2.2.2.1), .int .i64 ((hulN l i).2.2.2.2.2)]]) (l.length - 1) ?_ ?_
 ·refine ⟨_, _, _, ⟨0, by omega, rfl, rfl⟩, Abs.byG hbel [] rfl [0, 1] (by decide) ?_⟩
  exact bl @hulN.eq_1
 ·rintro k0 F Hx ⟨i, hm0, rfl, rfl⟩ J0 hJ0
  simp -implicitDefEqProofs (disch := omega) only [hbpp, hb0pp, hbs, hb0s, hbz, hb0z, aL, q1, Option.isNone_some.{0}, ar, ak, al, au, simprocAttr, ax, ay, Function.comp_apply, one1, lenV, af, am, ap, aop, AV.ofValue, AV.ofCell, AV.cells, AV.flat, AV.one, arep, aB, aw]
  repeat refine And.intro (by omega) ?_
  refine aq (fun h2 => ?_) (fun h2 => ?_)
  ·have h2d := bsT h2
   have hlt : i + 1 < l.length := by omega
   have hb1 : bxB ((hulN l i).1) ((hulN l i).2.1) ((hulN l i).2.2.1) ((hulN l i).2.2.2.1) ((hulN l i).2.2.2.2.1) ((hulN l i).2.2.2.2.2) = true := hulN_ok hSS.2 i (by omega)
   have hb2 : bxB (g61 l (i + 1)) (g62 l (i + 1)) (g63 l (i + 1)) (g64 l (i + 1)) (g65 l (i + 1)) (g66 l (i + 1)) = true := hSS.2 _ (cG hlt)
   have hs0 : (hulN l (i + 1)).1 = mnI ((hulN l i).1) (g61 l (i + 1)) := rfl
   have hs1 : (hulN l (i + 1)).2.1 = mnI ((hulN l i).2.1) (g62 l (i + 1)) := rfl
   have hs2 : (hulN l (i + 1)).2.2.1 = mxI ((hulN l i).2.2.1) (g63 l (i + 1)) := rfl
   have hs3 : (hulN l (i + 1)).2.2.2.1 = mxI ((hulN l i).2.2.2.1) (g64 l (i + 1)) := rfl
   have hs4 : (hulN l (i + 1)).2.2.2.2.1 = (cw ((hulN l i).2.2.2.2.1) ((hulN l i).2.2.2.2.2) (g65 l (i + 1)) (g66 l (i + 1))).1 := rfl
   have hs5 : (hulN l (i + 1)).2.2.2.2.2 = (cw ((hulN l i).2.2.2.2.1) ((hulN l i).2.2.2.2.2) (g65 l (i + 1)) (g66 l (i + 1))).2 := rfl
   have q3 := r6_load1 (l := l) (j := i) (by omega)
   simp -implicitDefEqProofs (disch := omega) only [hbpp, hb0pp, hbs, hb0s, hbz, hb0z, aL, q1, h2, h2d, q3, Option.isNone_some.{0}, ar, ak, al, au, simprocAttr, ax, ay, Function.comp_apply, one1, lenV, af, am, ap, aop, AV.ofValue, AV.ofCell, AV.cells, AV.flat, AV.one, arep, aB, aw]
   repeat refine And.intro (by omega) ?_
   refine aj (by kernel_rfl) (bhull_c _ ((hulN l i).1) ((hulN l i).2.1) ((hulN l i).2.2.1) ((hulN l i).2.2.2.1) ((hulN l i).2.2.2.2.1) ((hulN l i).2.2.2.2.2) (g61 l (i + 1)) (g62 l (i + 1)) (g63 l (i + 1)) (g64 l (i + 1)) (g65 l (i + 1)) (g66 l (i + 1)) (by assumption) (by assumption)) ?_
   simp -implicitDefEqProofs (disch := omega) only [hbpp, hb0pp, hbs, hb0s, hbz, hb0z, aL, q1, h2, h2d, q3, Option.isNone_some.{0}, ar, ak, al, au, simprocAttr, ax, ay, Function.comp_apply, one1, lenV, af, am, ap, aop, AV.ofValue, AV.ofCell, AV.cells, AV.flat, AV.one, arep, aB, aw]
   repeat refine And.intro (by omega) ?_
   refine hJ0 _ _ ⟨k0 - 1, by omega, _, _, _, ⟨i + 1, by omega, rfl, rfl⟩, Abs.byG hbel [] rfl [0, 1] (by decide) ?_⟩
   exact bl (jn @hs0 (jn @hs1 (jn @hs2 (jn @hs3 (jn @hs4 @hs5)))))
  ·have h2d := bsT h2
   obtain rfl : i = l.length - 1 := by omega
   simp -implicitDefEqProofs (disch := omega) only [hbpp, hb0pp, hbs, hb0s, hbz, hb0z, aL, q1, h2, h2d, Option.isNone_some.{0}, ar, ak, al, au, simprocAttr, ax, ay, Function.comp_apply, one1, lenV, af, am, ap, aop, AV.ofValue, AV.ofCell, AV.cells, AV.flat, AV.one, arep, aB, aw]
   repeat refine And.intro (by omega) ?_
   exact hQ _ _ (ai (.inl rfl) hbel (x := .tup [.agg [.int .i64 ((hulN l (l.length - 1)).1), .int .i64 ((hulN l (l.length - 1)).2.1), .int .i64 ((hulN l (l.length - 1)).2.2.1), .int .i64 ((hulN l (l.length - 1)).2.2.2.1), .int .i64 ((hulN l (l.length - 1)).2.2.2.2.1), .int .i64 ((hulN l (l.length - 1)).2.2.2.2.2)], .bool true]) (av Tryz.results61) rfl ⟨rfl, rfl⟩)
open Go.RowKit
def laL : List T6 := [(32, 32, 32, 32, 0, 1), (33, 32, 33, 32, 0, 1), (34, 32, 34, 32, 0, 1), (35, 32, 35, 32, 0, 1), (36, 32, 36, 32, 0, 1), (37, 32, 37, 32, 0, 1), (38, 32, 38, 32, 0, 1), (39, 32, 39, 32, 0, 1), (40, 32, 40, 32, 0, 1)]
theorem la_1 : bB 4 1 [0,0,0,0] [(32,32,40,32,0,1)] [(0,160)] 4 32 = laL := by decide +kernel
theorem la_2 : cpL laL = laL := by decide +kernel
theorem la_tau : fl laL = true := by decide +kernel
theorem la_all : aW 4 1 laL [(0, 160)] 4 = [(0, 0), (1, 0), (2, 0)] := by rw [all_put]; decide +kernel
theorem la_sus : bu laL 0 160 4 = [(2, 0), (3, 0)] := by rw [sus_put]; decide +kernel
theorem la_ln : lnO 4 1 [0, 0, 0, 0] laL [(0, 160)] 4 = some [1, 1, 1, 2] := by
 unfold lnO fP
 rw [if_pos la_tau, la_all]
 show Option.bind _ (dr 4 1 [bu laL 0 160 4]) = _
 rw [la_sus]; decide +kernel
theorem la_v : b9 4 1 [0, 0, 0, 0] = true := by decide +kernel
theorem la_l : lsB [(32, 32, 40, 32, 0, 1)] = true := by decide +kernel
theorem la_b : cK 0 0 0 4 = true := by decide +kernel
theorem la_s1 : bU [(32, 32, 40, 32, 0, 1)] = true := by decide +kernel
theorem la_s2 : bU laL = true := by decide +kernel
theorem la_c1 : cd [(0, 160)] = true := by decide +kernel
theorem la_c2 : cd [(0, 3)] = true := by decide +kernel
theorem la_v2 : b9 4 1 [1, 1, 1, 2] = true := by decide +kernel
theorem la_vol : volS laL laL.length = 9 := by decide +kernel
theorem la_see1 (H : ac) (pp s q : AV) (bz : Nat) (hpp : Sl H 1 pp 4 (ints .u8 [0, 0, 0, 0])) (hs : Sl H 6 s 1 (r6 [(32, 32, 40, 32, 0, 1)])) (hz : H[bz]? = some (.cells true 0 [.int .i64 4, .int .i64 1, pp, s, .int .i64 0, .int .i64 0, .int .i64 0, .int .i64 4, .bool false])) (hq : Sl H 2 q 1 (prs [(0, 160)])) : ACalls Tryz.prog 18 [.ptr (some (bz, 0)), q] H (fun v H' => v = .int .i64 0 ∧ H' = H.set bz (.cells true 0 [.int .i64 4, .int .i64 1, .sl (some (H.length, 0)) 4 none, .sl (some (H.length + 1, 0)) laL.length none, .int .i64 0, .int .i64 0, .int .i64 0, .int .i64 4, .bool false]) ++ [.cells true 1 (ints .u8 [1, 1, 1, 2]), .cells true 6 (r6 laL)]) := by
 have k := lse_y H 4 1 pp [0, 0, 0, 0] s [(32, 32, 40, 32, 0, 1)] 0 0 0 4 bz q [(0, 160)] hpp hs hz hq la_v la_s1 (by decide) la_c1 (by decide) (by rw [la_1]; decide) [1, 1, 1, 2] (by rw [la_1, la_2]; exact la_ln) (by decide)
 rw [la_1, la_2] at k
 exact k
theorem la_volc (H : ac) (pp s : AV) (bz : Nat) (hpp : Sl H 1 pp 4 (ints .u8 [1, 1, 1, 2])) (hs : Sl H 6 s laL.length (r6 laL)) (hz : ∃ o, H[bz]? = some (.cells o 0 [.int .i64 4, .int .i64 1, pp, s, .int .i64 0, .int .i64 0, .int .i64 0, .int .i64 4, .bool false])) : ACalls Tryz.prog 32 [.ptr (some (bz, 0))] H (fun v H' => v = .int .i64 9 ∧ H' = H) := by
 have k := lvol_c H 4 1 pp [1, 1, 1, 2] s laL 0 0 0 4 false bz hpp hs hz (by decide) (by decide)
 rw [la_vol] at k
 exact k
open Go.RowKit
theorem lrnF_p {W H : Int} {p : Int → Prop} (h1 : p 1) : ∀ {l : List (Int × Int)} {o q : List Int}, d3 W H l o = some q → (∀ v ∈ o, p v) → ∀ v ∈ q, p v
 | [], o, q, h, ho => by unfold d3 at h; cases h; exact ho
 | c :: l, o, q, h, ho => by
  unfold d3 at h
  split at h
  ·cases h
  ·exact lrnF_p h1 h (fun v hv => (List.mem_or_eq_of_mem_set hv).elim (ho v) (fun e => by rw [e]; exact h1))
theorem lG {W H : Int} {p : Int → Prop} (h2 : p 2) : ∀ {l : List (List (Int × Int))} {o q : List Int}, dr W H l o = some q → (∀ v ∈ o, p v) → ∀ v ∈ q, p v
 | [], o, q, h, ho => by unfold dr at h; cases h; exact ho
 | s :: l, o, q, h, ho => by
  unfold dr at h
  split at h
  ·cases h
  ·rename_i c hc
   split at h
   ·exact lG h2 h (fun v hv => (List.mem_or_eq_of_mem_set hv).elim (ho v) (fun e => by rw [e]; exact h2))
   ·exact lG h2 h ho
  ·exact lG h2 h ho
theorem ln_n {W Hh : Int} {xs o : List Int} {l : List T6} {sc : List (Int × Int)} {g : Int} (h0 : ∀ v ∈ xs, 0 ≤ v) (h : lnO W Hh xs l sc g = some o) : ∀ v ∈ o, 0 ≤ v := by
 unfold lnO at h
 split at h
 ·cases hq : d3 W Hh (aW W Hh l sc g) xs with
  | none => rw [hq] at h; cases h
  | some q =>
   rw [hq] at h
   have h' : dr W Hh (fP l sc g) q = some o := h
   exact lG (p := fun v => 0 ≤ v) (by decide) h' (lrnF_p (p := fun v => 0 ≤ v) (by decide) hq h0)
 ·cases h; exact h0
theorem evOk.app {H : ac} {l : List Ev} (h : evOk H l) (L : ac) : evOk (H ++ L) l := fun e he => ⟨(h e he).1.app L, (h e he).2⟩
def kpP (ks o : List Int) : Prop := o.length = ks.length ∧ ∀ i : Nat, i < ks.length → ¬ gi ks i = 0 → gi ks i = gi o i
theorem jE (ks : List Int) : kpP ks ks := ⟨rfl, fun _ _ _ => rfl⟩
theorem ln_kp {W Hh : Int} {xs o : List Int} {l : List T6} {sc : List (Int × Int)} {g : Int} (hR : cV W Hh xs l sc g = true) (h0 : ∀ v ∈ xs, 0 ≤ v) (h : lnO W Hh xs l sc g = some o) : kpP xs o := by
 have e := ln_0 hR h
 obtain ⟨-, k2, k3⟩ := ln_keeps e.1 h0
 rw [e.2.1] at k2 k3
 exact ⟨k2, fun i hi hz => (k3 i hi hz).symm⟩
def smlC (b : T6) : Bool := !(decide (8 < b.2.2.2.2.2)) && (!(decide (200 < IntKind.i64.wrap (b.2.2.1 - b.1))) && !(decide (200 < IntKind.i64.wrap (b.2.2.2.1 - b.2.1))))
def smlB (l : List T6) : Bool := (l.take 20).all smlC && decide (((l.length : Nat) : Int) ≤ 4)
theorem smlB_len {l : List T6} (h : smlB l = true) : l.length ≤ 4 := by
 unfold smlB at h; rw [Bool.and_eq_true, decide_eq_true_eq] at h; omega
theorem smlB_n {l : List T6} {i : Nat} (hi : i < l.length) (h20 : i < 20) (k : smlC (g6 l i) = false) : smlB l = false := by
 rw [← Bool.not_eq_true]; intro q
 unfold smlB at q
 rw [Bool.and_eq_true, List.all_eq_true] at q
 have := q.1 (g6 l i) (List.mem_iff_getElem.2 ⟨i, by rw [List.length_take]; omega, by rw [List.getElem_take]; exact (show g6 l i = l[i] from jm hi).symm⟩)
 rw [k] at this; cases this
theorem smlB_y {l : List T6} (k : ∀ j : Nat, j < l.length → j < 20 → smlC (g6 l j) = true) : smlB l = decide (((l.length : Nat) : Int) ≤ 4) := by
 unfold smlB
 rw [show (l.take 20).all smlC = true from List.all_eq_true.2 fun e he => by
  obtain ⟨j, hj, rfl⟩ := List.mem_iff_getElem.1 he
  rw [List.length_take] at hj
  rw [List.getElem_take, ← show g6 l j = l[j] from jm (by omega)]; exact k j (by omega) (by omega)]
 rfl
def e5C (e : Ev) : List AV := [.int .i64 e.k, .int .i64 e.t, .int .i64 e.g, .bool e.st, e.s]
def e5R (l : List Ev) : List AV := l.flatMap e5C
theorem iv {p : Ev} {l : List Ev} : e5R (p :: l) = e5C p ++ e5R l := rfl
theorem dl : ∀ {l : List Ev}, (e5R l).length = l.length * 5
 | [] => rfl
 | p :: l => by rw [iv, List.length_append, dl (l := l), List.length_cons]; show 5 + _ = _; omega
theorem lH : ∀ {l : List Ev} {j : Nat} (_h : j < l.length), (e5R l).drop (j * 5) = e5C (evG l j) ++ (e5R l).drop ((j + 1) * 5)
 | [], j, h => by simp at h
 | p :: l, 0, _ => by rw [iv]; rfl
 | p :: l, j + 1, h => by
  have ih := lH (l := l) (j := j) (by simpa using h)
  rw [iv, show (j + 1) * 5 = (e5C p).length + j * 5 by show _ = 5 + _; omega, show (j + 1 + 1) * 5 = (e5C p).length + (j + 1) * 5 by show _ = 5 + _; omega, kx, kx, ih]
  rfl
theorem e5R_p1 {l : List Ev} {j : Nat} (h : j < l.length) : ((e5R l).drop (j * 5 + 1)).take 2 = [.int .i64 (evG l j).t, .int .i64 (evG l j).g] := by
 rw [← List.drop_drop, lH h]; rfl
theorem e5R_at3 {l : List Ev} {j : Nat} (h : j < l.length) : (e5R l)[j * 5 + 3]? = some (.bool (evG l j).st) := by
 have k : ((e5R l).drop (j * 5))[3]? = some (.bool (evG l j).st) := by rw [lH h]; rfl
 rw [List.getElem?_drop] at k; exact k
theorem e5R_at4 {l : List Ev} {j : Nat} {v : AV} (h : j < l.length) (hs : (evG l j).s = v) : (e5R l)[j * 5 + 4]? = some v := by
 have k : ((e5R l).drop (j * 5))[4]? = some (evG l j).s := by rw [lH h]; rfl
 rw [List.getElem?_drop] at k; rw [← hs]; exact k
def fwS (l : List Ev) : Nat → Int
 | 0 => 0
 | i + 1 => fwS l i + (if 40 < (((evG l i).sc.length : Nat) : Int) then 40 else (((evG l i).sc.length : Nat) : Int))
theorem fwS_nn (l : List Ev) : ∀ i : Nat, 0 ≤ fwS l i ∧ fwS l i ≤ 40 * (i : Int)
 | 0 => by simp [fwS]
 | i + 1 => by have := fwS_nn l i; rw [fwS]; split <;> omega
theorem fwS_le (l : List Ev) {i : Nat} : ∀ {n : Nat}, i < n → (if 40 < (((evG l i).sc.length : Nat) : Int) then 40 else (((evG l i).sc.length : Nat) : Int)) ≤ fwS l n
 | n + 1, h => by
  rw [fwS]
  have hn := fwS_nn l n
  rcases Nat.lt_or_ge i n with q | q
  ·have := fwS_le l q
   split <;> split at this <;> omega
  ·obtain rfl : i = n := by omega
   split <;> omega
def fewB (xs : List Int) (l : List T6) (e : List Ev) : Bool := decide (((xs.length : Nat) : Int) ≤ 64) && (smlB l && (decide (((e.length : Nat) : Int) ≤ 5) && decide (fwS e (min e.length 20) ≤ 8)))
theorem fewB_ok {xs : List Int} {l : List T6} {e : List Ev} (h : fewB xs l e = true) : xs.length ≤ 64 ∧ l.length ≤ 4 ∧ e.length ≤ 5 ∧ ∀ i : Nat, i < e.length → (evG e i).sc.length ≤ 8 := by
 unfold fewB at h
 simp only [Bool.and_eq_true, decide_eq_true_eq] at h
 refine ⟨by omega, smlB_len h.2.1, by omega, fun i hi => ?_⟩
 have k := fwS_le e (i := i) (n := min e.length 20) (by omega)
 split at k <;> omega
theorem rows_e5 {P : Program} {H : ac} {n : Nat} {ti tb ts te u v : TypeId} (hi : P.underlying ti = some (.int .i64)) (hb : P.underlying tb = some .bool) (hs : P.underlying ts = some (.slice te)) (hu : P.underlying u = some (.int .i64)) (hv : P.underlying v = some (.int .i64)) (hl : bI P (n + 1) te = some [u, v]) : ∀ rows : List (List AV), (∀ r : List AV, r ∈ rows → RTy P H (n + 2) [ti, ti, ti, tb, ts] r) → ∃ l : List Ev, l.length = rows.length ∧ rows.flatten = e5R l ∧ evOk H l
 | [], _ => ⟨[], rfl, rfl, fun e h => by cases h⟩
 | r :: rows, h => by
  obtain ⟨l, q1, q2, q3⟩ := rows_e5 hi hb hs hu hv hl rows fun r' hr => h r' (by simp [hr])
  have hr := h r (by simp)
  obtain ⟨y1, r', rfl, hy1, hr⟩ := hr.cons
  obtain ⟨y2, r', rfl, hy2, hr⟩ := hr.cons
  obtain ⟨y3, r', rfl, hy3, hr⟩ := hr.cons
  obtain ⟨y4, r', rfl, hy4, hr⟩ := hr.cons
  obtain ⟨y5, r', rfl, hy5, hr⟩ := hr.cons
  obtain rfl := hr.nil
  obtain ⟨z1, rfl, -⟩ := hy1.int hi
  obtain ⟨z2, rfl, -⟩ := hy2.int hi
  obtain ⟨z3, rfl, -⟩ := hy3.int hi
  obtain ⟨z4, rfl⟩ := hy4.bool hb
  obtain ⟨sc, k1, k2, -⟩ := hy5.pairsU hs hu hv hl
  refine ⟨⟨z1, z2, z3, z4, y5, sc, 0, 0, 0⟩ :: l, by simp [q1], by rw [iv, List.flatten_cons, q2]; rfl, fun e he => ?_⟩
  rcases List.mem_cons.1 he with rfl | he
  ·exact ⟨k1, k2⟩
  ·exact q3 e he
theorem LTy.e5s {P : Program} {H : ac} {n : Nat} {t e ti tb ts te u v : TypeId} {x : AV} (ht : P.underlying t = some (.slice e)) (hle : bI P (n + 2) e = some [ti, ti, ti, tb, ts]) (hi : P.underlying ti = some (.int .i64)) (hb : P.underlying tb = some .bool) (hs : P.underlying ts = some (.slice te)) (hu : P.underlying u = some (.int .i64)) (hv : P.underlying v = some (.int .i64)) (hl : bI P (n + 1) te = some [u, v]) (h : LTy P H (n + 3) t x) :
  ∃ l : List Ev, Sl H 5 x l.length (e5R l) ∧ l.length ≤ maxLen ∧ evOk H l := by
 obtain ⟨b, rows, rfl, k1, k2, k3⟩ := h.slice ht hle
 obtain ⟨l, q1, q2, q3⟩ := rows_e5 hi hb hs hu hv hl rows k3
 exact ⟨l, ⟨b, false, none, by rw [q1], by rw [← q2]; exact k2⟩, by omega, q3⟩
def laM : List T6 := [(42, 32, 42, 32, 0, 1), (43, 32, 43, 32, 0, 1), (44, 32, 44, 32, 0, 1), (45, 32, 45, 32, 0, 1), (46, 32, 46, 32, 0, 1), (47, 32, 47, 32, 0, 1), (48, 32, 48, 32, 0, 1), (49, 32, 49, 32, 0, 1), (50, 32, 50, 32, 0, 1)]
theorem lb_im : imA laL 0 (stF false 10) 0 0 0 = true := by decide +kernel
theorem lb_is : imS laL 0 (stF false 10) 0 0 0 laL.length = laM := by decide +kernel
theorem lb_r : bB 4 1 [1, 1, 1, 2] laM [(0, 3)] 4 32 = [] := by decide +kernel
theorem lb_s : bU laM = true := by decide +kernel
theorem lb_c1 : cJ 0 10 = true := by decide +kernel
theorem lb_c2 : cJ 0 0 = true := by decide +kernel
theorem lb_h : hulN laM (laM.length - 1) = (42, 32, 50, 32, 0, 1) := by decide +kernel
theorem lb_m : lsB [(100, 32, 100, 32, 0, 1)] = true := by decide +kernel
theorem lb_v : volS [(100, 32, 100, 32, 0, 1)] ([(100, 32, 100, 32, 0, 1)] : List T6).length = 1 := by decide +kernel
open Go.RowKit
theorem sml25_c (H : ac) (s : AV) (l : List T6) (hs : Sl H 6 s l.length (r6 l)) (hl : l.length ≤ 9223372036854775807) : ACalls Tryz.prog 62 [s] H (fun v H' => v = .bool (smlB l) ∧ H' = H) := by
 obtain ⟨bs, os, cs, rfl, hbs⟩ := hs
 have hbls := getElem?_lt hbs
 have hb0s := fun l => aD (l := l) hbs
 refine AcT true Tryz.func62 ?_; intro hbel Q hQ
 have g'1 := (jn @hbs @hb0s)
 refine aa g'1 ?_
 refine go_loop try_mixed (by kernel_rfl) (fun k F Hx => ∃ i : Nat, i + k = l.length ∧ (∀ j : Nat, j < i → smlC (g6 l j) = true) ∧ F = [(0, .sl (some (bs, 0)) l.length cs), (3, .int .i64 ((i : Nat) : Int))] ∧ H = Hx) (l.length) ?_ ?_
 ·refine ⟨_, _, _, ⟨0, by omega, fun j h => by omega, rfl, rfl⟩, Abs.by0 hbel ?_⟩
  exact bj
 ·rintro k0 F Hx ⟨i, hm0, hall, rfl, rfl⟩ J0 hJ0
  refine aa g'1 ?_
  refine az (fun h1 => ?_) (fun h1 => ?_)
  ·have h1d := bsT h1
   have hlt : i < l.length := by omega
   have g'2 := (jn @h1 (jn @h1d g'1))
   refine aa g'2 ?_
   refine aq (fun h2 => ?_) (fun h2 => ?_)
   ·have h2d := bsT h2
    have hi20 : i < 20 := by omega
    have q3 := r6_at5 (l := l) (j := i) (by omega)
    have g'3 := (jn @h2 (jn @h2d (jn @aL (jn @q3 g'2))))
    refine aa g'3 ?_
    refine az (fun h4 => ?_) (fun h4 => ?_)
    ·have h4d := bsT h4
     have ha1 := decide_eq_false (p := 8 < g66 l i) (by omega)
     have q5 := r6_at2 (l := l) (j := i) (by omega)
     have q6 := r6_at0 (l := l) (j := i) (by omega)
     have g'4 := (jn @h4 (jn @h4d (jn @q5 (jn @q6 g'3))))
     refine aa g'4 ?_
     refine az (fun h7 => ?_) (fun h7 => ?_)
     ·have h7d := bsT h7
      have ha2 := decide_eq_false (p := 200 < IntKind.i64.wrap (g63 l i - g61 l i)) (by omega)
      have q8 := r6_at3 (l := l) (j := i) (by omega)
      have q9 := r6_at1 (l := l) (j := i) (by omega)
      have g'5 := (jn @h7 (jn @h7d (jn @q8 (jn @q9 g'4))))
      refine aa g'5 ?_
      refine aq (fun h10 => ?_) (fun h10 => ?_)
      ·have h10d := bsT h10
       have hfinS : smlB l = false := smlB_n hlt hi20 (by
        have e : smlC (g6 l i) = (!(decide (8 < g66 l i)) && (!(decide (200 < IntKind.i64.wrap (g63 l i - g61 l i))) && !(decide (200 < IntKind.i64.wrap (g64 l i - g62 l i))))) := rfl
        rw [e, decide_eq_true h10d]; simp)
       have g'6 := (jn @h10 (jn @h10d g'5))
       refine aa g'6 ?_
       exact hQ _ _ (aE (.inl rfl) hbel (x := .bool false) (av Tryz.results62) rfl ⟨by first | (rw [hfinS]; done) | (rw [hfinS]; rfl), rfl⟩)
      ·have h10d := bsT h10
       have ha3 := decide_eq_false (p := 200 < IntKind.i64.wrap (g64 l i - g62 l i)) (by omega)
       have hsi : smlC (g6 l i) = true := by
        have e : smlC (g6 l i) = (!(decide (8 < g66 l i)) && (!(decide (200 < IntKind.i64.wrap (g63 l i - g61 l i))) && !(decide (200 < IntKind.i64.wrap (g64 l i - g62 l i))))) := rfl
        rw [e, ha1, ha2, ha3]; rfl
       have g'7 := (jn @h10 (jn @h10d g'5))
       refine aa g'7 ?_
       refine hJ0 _ _ ⟨k0 - 1, by omega, _, _, _, ⟨i + 1, by omega, fun j hj => by
             rcases Nat.lt_or_ge j i with q | q
             ·exact hall j q
             ·rw [show j = i by omega]; exact hsi, rfl, rfl⟩, Abs.by0 hbel ?_⟩
       exact bj
     ·have h7d := bsT h7
      have hfinS : smlB l = false := smlB_n hlt hi20 (by
       have e : smlC (g6 l i) = (!(decide (8 < g66 l i)) && (!(decide (200 < IntKind.i64.wrap (g63 l i - g61 l i))) && !(decide (200 < IntKind.i64.wrap (g64 l i - g62 l i))))) := rfl
       rw [e, decide_eq_true h7d]; simp)
      have g'8 := (jn @h7 (jn @h7d g'4))
      refine aa g'8 ?_
      exact hQ _ _ (aE (.inl rfl) hbel (x := .bool false) (av Tryz.results62) rfl ⟨by first | (rw [hfinS]; done) | (rw [hfinS]; rfl), rfl⟩)
    ·have h4d := bsT h4
     have hfinS : smlB l = false := smlB_n hlt hi20 (by
      have e : smlC (g6 l i) = (!(decide (8 < g66 l i)) && (!(decide (200 < IntKind.i64.wrap (g63 l i - g61 l i))) && !(decide (200 < IntKind.i64.wrap (g64 l i - g62 l i))))) := rfl
      rw [e, decide_eq_true h4d]; simp)
     have g'9 := (jn @h4 (jn @h4d g'3))
     refine aa g'9 ?_
     exact hQ _ _ (aE (.inl rfl) hbel (x := .bool false) (av Tryz.results62) rfl ⟨by first | (rw [hfinS]; done) | (rw [hfinS]; rfl), rfl⟩)
   ·have h2d := bsT h2
    have hfinS := smlB_y (l := l) (fun j h1 h2 => hall j (by omega))
    have g'10 := (jn @h2 (jn @h2d g'2))
    refine aa g'10 ?_
    exact hQ _ _ (aE (.inl rfl) hbel (x := .bool (decide (((l.length : Nat) : Int) ≤ 4))) (av Tryz.results62) rfl ⟨by first | (rw [hfinS]; done) | (rw [hfinS]; rfl), rfl⟩)
  ·have h1d := bsT h1
   have hfinS := smlB_y (l := l) (fun j h1 h2 => hall j (by omega))
   have g'11 := (jn @h1 (jn @h1d g'1))
   refine aa g'11 ?_
   exact hQ _ _ (aE (.inl rfl) hbel (x := .bool (decide (((l.length : Nat) : Int) ≤ 4))) (av Tryz.results62) rfl ⟨by first | (rw [hfinS]; done) | (rw [hfinS]; rfl), rfl⟩)
theorem few_c (H : ac) (W : Int) (Hh : Int) (pp : AV) (xs : List Int) (s : AV) (l : List T6) (ev : AV) (evs : List Ev) (hpp : Sl H 1 pp xs.length (ints .u8 xs)) (hs : Sl H 6 s l.length (r6 l)) (hev : Sl H 5 ev evs.length (e5R evs)) (hl : l.length ≤ 9223372036854775807) (hel : evs.length ≤ 9223372036854775807) (hvo : evOk H evs) : ACalls Tryz.prog 26 [.agg [.int .i64 W, .int .i64 Hh, pp], s, ev] H (fun v H' => v = .bool (fewB xs l evs) ∧ H' = H) := by
 obtain ⟨bpp, opp, cpp, rfl, hbpp⟩ := hpp
 have hblpp := getElem?_lt hbpp
 have hb0pp := fun l => aD (l := l) hbpp
 obtain ⟨bs, os, cs, rfl, hbs⟩ := hs
 have hbls := getElem?_lt hbs
 have hb0s := fun l => aD (l := l) hbs
 obtain ⟨bev, oev, cev, rfl, hbev⟩ := hev
 have hblev := getElem?_lt hbev
 have hb0ev := fun l => aD (l := l) hbev
 refine AcT true Tryz.func26 ?_; intro hbel Q hQ
 have g'12 := (jn @hbpp (jn @hb0pp (jn @hbs (jn @hb0s (jn @hbev @hb0ev)))))
 refine aa g'12 ?_
 refine go_loop try_mixed (by kernel_rfl) (fun k F Hx => ∃ i : Nat, i + k = evs.length ∧ i ≤ 20 ∧ F = [(1, .sl (some (bs, 0)) l.length cs), (2, .sl (some (bev, 0)) evs.length cev), (3, .ptr (some (H.length, 0))), (7, .int .i64 (fwS evs i)), (8, .int .i64 ((i : Nat) : Int))] ∧ Hx = H ++ [.cells true 0 [.int .i64 W, .int .i64 Hh, .sl (some (bpp, 0)) xs.length cpp]]) (evs.length) ?_ ?_
 ·refine ⟨_, _, _, ⟨0, by omega, by omega, rfl, rfl⟩, Abs.byG hbel [] rfl [0] (by decide) ?_⟩
  exact bl @fwS.eq_1
 ·rintro k0 F Hx ⟨i, hm0, hi2, rfl, rfl⟩ J0 hJ0
  have hfn := fwS_nn evs i
  refine aa g'12 ?_
  refine az (fun h1 => ?_) (fun h1 => ?_)
  ·have h1d := bsT h1
   have hlt : i < evs.length := by omega
   obtain ⟨bq, oq, cq, hsq, hbq⟩ := hvo.at hlt
   have hblq := getElem?_lt hbq
   have hb0q := fun l' => aD (l := l') hbq
   have hscl := hvo.len hlt
   have g'13 := (jn @h1 (jn @h1d g'12))
   refine aa g'13 ?_
   refine aq (fun h2 => ?_) (fun h2 => ?_)
   ·have h2d := bsT h2
    have hi20 : i < 20 := by omega
    have q3 := e5R_at4 (l := evs) (j := i) (by omega) hsq
    have g'14 := (jn @h2 (jn @h2d (jn @dl (jn @q3 g'13))))
    refine aa g'14 ?_
    refine hJ0 _ _ ⟨k0 - 1, by omega, _, _, _, ⟨i + 1, by omega, by omega, rfl, rfl⟩, Abs.byG hbel [] rfl [0] (by decide) ?_⟩
    exact bl @fwS.eq_2
   ·have h2d := bsT h2
    have hfinI : i = min evs.length 20 := by omega
    have g'15 := (jn @h2 (jn @h2d g'13))
    refine aa g'15 ?_
    refine az (fun h4 => ?_) (fun h4 => ?_)
    ·have h4d := bsT h4
     have g'16 := (jn @h4 (jn @h4d g'15))
     refine aa g'16 ?_
     refine aj (by kernel_rfl) (sml25_c _ _ l ⟨_, _, _, rfl, by first | exact hb0s _ | exact hbs⟩ (by omega)) ?_
     refine aa g'16 ?_
     refine az (fun h5 => ?_) (fun h5 => ?_)
     ·have h5d := bsT h5
      have g'17 := (jn @h5 (jn @h5d g'16))
      refine aa g'17 ?_
      refine az (fun h6 => ?_) (fun h6 => ?_)
      ·have h6d := bsT h6
       have g'18 := (jn @h6 (jn @h6d g'17))
       refine aa g'18 ?_
       exact hQ _ _ (ai (.inl rfl) hbel (x := .bool (decide ((fwS evs i) ≤ 8))) (av Tryz.results26) rfl ⟨by unfold fewB; rw [← hfinI]; simp only [h1d, h2d, h4d, h5d, h6d, hfinI, h1, h2, h4, h5, h6, hfinI, Bool.true_and, Bool.and_true, Bool.false_and, Bool.and_false, decide_true, decide_false], rfl⟩)
      ·have h6d := bsT h6
       have g'19 := (jn @h6 (jn @h6d g'17))
       refine aa g'19 ?_
       exact hQ _ _ (ai (.inl rfl) hbel (x := .bool false) (av Tryz.results26) rfl ⟨by unfold fewB; rw [← hfinI]; simp only [h1d, h2d, h4d, h5d, h6d, hfinI, h1, h2, h4, h5, h6, hfinI, Bool.true_and, Bool.and_true, Bool.false_and, Bool.and_false, decide_true, decide_false], rfl⟩)
     ·have h5d := bsT h5
      have g'20 := (jn @h5 (jn @h5d g'16))
      refine aa g'20 ?_
      exact hQ _ _ (ai (.inl rfl) hbel (x := .bool false) (av Tryz.results26) rfl ⟨by unfold fewB; rw [← hfinI]; simp only [h1d, h2d, h4d, h5d, hfinI, h1, h2, h4, h5, hfinI, Bool.true_and, Bool.and_true, Bool.false_and, Bool.and_false, decide_true, decide_false], rfl⟩)
    ·have h4d := bsT h4
     have g'21 := (jn @h4 (jn @h4d g'15))
     refine aa g'21 ?_
     exact hQ _ _ (ai (.inl rfl) hbel (x := .bool false) (av Tryz.results26) rfl ⟨by unfold fewB; rw [← hfinI]; simp only [h1d, h2d, h4d, hfinI, h1, h2, h4, hfinI, Bool.true_and, Bool.and_true, Bool.false_and, Bool.and_false, decide_true, decide_false], rfl⟩)
  ·have h1d := bsT h1
   have hfinI : i = min evs.length 20 := by omega
   have g'22 := (jn @h1 (jn @h1d g'12))
   refine aa g'22 ?_
   refine az (fun h7 => ?_) (fun h7 => ?_)
   ·have h7d := bsT h7
    have g'23 := (jn @h7 (jn @h7d g'22))
    refine aa g'23 ?_
    refine aj (by kernel_rfl) (sml25_c _ _ l ⟨_, _, _, rfl, by first | exact hb0s _ | exact hbs⟩ (by omega)) ?_
    refine aa g'23 ?_
    refine az (fun h8 => ?_) (fun h8 => ?_)
    ·have h8d := bsT h8
     have g'24 := (jn @h8 (jn @h8d g'23))
     refine aa g'24 ?_
     refine az (fun h9 => ?_) (fun h9 => ?_)
     ·have h9d := bsT h9
      have g'25 := (jn @h9 (jn @h9d g'24))
      refine aa g'25 ?_
      exact hQ _ _ (ai (.inl rfl) hbel (x := .bool (decide ((fwS evs i) ≤ 8))) (av Tryz.results26) rfl ⟨by unfold fewB; rw [← hfinI]; simp only [h1d, h7d, h8d, h9d, hfinI, h1, h7, h8, h9, hfinI, Bool.true_and, Bool.and_true, Bool.false_and, Bool.and_false, decide_true, decide_false], rfl⟩)
     ·have h9d := bsT h9
      have g'26 := (jn @h9 (jn @h9d g'24))
      refine aa g'26 ?_
      exact hQ _ _ (ai (.inl rfl) hbel (x := .bool false) (av Tryz.results26) rfl ⟨by unfold fewB; rw [← hfinI]; simp only [h1d, h7d, h8d, h9d, hfinI, h1, h7, h8, h9, hfinI, Bool.true_and, Bool.and_true, Bool.false_and, Bool.and_false, decide_true, decide_false], rfl⟩)
    ·have h8d := bsT h8
     have g'27 := (jn @h8 (jn @h8d g'23))
     refine aa g'27 ?_
     exact hQ _ _ (ai (.inl rfl) hbel (x := .bool false) (av Tryz.results26) rfl ⟨by unfold fewB; rw [← hfinI]; simp only [h1d, h7d, h8d, hfinI, h1, h7, h8, hfinI, Bool.true_and, Bool.and_true, Bool.false_and, Bool.and_false, decide_true, decide_false], rfl⟩)
   ·have h7d := bsT h7
    have g'28 := (jn @h7 (jn @h7d g'22))
    refine aa g'28 ?_
    exact hQ _ _ (ai (.inl rfl) hbel (x := .bool false) (av Tryz.results26) rfl ⟨by unfold fewB; rw [← hfinI]; simp only [h1d, h7d, hfinI, h1, h7, hfinI, Bool.true_and, Bool.and_true, Bool.false_and, Bool.and_false, decide_true, decide_false], rfl⟩)
end Go.Proofs.YtojbkljfioegkaaGreat
