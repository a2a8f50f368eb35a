/- Proved: the law KnownOrder returns true on every input, and its arguments read afterwards as before. Conditions: none beyond the given row's. -/
import Derived.Test.YtcokgigjmjlmnaaGreatG4
import Derived.Test.YtcokgigjmjlmnaaGreatG3
import Derived.Deep.RegionHeld3
namespace Go.Proofs.YtcokgigjmjlmnaaGreat
set_option linter.unusedSimpArgs false
set_option linter.unusedVariables false
open Go.RowKit
set_option maxHeartbeats 4000000
set_option maxRecDepth 100000
theorem proven_c (H : AHeap) (W : Int) (Hh : Int) (pp : AV) (xs : List Int) (s : AV) (l : List T6) (m : Int) (r : Int) (g : Int) (hpp : Sl H 1 pp xs.length (ints .u8 xs)) (hs : Sl H 6 s l.length (r6 l)) (hV : vldB W Hh xs = true) (hS : setB l = true) (hl0 : 0 < l.length) (hr : -1 ≤ r ∧ r ≤ 1024) (hg : 1 ≤ g ∧ g ≤ 32) : ACalls Tryz.prog 168 [.agg [.int .i64 W, .int .i64 Hh, pp], s, .agg [.int .i64 m, .int .i64 r], .int .i64 g] H (fun v H' => v = .sl (some (H.length, 0)) ((prvL W Hh l m r g).length) (capG (prvL W Hh l m r g).length) ∧ H' = H ++ [.cells (ownG (prvL W Hh l m r g).length) 2 (prs (prvL W Hh l m r g))]) := by
  obtain ⟨bpp, opp, cpp, rfl, hbpp⟩ := hpp
  have hblpp := getElem?_lt hbpp
  have hb0pp := fun l => get_app (l := l) hbpp
  obtain ⟨bs, os, cs, rfl, hbs⟩ := hs
  have hbls := getElem?_lt hbs
  have hb0s := fun l => get_app (l := l) hbs
  have hvl := vld_iff.1 hV
  have hWb : 1 ≤ W ∧ W ≤ 64 ∧ 1 ≤ Hh ∧ Hh ≤ 64 := by obtain ⟨a, b, c, d, -⟩ := hvl; omega
  have hda := dirA_len hS m
  have hpair : ∀ j', j' < (dirA l m).length → bxB (g91 (dirA l m) j') (g92 (dirA l m) j') (g93 (dirA l m) j') (g94 (dirA l m) j') (g95 (dirA l m) j') (g96 (dirA l m) j') = true := fun j' hj' => by
    have k := dirA_ok hS (g9_mem hj')
    unfold pairB at k; rw [Bool.and_eq_true] at k; exact k.1
  have hp0 := hpair 0 (by omega)
  have hfl := fstL_len l m (farF r g)
  (refine ACalls_pieces Tryz.func168 _ rfl (Nat.le_of_ble_eq_true (by kernel_rfl)) rfl ?_; intro hbel Q hQ hQ' c hc; unfold Tryz.f168 at hc; simp only [Option.some.injEq] at hc; subst hc; clear hQ')
  refine AW_seqQ fun Q1 hn1 hr1 he1 => ?_
  have hQ1 := fun F H' h => hr1 F H' (hQ F H' h)
  refine AW_fin false try_mixed (by kernel_rfl) ?_
  have g'1 := (jn @hbpp (jn @hb0pp (jn @hbs @hb0s)))
  refine runTf g'1 ?_
  refine hn1 _ _ ?_
  refine AW_seqQ fun Q2 hn2 hr2 he2 => ?_
  have hQ2 := fun F H' h => hr2 F H' (hQ F H' h)
  refine AW_fin false try_mixed (by kernel_rfl) ?_
  refine runTf g'1 ?_
  refine hn2 _ _ ?_
  refine AW_seqQ fun Q3 hn3 hr3 he3 => ?_
  have hQ3 := fun F H' h => hr3 F H' (hQ F H' h)
  refine AW_fin false try_mixed (by kernel_rfl) ?_
  refine runTf g'1 ?_
  refine cond_split (fun h1 => ?_) (fun h1 => ?_)
  · have h1d := bsT h1
    have h1n := bnT h1
    have hr1 : r = -1 := by simpa using h1d
    have hsf1 : 1024 - g = farF r g := (if_pos hr1).symm
    have g'2 := (jn @h1 (jn @h1n (jn @int_bne (jn @int_beq (jn @hsf1 g'1)))))
    refine runTf g'2 ?_
    refine hn3 _ _ ?_
    refine AW_seqQ fun Q4 hn4 hr4 he4 => ?_
    have hQ4 := fun F H' h => hr4 F H' (hQ F H' h)
    refine AW_fin false try_mixed (by kernel_rfl) ?_
    refine runTf g'2 ?_
    refine cond_split (fun h2 => ?_) (fun h2 => ?_)
    · have h2d := bsT h2
      have hfinL : prvL W Hh l m r g = [] := if_pos h2d
      have g'3 := (jn @h2 (jn @h2d g'2))
      refine runTf g'3 ?_
      refine hQ4 _ _ (end_byG (.inl rfl) hbel (x1 := .sl none 0 (some 0)) (l2 := [.cells false 2 []]) (.sl (some (H.length, 0)) 0 (some 0)) (resT Tryz.results168) [.cells false 2 []] rfl [3] (by decide) ⟨by first | (rw [hfinL]; done) | (rw [hfinL]; rfl), by first | (rw [hfinL]; done) | (rw [hfinL]; rfl)⟩ ?_)
      exact absW
    · have h2d := bsT h2
      have hfar := h2d
      have g'4 := (jn @h2 (jn @h2d g'2))
      refine runTf g'4 ?_
      refine hn4 _ _ ?_
      refine AW_seqQ fun Q5 hn5 hr5 he5 => ?_
      have hQ5 := fun F H' h => hr5 F H' (hQ F H' h)
      refine AW_fin false try_mixed (by kernel_rfl) ?_
      refine runTf g'4 ?_
      refine call_v (by kernel_rfl) (directed_c _ _ l m r ⟨_, _, _, rfl, by first | exact hb0s _ | exact hbs⟩ (by assumption)) ?_
      refine runTf g'4 ?_
      refine hn5 _ _ ?_
      refine AW_specialZ false try_mixed [[0, 1, 2, 3, 4, 5, 6, 7, 8, 9, 10, 11, 12, 13, 14, 15, 16, 17], [0, 1, 2, 3, 7, 8, 9, 11, 4, 5, 6, 10, 12, 13, 14, 15, 16, 17], [0, 1, 2, 3, 7, 8, 9, 10, 4, 5, 6, 11, 12, 13, 14, 15, 16, 17], [0, 1, 2, 3, 7, 8, 9, 10, 11, 4, 5, 6, 12, 13, 14, 15, 16, 17]] (by kernel_rfl) (fun F2 H2 => F2 = [(4, .ptr (some (H.length, 0))), (8, .sl none 0 (some 0)), (9, .ptr (some (H.length + 1, 0))), (10, .sl (some (H.length + 2, 0)) ((dirA l m).length) (capG (dirA l m).length)), (11, .sl (some (H.length + 3, 0)) ((fstL l m (farF r g)).length) (capG (fstL l m (farF r g)).length))] ∧ H2 = H ++ [.cells true 0 [.int .i64 W, .int .i64 Hh, .sl (some (bpp, 0)) xs.length cpp], .cells true 0 [.int .i64 (farF r g)], .cells (ownG (dirA l m).length) 9 (r9 (dirA l m)), .cells (ownG (fstL l m (farF r g)).length) 2 (prs (fstL l m (farF r g)))]) ?_ ?_
      · refine reps_cons ?_ (reps_cons ?_ (reps_cons ?_ (reps_cons ?_ (reps_nil)))) <;> intro J hJ
        · skip
          have q3 := r9_q0 (l := dirA l m) (by omega)
          have g'5 := (jn @r9_len (jn @q3 g'4))
          refine runDf g'5 ?_
          refine call_x (by kernel_rfl) (by simp) (corners_c _ (g91 (dirA l m) 0) (g92 (dirA l m) 0) (g93 (dirA l m) 0) (g94 (dirA l m) 0) (g95 (dirA l m) 0) (g96 (dirA l m) 0) (by assumption)) ?_
          have q4 := r9_q6 (l := dirA l m) (by omega)
          have g'6 := (jn @q4 g'5)
          refine runDf g'6 ?_
          refine call_x (by kernel_rfl) (by simp) (tracedf_c _ l m (farF r g)) ?_
          refine runDf g'6 ?_
          refine inv_of (hJ _ _ ⟨_, _, _, ⟨rfl, rfl⟩, Abs.byG hbel [] rfl [0, 2, 3, 5] (by decide) ?_⟩)
          exact absRf (jn @r9_append (jn @r9_cons (jn @r9_nil @mvs_r9)))
        · skip
          have q5 := r9_q0 (l := dirA l m) (by omega)
          have g'7 := (jn @r9_len (jn @q5 g'4))
          refine runDf g'7 ?_
          refine call_x (by kernel_rfl) (by simp) (corners_c _ (g91 (dirA l m) 0) (g92 (dirA l m) 0) (g93 (dirA l m) 0) (g94 (dirA l m) 0) (g95 (dirA l m) 0) (g96 (dirA l m) 0) (by assumption)) ?_
          have q6 := r9_q6 (l := dirA l m) (by omega)
          have g'8 := (jn @q6 g'7)
          refine runDf g'8 ?_
          refine call_x (by kernel_rfl) (by simp) (tracedf_c _ l m (farF r g)) ?_
          refine runDf g'8 ?_
          refine inv_of (hJ _ _ ⟨_, _, _, ⟨rfl, rfl⟩, Abs.byG hbel [] rfl [0, 2, 3, 5] (by decide) ?_⟩)
          exact absRf (jn @r9_append (jn @r9_cons (jn @r9_nil @mvs_r9)))
        · skip
          have q7 := r9_q0 (l := dirA l m) (by omega)
          have q8 := r9_q6 (l := dirA l m) (by omega)
          have g'9 := (jn @r9_len (jn @q7 (jn @q8 g'4)))
          refine runDf g'9 ?_
          refine call_x (by kernel_rfl) (by simp) (corners_c _ (g91 (dirA l m) 0) (g92 (dirA l m) 0) (g93 (dirA l m) 0) (g94 (dirA l m) 0) (g95 (dirA l m) 0) (g96 (dirA l m) 0) (by assumption)) ?_
          refine runDf g'9 ?_
          refine call_x (by kernel_rfl) (by simp) (tracedf_c _ l m (farF r g)) ?_
          refine runDf g'9 ?_
          refine inv_of (hJ _ _ ⟨_, _, _, ⟨rfl, rfl⟩, Abs.byG hbel [] rfl [0, 2, 3, 5] (by decide) ?_⟩)
          exact absRf (jn @r9_append (jn @r9_cons (jn @r9_nil @mvs_r9)))
        · skip
          have q9 := r9_q0 (l := dirA l m) (by omega)
          have q10 := r9_q6 (l := dirA l m) (by omega)
          have g'10 := (jn @r9_len (jn @q9 (jn @q10 g'4)))
          refine runDf g'10 ?_
          refine call_x (by kernel_rfl) (by simp) (corners_c _ (g91 (dirA l m) 0) (g92 (dirA l m) 0) (g93 (dirA l m) 0) (g94 (dirA l m) 0) (g95 (dirA l m) 0) (g96 (dirA l m) 0) (by assumption)) ?_
          refine runDf g'10 ?_
          refine call_x (by kernel_rfl) (by simp) (tracedf_c _ l m (farF r g)) ?_
          refine runDf g'10 ?_
          refine inv_of (hJ _ _ ⟨_, _, _, ⟨rfl, rfl⟩, Abs.byG hbel [] rfl [0, 2, 3, 5] (by decide) ?_⟩)
          exact absRf (jn @r9_append (jn @r9_cons (jn @r9_nil @mvs_r9)))
      rintro F2 H2 ⟨rfl, rfl⟩
      refine AW_fin false try_mixed (by kernel_rfl) ?_
      have g'11 := (jn @r9_len (jn @r9_one (jn @prs_len (jn @prs_one g'4))))
      refine runTf g'11 ?_
      refine go_loop try_mixed (by kernel_rfl) (fun k F Hx => ∃ j : Nat, j + k = (fstL l m (farF r g)).length ∧ F = [(4, .ptr (some (H.length, 0))), (9, .ptr (some (H.length + 1, 0))), (10, .sl (some (H.length + 2, 0)) ((dirA l m).length) (capG (dirA l m).length)), (13, .sl (some (H.length + 4, 0)) ((((fstL l m (farF r g)).take j).filter (okcB W Hh l m (farF r g))).length) (capG (((fstL l m (farF r g)).take j).filter (okcB W Hh l m (farF r g))).length)), (49, .sl (some (H.length + 3, 0)) ((fstL l m (farF r g)).length) (capG (fstL l m (farF r g)).length)), (50, .int .i64 (((fstL l m (farF r g)).length : Nat) : Int)), (51, .int .i64 ((j : Nat) : Int))] ∧ Hx = H ++ [.cells true 0 [.int .i64 W, .int .i64 Hh, .sl (some (bpp, 0)) xs.length cpp], .cells true 0 [.int .i64 (farF r g)], .cells (ownG (dirA l m).length) 9 (r9 (dirA l m)), .cells (ownG (fstL l m (farF r g)).length) 2 (prs (fstL l m (farF r g))), .cells (ownG (((fstL l m (farF r g)).take j).filter (okcB W Hh l m (farF r g))).length) 2 (prs (((fstL l m (farF r g)).take j).filter (okcB W Hh l m (farF r g))))]) ((fstL l m (farF r g)).length) ?_ ?_
      · refine ⟨_, _, _, ⟨0, by omega, rfl, rfl⟩, Abs.byG hbel [.cells false 2 []] rfl [0, 1, 2, 3, 4] (by decide) ?_⟩
        exact absRf (jn @List.take_zero.{0} (jn @List.filter_nil.{0} (jn @r9_append (jn @r9_cons (jn @r9_nil @mvs_r9)))))
      · rintro k0 F Hx ⟨j, hm0, rfl, rfl⟩ J0 hJ0
        refine runTf g'11 ?_
        refine cond_split (fun h11 => ?_) (fun h11 => ?_)
        · have h11d := bsT h11
          have hlt : j < (fstL l m (farF r g)).length := by omega
          have hpr := (pr_eq hlt).symm
          have hst := flt_step (p := (okcB W Hh l m (farF r g))) hlt
          have hfln := flt_len (p := (okcB W Hh l m (farF r g))) (l := (fstL l m (farF r g))) (j := j)
          have q12 := prs_load (l := fstL l m (farF r g)) (j := j) (by omega)
          have g'12 := (jn @h11 (jn @h11d (jn @q12 g'11)))
          refine runTf g'12 ?_
          rcases Bool.eq_false_or_eq_true (sqO (g1 (fstL l m (farF r g)) j) (g2 (fstL l m (farF r g)) j)) with h13 | h13
          · have h13d := h13
            have hsq := h13d
            refine call_v (by kernel_rfl) (psqr_t _ (g1 (fstL l m (farF r g)) j) (g2 (fstL l m (farF r g)) j) (by assumption)) ?_
            have g'13 := (jn @h13 (jn @h13d g'12))
            refine runTf g'13 ?_
            refine call_v (by kernel_rfl) (kwithin_c _ (g1 (fstL l m (farF r g)) j) 0 (W - 1)) ?_
            refine runTf g'13 ?_
            refine gd_split (fun h14 => ?_) (fun h14 => ?_)
            · have h14d := bsT h14
              have hbx := h14d
              have g'14 := (jn @h14 (jn @h14d g'13))
              refine runTf g'14 ?_
              refine call_v (by kernel_rfl) (kwithin_c _ (g2 (fstL l m (farF r g)) j) 0 (Hh - 1)) ?_
              refine runTf g'14 ?_
              refine gd_split (fun h15 => ?_) (fun h15 => ?_)
              · have h15d := bsT h15
                have hby := h15d
                have g'15 := (jn @h15 (jn @h15d g'14))
                refine runTf g'15 ?_
                refine call_v (by kernel_rfl) (has_r _ _ (dirA l m) ⟨_, _, _, by first | rfl | (rw [List.length_append]; done) | (rw [List.length_append]; rfl), by first | rfl | (rw [get_newk]; rfl) | (rw [get_new0]; rfl) | (rw [get_newk, prs_append]; rfl) | (rw [get_new0, prs_append]; rfl)⟩ (by omega) _ [.ptr (some (H.length + 6, 0)), .ptr (some (H.length + 1, 0))] (by kernel_rfl) (by simp [AV.bels, AV.bel]) (fun e => !psC e (farF r g) (g1 (fstL l m (farF r g)) j, g2 (fstL l m (farF r g)) j)) (fun j' hj' => kprv1_c _ _ _ _ _ _ _ _ _ _ _ _ _ _ _ _ _ ⟨_, by first | (rw [get_newk]; rfl) | (rw [get_new0]; rfl)⟩ ⟨_, by first | (rw [get_newk]; rfl) | (rw [get_new0]; rfl)⟩ (hpair _ hj'))) ?_
                refine runTf g'15 ?_
                refine cond_split (fun h16 => ?_) (fun h16 => ?_)
                · have h16d := bsT h16
                  have hok : okcB W Hh l m (farF r g) (g1 (fstL l m (farF r g)) j, g2 (fstL l m (farF r g)) j) = true := by unfold okcB prvB; rw [hbx, hby, List.all_eq_not_any_not, h16d]; rfl
                  rw [hpr, if_pos hok] at hst
                  have g'16 := (jn @h16 (jn @h16d (jn @capG_s g'15)))
                  refine runTf g'16 ?_
                  refine hJ0 _ _ ⟨k0 - 1, by omega, _, _, _, ⟨j + 1, by omega, rfl, rfl⟩, Abs.byG hbel [] rfl [0, 1, 2, 3, 8] (by decide) ?_⟩
                  exact absRf (jn @hst (jn @r9_append (jn @r9_cons (jn @r9_nil @mvs_r9))))
                · have h16d := bsT h16
                  have hok : okcB W Hh l m (farF r g) (g1 (fstL l m (farF r g)) j, g2 (fstL l m (farF r g)) j) = false := by unfold okcB prvB; rw [hbx, hby, List.all_eq_not_any_not, h16d]; rfl
                  rw [hpr, if_neg (by rw [hok]; decide), List.append_nil] at hst
                  have g'17 := (jn @h16 (jn @h16d g'15))
                  refine runTf g'17 ?_
                  refine hJ0 _ _ ⟨k0 - 1, by omega, _, _, _, ⟨j + 1, by omega, rfl, rfl⟩, Abs.byG hbel [] rfl [0, 1, 2, 3, 4] (by decide) ?_⟩
                  exact absRf (jn @hst (jn @r9_append (jn @r9_cons (jn @r9_nil @mvs_r9))))
              · have h15d := bsT h15
                have hok : okcB W Hh l m (farF r g) (g1 (fstL l m (farF r g)) j, g2 (fstL l m (farF r g)) j) = false := by unfold okcB; rw [hbx, h15d]; rfl
                rw [hpr, if_neg (by rw [hok]; decide), List.append_nil] at hst
                have g'18 := (jn @h15 (jn @h15d g'14))
                refine runTf g'18 ?_
                refine hJ0 _ _ ⟨k0 - 1, by omega, _, _, _, ⟨j + 1, by omega, rfl, rfl⟩, Abs.byG hbel [] rfl [0, 1, 2, 3, 4] (by decide) ?_⟩
                exact absRf (jn @hst (jn @r9_append (jn @r9_cons (jn @r9_nil @mvs_r9))))
            · have h14d := bsT h14
              have hok : okcB W Hh l m (farF r g) (g1 (fstL l m (farF r g)) j, g2 (fstL l m (farF r g)) j) = false := by unfold okcB; rw [h14d]; rfl
              rw [hpr, if_neg (by rw [hok]; decide), List.append_nil] at hst
              have g'19 := (jn @h14 (jn @h14d g'13))
              refine runTf g'19 ?_
              refine hJ0 _ _ ⟨k0 - 1, by omega, _, _, _, ⟨j + 1, by omega, rfl, rfl⟩, Abs.byG hbel [] rfl [0, 1, 2, 3, 4] (by decide) ?_⟩
              exact absRf (jn @hst (jn @r9_append (jn @r9_cons (jn @r9_nil @mvs_r9))))
          · have h13d := h13
            have hsq := h13d
            refine call_v (by kernel_rfl) (psqr_f _ (g1 (fstL l m (farF r g)) j) (g2 (fstL l m (farF r g)) j) (by assumption)) ?_
            have g'20 := (jn @h13 (jn @h13d g'12))
            refine runTf g'20 ?_
            refine call_v (by kernel_rfl) (kwithin_c _ (g1 (fstL l m (farF r g)) j) 0 (W - 1)) ?_
            refine runTf g'20 ?_
            refine gd_split (fun h17 => ?_) (fun h17 => ?_)
            · have h17d := bsT h17
              have hbx := h17d
              have g'21 := (jn @h17 (jn @h17d g'20))
              refine runTf g'21 ?_
              refine call_v (by kernel_rfl) (kwithin_c _ (g2 (fstL l m (farF r g)) j) 0 (Hh - 1)) ?_
              refine runTf g'21 ?_
              refine gd_split (fun h18 => ?_) (fun h18 => ?_)
              · have h18d := bsT h18
                have hby := h18d
                have hq1 := btw_iff.1 hbx
                have hq2 := btw_iff.1 hby
                exact absurd (show sqO (g1 (fstL l m (farF r g)) j) (g2 (fstL l m (farF r g)) j) = true by unfold sqO; rw [Bool.and_eq_true, within_iff, within_iff]; omega) (by rw [hsq]; decide)
              · have h18d := bsT h18
                have hok : okcB W Hh l m (farF r g) (g1 (fstL l m (farF r g)) j, g2 (fstL l m (farF r g)) j) = false := by unfold okcB; rw [hbx, h18d]; rfl
                rw [hpr, if_neg (by rw [hok]; decide), List.append_nil] at hst
                have g'22 := (jn @h18 (jn @h18d g'21))
                refine runTf g'22 ?_
                refine hJ0 _ _ ⟨k0 - 1, by omega, _, _, _, ⟨j + 1, by omega, rfl, rfl⟩, Abs.byG hbel [] rfl [0, 1, 2, 3, 4] (by decide) ?_⟩
                exact absRf (jn @hst (jn @r9_append (jn @r9_cons (jn @r9_nil @mvs_r9))))
            · have h17d := bsT h17
              have hok : okcB W Hh l m (farF r g) (g1 (fstL l m (farF r g)) j, g2 (fstL l m (farF r g)) j) = false := by unfold okcB; rw [h17d]; rfl
              rw [hpr, if_neg (by rw [hok]; decide), List.append_nil] at hst
              have g'23 := (jn @h17 (jn @h17d g'20))
              refine runTf g'23 ?_
              refine hJ0 _ _ ⟨k0 - 1, by omega, _, _, _, ⟨j + 1, by omega, rfl, rfl⟩, Abs.byG hbel [] rfl [0, 1, 2, 3, 4] (by decide) ?_⟩
              exact absRf (jn @hst (jn @r9_append (jn @r9_cons (jn @r9_nil @mvs_r9))))
        · have h11d := bsT h11
          obtain rfl : j = (fstL l m (farF r g)).length := by omega
          have hfinL : ((fstL l m (farF r g)).take (fstL l m (farF r g)).length).filter (okcB W Hh l m (farF r g)) = prvL W Hh l m r g := by rw [List.take_length]; exact (if_neg hfar).symm
          have g'24 := (jn @h11 (jn @h11d g'11))
          refine runTf g'24 ?_
          refine hQ _ _ (end_byG (.inl rfl) hbel (x1 := .sl (some (H.length + 4, 0)) ((((fstL l m (farF r g)).take (fstL l m (farF r g)).length).filter (okcB W Hh l m (farF r g))).length) (capG (((fstL l m (farF r g)).take (fstL l m (farF r g)).length).filter (okcB W Hh l m (farF r g))).length)) (l2 := [.cells (ownG (((fstL l m (farF r g)).take (fstL l m (farF r g)).length).filter (okcB W Hh l m (farF r g))).length) 2 (prs (((fstL l m (farF r g)).take (fstL l m (farF r g)).length).filter (okcB W Hh l m (farF r g))))]) (.sl (some (H.length, 0)) ((((fstL l m (farF r g)).take (fstL l m (farF r g)).length).filter (okcB W Hh l m (farF r g))).length) (capG (((fstL l m (farF r g)).take (fstL l m (farF r g)).length).filter (okcB W Hh l m (farF r g))).length)) (resT Tryz.results168) [] rfl [4] (by decide) ⟨by first | (rw [hfinL]; done) | (rw [hfinL]; rfl), by first | (rw [hfinL]; done) | (rw [hfinL]; rfl)⟩ ?_)
          exact absW
  · have h1d := bsT h1
    have h1n := bnT h1
    have hr1 : ¬ r = -1 := by simpa using h1d
    have hsf1 : r - g = farF r g := (if_neg hr1).symm
    have g'25 := (jn @h1 (jn @h1n (jn @int_bne (jn @int_beq (jn @hsf1 g'1)))))
    refine runTf g'25 ?_
    refine hn3 _ _ ?_
    refine AW_seqQ fun Q6 hn6 hr6 he6 => ?_
    have hQ6 := fun F H' h => hr6 F H' (hQ F H' h)
    refine AW_fin false try_mixed (by kernel_rfl) ?_
    refine runTf g'25 ?_
    refine cond_split (fun h19 => ?_) (fun h19 => ?_)
    · have h19d := bsT h19
      have hfinL : prvL W Hh l m r g = [] := if_pos h19d
      have g'26 := (jn @h19 (jn @h19d g'25))
      refine runTf g'26 ?_
      refine hQ6 _ _ (end_byG (.inl rfl) hbel (x1 := .sl none 0 (some 0)) (l2 := [.cells false 2 []]) (.sl (some (H.length, 0)) 0 (some 0)) (resT Tryz.results168) [.cells false 2 []] rfl [3] (by decide) ⟨by first | (rw [hfinL]; done) | (rw [hfinL]; rfl), by first | (rw [hfinL]; done) | (rw [hfinL]; rfl)⟩ ?_)
      exact absW
    · have h19d := bsT h19
      have hfar := h19d
      have g'27 := (jn @h19 (jn @h19d g'25))
      refine runTf g'27 ?_
      refine hn6 _ _ ?_
      refine AW_seqQ fun Q7 hn7 hr7 he7 => ?_
      have hQ7 := fun F H' h => hr7 F H' (hQ F H' h)
      refine AW_fin false try_mixed (by kernel_rfl) ?_
      refine runTf g'27 ?_
      refine call_v (by kernel_rfl) (directed_c _ _ l m r ⟨_, _, _, rfl, by first | exact hb0s _ | exact hbs⟩ (by assumption)) ?_
      refine runTf g'27 ?_
      refine hn7 _ _ ?_
      refine AW_specialZ false try_mixed [[0, 1, 2, 3, 4, 5, 6, 7, 8, 9, 10, 11, 12, 13, 14, 15, 16, 17], [0, 1, 2, 3, 7, 8, 9, 11, 4, 5, 6, 10, 12, 13, 14, 15, 16, 17], [0, 1, 2, 3, 7, 8, 9, 10, 4, 5, 6, 11, 12, 13, 14, 15, 16, 17], [0, 1, 2, 3, 7, 8, 9, 10, 11, 4, 5, 6, 12, 13, 14, 15, 16, 17]] (by kernel_rfl) (fun F2 H2 => F2 = [(4, .ptr (some (H.length, 0))), (8, .sl none 0 (some 0)), (9, .ptr (some (H.length + 1, 0))), (10, .sl (some (H.length + 2, 0)) ((dirA l m).length) (capG (dirA l m).length)), (11, .sl (some (H.length + 3, 0)) ((fstL l m (farF r g)).length) (capG (fstL l m (farF r g)).length))] ∧ H2 = H ++ [.cells true 0 [.int .i64 W, .int .i64 Hh, .sl (some (bpp, 0)) xs.length cpp], .cells true 0 [.int .i64 (farF r g)], .cells (ownG (dirA l m).length) 9 (r9 (dirA l m)), .cells (ownG (fstL l m (farF r g)).length) 2 (prs (fstL l m (farF r g)))]) ?_ ?_
      · refine reps_cons ?_ (reps_cons ?_ (reps_cons ?_ (reps_cons ?_ (reps_nil)))) <;> intro J hJ
        · skip
          have q20 := r9_q0 (l := dirA l m) (by omega)
          have g'28 := (jn @r9_len (jn @q20 g'27))
          refine runDf g'28 ?_
          refine call_x (by kernel_rfl) (by simp) (corners_c _ (g91 (dirA l m) 0) (g92 (dirA l m) 0) (g93 (dirA l m) 0) (g94 (dirA l m) 0) (g95 (dirA l m) 0) (g96 (dirA l m) 0) (by assumption)) ?_
          have q21 := r9_q6 (l := dirA l m) (by omega)
          have g'29 := (jn @q21 g'28)
          refine runDf g'29 ?_
          refine call_x (by kernel_rfl) (by simp) (tracedf_c _ l m (farF r g)) ?_
          refine runDf g'29 ?_
          refine inv_of (hJ _ _ ⟨_, _, _, ⟨rfl, rfl⟩, Abs.byG hbel [] rfl [0, 2, 3, 5] (by decide) ?_⟩)
          exact absRf (jn @r9_append (jn @r9_cons (jn @r9_nil @mvs_r9)))
        · skip
          have q22 := r9_q0 (l := dirA l m) (by omega)
          have g'30 := (jn @r9_len (jn @q22 g'27))
          refine runDf g'30 ?_
          refine call_x (by kernel_rfl) (by simp) (corners_c _ (g91 (dirA l m) 0) (g92 (dirA l m) 0) (g93 (dirA l m) 0) (g94 (dirA l m) 0) (g95 (dirA l m) 0) (g96 (dirA l m) 0) (by assumption)) ?_
          have q23 := r9_q6 (l := dirA l m) (by omega)
          have g'31 := (jn @q23 g'30)
          refine runDf g'31 ?_
          refine call_x (by kernel_rfl) (by simp) (tracedf_c _ l m (farF r g)) ?_
          refine runDf g'31 ?_
          refine inv_of (hJ _ _ ⟨_, _, _, ⟨rfl, rfl⟩, Abs.byG hbel [] rfl [0, 2, 3, 5] (by decide) ?_⟩)
          exact absRf (jn @r9_append (jn @r9_cons (jn @r9_nil @mvs_r9)))
        · skip
          have q24 := r9_q0 (l := dirA l m) (by omega)
          have q25 := r9_q6 (l := dirA l m) (by omega)
          have g'32 := (jn @r9_len (jn @q24 (jn @q25 g'27)))
          refine runDf g'32 ?_
          refine call_x (by kernel_rfl) (by simp) (corners_c _ (g91 (dirA l m) 0) (g92 (dirA l m) 0) (g93 (dirA l m) 0) (g94 (dirA l m) 0) (g95 (dirA l m) 0) (g96 (dirA l m) 0) (by assumption)) ?_
          refine runDf g'32 ?_
          refine call_x (by kernel_rfl) (by simp) (tracedf_c _ l m (farF r g)) ?_
          refine runDf g'32 ?_
          refine inv_of (hJ _ _ ⟨_, _, _, ⟨rfl, rfl⟩, Abs.byG hbel [] rfl [0, 2, 3, 5] (by decide) ?_⟩)
          exact absRf (jn @r9_append (jn @r9_cons (jn @r9_nil @mvs_r9)))
        · skip
          have q26 := r9_q0 (l := dirA l m) (by omega)
          have q27 := r9_q6 (l := dirA l m) (by omega)
          have g'33 := (jn @r9_len (jn @q26 (jn @q27 g'27)))
          refine runDf g'33 ?_
          refine call_x (by kernel_rfl) (by simp) (corners_c _ (g91 (dirA l m) 0) (g92 (dirA l m) 0) (g93 (dirA l m) 0) (g94 (dirA l m) 0) (g95 (dirA l m) 0) (g96 (dirA l m) 0) (by assumption)) ?_
          refine runDf g'33 ?_
          refine call_x (by kernel_rfl) (by simp) (tracedf_c _ l m (farF r g)) ?_
          refine runDf g'33 ?_
          refine inv_of (hJ _ _ ⟨_, _, _, ⟨rfl, rfl⟩, Abs.byG hbel [] rfl [0, 2, 3, 5] (by decide) ?_⟩)
          exact absRf (jn @r9_append (jn @r9_cons (jn @r9_nil @mvs_r9)))
      rintro F2 H2 ⟨rfl, rfl⟩
      refine AW_fin false try_mixed (by kernel_rfl) ?_
      have g'34 := (jn @r9_len (jn @r9_one (jn @prs_len (jn @prs_one g'27))))
      refine runTf g'34 ?_
      refine go_loop try_mixed (by kernel_rfl) (fun k F Hx => ∃ j : Nat, j + k = (fstL l m (farF r g)).length ∧ F = [(4, .ptr (some (H.length, 0))), (9, .ptr (some (H.length + 1, 0))), (10, .sl (some (H.length + 2, 0)) ((dirA l m).length) (capG (dirA l m).length)), (13, .sl (some (H.length + 4, 0)) ((((fstL l m (farF r g)).take j).filter (okcB W Hh l m (farF r g))).length) (capG (((fstL l m (farF r g)).take j).filter (okcB W Hh l m (farF r g))).length)), (49, .sl (some (H.length + 3, 0)) ((fstL l m (farF r g)).length) (capG (fstL l m (farF r g)).length)), (50, .int .i64 (((fstL l m (farF r g)).length : Nat) : Int)), (51, .int .i64 ((j : Nat) : Int))] ∧ Hx = H ++ [.cells true 0 [.int .i64 W, .int .i64 Hh, .sl (some (bpp, 0)) xs.length cpp], .cells true 0 [.int .i64 (farF r g)], .cells (ownG (dirA l m).length) 9 (r9 (dirA l m)), .cells (ownG (fstL l m (farF r g)).length) 2 (prs (fstL l m (farF r g))), .cells (ownG (((fstL l m (farF r g)).take j).filter (okcB W Hh l m (farF r g))).length) 2 (prs (((fstL l m (farF r g)).take j).filter (okcB W Hh l m (farF r g))))]) ((fstL l m (farF r g)).length) ?_ ?_
      · refine ⟨_, _, _, ⟨0, by omega, rfl, rfl⟩, Abs.byG hbel [.cells false 2 []] rfl [0, 1, 2, 3, 4] (by decide) ?_⟩
        exact absRf (jn @List.take_zero.{0} (jn @List.filter_nil.{0} (jn @r9_append (jn @r9_cons (jn @r9_nil @mvs_r9)))))
      · rintro k0 F Hx ⟨j, hm0, rfl, rfl⟩ J0 hJ0
        refine runTf g'34 ?_
        refine cond_split (fun h28 => ?_) (fun h28 => ?_)
        · have h28d := bsT h28
          have hlt : j < (fstL l m (farF r g)).length := by omega
          have hpr := (pr_eq hlt).symm
          have hst := flt_step (p := (okcB W Hh l m (farF r g))) hlt
          have hfln := flt_len (p := (okcB W Hh l m (farF r g))) (l := (fstL l m (farF r g))) (j := j)
          have q29 := prs_load (l := fstL l m (farF r g)) (j := j) (by omega)
          have g'35 := (jn @h28 (jn @h28d (jn @q29 g'34)))
          refine runTf g'35 ?_
          rcases Bool.eq_false_or_eq_true (sqO (g1 (fstL l m (farF r g)) j) (g2 (fstL l m (farF r g)) j)) with h30 | h30
          · have h30d := h30
            have hsq := h30d
            refine call_v (by kernel_rfl) (psqr_t _ (g1 (fstL l m (farF r g)) j) (g2 (fstL l m (farF r g)) j) (by assumption)) ?_
            have g'36 := (jn @h30 (jn @h30d g'35))
            refine runTf g'36 ?_
            refine call_v (by kernel_rfl) (kwithin_c _ (g1 (fstL l m (farF r g)) j) 0 (W - 1)) ?_
            refine runTf g'36 ?_
            refine gd_split (fun h31 => ?_) (fun h31 => ?_)
            · have h31d := bsT h31
              have hbx := h31d
              have g'37 := (jn @h31 (jn @h31d g'36))
              refine runTf g'37 ?_
              refine call_v (by kernel_rfl) (kwithin_c _ (g2 (fstL l m (farF r g)) j) 0 (Hh - 1)) ?_
              refine runTf g'37 ?_
              refine gd_split (fun h32 => ?_) (fun h32 => ?_)
              · have h32d := bsT h32
                have hby := h32d
                have g'38 := (jn @h32 (jn @h32d g'37))
                refine runTf g'38 ?_
                refine call_v (by kernel_rfl) (has_r _ _ (dirA l m) ⟨_, _, _, by first | rfl | (rw [List.length_append]; done) | (rw [List.length_append]; rfl), by first | rfl | (rw [get_newk]; rfl) | (rw [get_new0]; rfl) | (rw [get_newk, prs_append]; rfl) | (rw [get_new0, prs_append]; rfl)⟩ (by omega) _ [.ptr (some (H.length + 6, 0)), .ptr (some (H.length + 1, 0))] (by kernel_rfl) (by simp [AV.bels, AV.bel]) (fun e => !psC e (farF r g) (g1 (fstL l m (farF r g)) j, g2 (fstL l m (farF r g)) j)) (fun j' hj' => kprv1_c _ _ _ _ _ _ _ _ _ _ _ _ _ _ _ _ _ ⟨_, by first | (rw [get_newk]; rfl) | (rw [get_new0]; rfl)⟩ ⟨_, by first | (rw [get_newk]; rfl) | (rw [get_new0]; rfl)⟩ (hpair _ hj'))) ?_
                refine runTf g'38 ?_
                refine cond_split (fun h33 => ?_) (fun h33 => ?_)
                · have h33d := bsT h33
                  have hok : okcB W Hh l m (farF r g) (g1 (fstL l m (farF r g)) j, g2 (fstL l m (farF r g)) j) = true := by unfold okcB prvB; rw [hbx, hby, List.all_eq_not_any_not, h33d]; rfl
                  rw [hpr, if_pos hok] at hst
                  have g'39 := (jn @h33 (jn @h33d (jn @capG_s g'38)))
                  refine runTf g'39 ?_
                  refine hJ0 _ _ ⟨k0 - 1, by omega, _, _, _, ⟨j + 1, by omega, rfl, rfl⟩, Abs.byG hbel [] rfl [0, 1, 2, 3, 8] (by decide) ?_⟩
                  exact absRf (jn @hst (jn @r9_append (jn @r9_cons (jn @r9_nil @mvs_r9))))
                · have h33d := bsT h33
                  have hok : okcB W Hh l m (farF r g) (g1 (fstL l m (farF r g)) j, g2 (fstL l m (farF r g)) j) = false := by unfold okcB prvB; rw [hbx, hby, List.all_eq_not_any_not, h33d]; rfl
                  rw [hpr, if_neg (by rw [hok]; decide), List.append_nil] at hst
                  have g'40 := (jn @h33 (jn @h33d g'38))
                  refine runTf g'40 ?_
                  refine hJ0 _ _ ⟨k0 - 1, by omega, _, _, _, ⟨j + 1, by omega, rfl, rfl⟩, Abs.byG hbel [] rfl [0, 1, 2, 3, 4] (by decide) ?_⟩
                  exact absRf (jn @hst (jn @r9_append (jn @r9_cons (jn @r9_nil @mvs_r9))))
              · have h32d := bsT h32
                have hok : okcB W Hh l m (farF r g) (g1 (fstL l m (farF r g)) j, g2 (fstL l m (farF r g)) j) = false := by unfold okcB; rw [hbx, h32d]; rfl
                rw [hpr, if_neg (by rw [hok]; decide), List.append_nil] at hst
                have g'41 := (jn @h32 (jn @h32d g'37))
                refine runTf g'41 ?_
                refine hJ0 _ _ ⟨k0 - 1, by omega, _, _, _, ⟨j + 1, by omega, rfl, rfl⟩, Abs.byG hbel [] rfl [0, 1, 2, 3, 4] (by decide) ?_⟩
                exact absRf (jn @hst (jn @r9_append (jn @r9_cons (jn @r9_nil @mvs_r9))))
            · have h31d := bsT h31
              have hok : okcB W Hh l m (farF r g) (g1 (fstL l m (farF r g)) j, g2 (fstL l m (farF r g)) j) = false := by unfold okcB; rw [h31d]; rfl
              rw [hpr, if_neg (by rw [hok]; decide), List.append_nil] at hst
              have g'42 := (jn @h31 (jn @h31d g'36))
              refine runTf g'42 ?_
              refine hJ0 _ _ ⟨k0 - 1, by omega, _, _, _, ⟨j + 1, by omega, rfl, rfl⟩, Abs.byG hbel [] rfl [0, 1, 2, 3, 4] (by decide) ?_⟩
              exact absRf (jn @hst (jn @r9_append (jn @r9_cons (jn @r9_nil @mvs_r9))))
          · have h30d := h30
            have hsq := h30d
            refine call_v (by kernel_rfl) (psqr_f _ (g1 (fstL l m (farF r g)) j) (g2 (fstL l m (farF r g)) j) (by assumption)) ?_
            have g'43 := (jn @h30 (jn @h30d g'35))
            refine runTf g'43 ?_
            refine call_v (by kernel_rfl) (kwithin_c _ (g1 (fstL l m (farF r g)) j) 0 (W - 1)) ?_
            refine runTf g'43 ?_
            refine gd_split (fun h34 => ?_) (fun h34 => ?_)
            · have h34d := bsT h34
              have hbx := h34d
              have g'44 := (jn @h34 (jn @h34d g'43))
              refine runTf g'44 ?_
              refine call_v (by kernel_rfl) (kwithin_c _ (g2 (fstL l m (farF r g)) j) 0 (Hh - 1)) ?_
              refine runTf g'44 ?_
              refine gd_split (fun h35 => ?_) (fun h35 => ?_)
              · have h35d := bsT h35
                have hby := h35d
                have hq1 := btw_iff.1 hbx
                have hq2 := btw_iff.1 hby
                exact absurd (show sqO (g1 (fstL l m (farF r g)) j) (g2 (fstL l m (farF r g)) j) = true by unfold sqO; rw [Bool.and_eq_true, within_iff, within_iff]; omega) (by rw [hsq]; decide)
              · have h35d := bsT h35
                have hok : okcB W Hh l m (farF r g) (g1 (fstL l m (farF r g)) j, g2 (fstL l m (farF r g)) j) = false := by unfold okcB; rw [hbx, h35d]; rfl
                rw [hpr, if_neg (by rw [hok]; decide), List.append_nil] at hst
                have g'45 := (jn @h35 (jn @h35d g'44))
                refine runTf g'45 ?_
                refine hJ0 _ _ ⟨k0 - 1, by omega, _, _, _, ⟨j + 1, by omega, rfl, rfl⟩, Abs.byG hbel [] rfl [0, 1, 2, 3, 4] (by decide) ?_⟩
                exact absRf (jn @hst (jn @r9_append (jn @r9_cons (jn @r9_nil @mvs_r9))))
            · have h34d := bsT h34
              have hok : okcB W Hh l m (farF r g) (g1 (fstL l m (farF r g)) j, g2 (fstL l m (farF r g)) j) = false := by unfold okcB; rw [h34d]; rfl
              rw [hpr, if_neg (by rw [hok]; decide), List.append_nil] at hst
              have g'46 := (jn @h34 (jn @h34d g'43))
              refine runTf g'46 ?_
              refine hJ0 _ _ ⟨k0 - 1, by omega, _, _, _, ⟨j + 1, by omega, rfl, rfl⟩, Abs.byG hbel [] rfl [0, 1, 2, 3, 4] (by decide) ?_⟩
              exact absRf (jn @hst (jn @r9_append (jn @r9_cons (jn @r9_nil @mvs_r9))))
        · have h28d := bsT h28
          obtain rfl : j = (fstL l m (farF r g)).length := by omega
          have hfinL : ((fstL l m (farF r g)).take (fstL l m (farF r g)).length).filter (okcB W Hh l m (farF r g)) = prvL W Hh l m r g := by rw [List.take_length]; exact (if_neg hfar).symm
          have g'47 := (jn @h28 (jn @h28d g'34))
          refine runTf g'47 ?_
          refine hQ _ _ (end_byG (.inl rfl) hbel (x1 := .sl (some (H.length + 4, 0)) ((((fstL l m (farF r g)).take (fstL l m (farF r g)).length).filter (okcB W Hh l m (farF r g))).length) (capG (((fstL l m (farF r g)).take (fstL l m (farF r g)).length).filter (okcB W Hh l m (farF r g))).length)) (l2 := [.cells (ownG (((fstL l m (farF r g)).take (fstL l m (farF r g)).length).filter (okcB W Hh l m (farF r g))).length) 2 (prs (((fstL l m (farF r g)).take (fstL l m (farF r g)).length).filter (okcB W Hh l m (farF r g))))]) (.sl (some (H.length, 0)) ((((fstL l m (farF r g)).take (fstL l m (farF r g)).length).filter (okcB W Hh l m (farF r g))).length) (capG (((fstL l m (farF r g)).take (fstL l m (farF r g)).length).filter (okcB W Hh l m (farF r g))).length)) (resT Tryz.results168) [] rfl [4] (by decide) ⟨by first | (rw [hfinL]; done) | (rw [hfinL]; rfl), by first | (rw [hfinL]; done) | (rw [hfinL]; rfl)⟩ ?_)
          exact absW
open Go.RowKit
theorem befP_asymm {a b : Int × Int} (h : befP a b) : ¬ befP b a := by unfold befP at *; omega
theorem befP_irr {a : Int × Int} : ¬ befP a a := by unfold befP; omega
theorem befP_trans {a b c : Int × Int} (h : befP a b) (k : befP b c) : befP a c := by unfold befP at *; omega
theorem befP_tri (a b : Int × Int) : befP a b ∨ a = b ∨ befP b a := by
  unfold befP
  rcases Int.lt_trichotomy a.2 b.2 with h | h | h
  · exact .inl (.inl h)
  · rcases Int.lt_trichotomy a.1 b.1 with k | k | k
    · exact .inl (.inr ⟨h, k⟩)
    · exact .inr (.inl (Prod.ext k h))
    · exact .inr (.inr (.inr ⟨h.symm, k⟩))
  · exact .inr (.inr (.inl h))
/-- Equal neighbours are struck, the first of them stays. -/
def cptC : List (Int × Int) → List (Int × Int)
  | [] => []
  | [a] => [a]
  | a :: b :: l => if a = b then cptC (b :: l) else a :: cptC (b :: l)
theorem cptC_mem : ∀ {l : List (Int × Int)} {x : Int × Int}, x ∈ cptC l ↔ x ∈ l
  | [], _ => Iff.rfl
  | [_], _ => Iff.rfl
  | a :: b :: l, x => by
    unfold cptC
    split
    · rename_i h
      rw [cptC_mem (l := b :: l), List.mem_cons (l := b :: l)]
      exact ⟨.inr, fun k => k.elim (fun q => by rw [q, h]; exact List.mem_cons_self ..) id⟩
    · rw [List.mem_cons, List.mem_cons (l := b :: l), cptC_mem (l := b :: l)]
def leC (a b : Int × Int) : Prop := a = b ∨ befP a b
theorem cptC_strict : ∀ {l : List (Int × Int)}, l.Pairwise leC → (cptC l).Pairwise befP
  | [], _ => .nil
  | [a], _ => by unfold cptC; simp
  | a :: b :: l, h => by
    rw [List.pairwise_cons] at h
    have r := cptC_strict h.2
    unfold cptC
    split
    · exact r
    · rename_i hab
      rw [List.pairwise_cons]
      refine ⟨fun x hx => ?_, r⟩
      have hm := cptC_mem.1 hx
      have hb : befP a b := (h.1 b (List.mem_cons_self ..)).resolve_left hab
      rcases List.mem_cons.1 hm with q | q
      · rw [q]; exact hb
      · rcases (List.pairwise_cons.1 h.2).1 x q with k | k
        · rw [← k]; exact hb
        · exact befP_trans hb k
/-- Put one more cell into a row (the reference's put). -/
def putK (c : Int × Int) : List (Int × Int) → List (Int × Int)
  | [] => [c]
  | a :: l => if a.2 < c.2 ∨ (a.2 = c.2 ∧ a.1 < c.1) then a :: putK c l else if a = c then a :: l else c :: a :: l
theorem putK_mem {c x : Int × Int} : ∀ {l : List (Int × Int)}, x ∈ putK c l ↔ x = c ∨ x ∈ l
  | [] => by simp [putK]
  | a :: l => by
    unfold putK
    split
    · rw [List.mem_cons, putK_mem (l := l), List.mem_cons]
      exact ⟨fun k => k.elim (.inr ∘ .inl) (fun k => k.elim .inl (.inr ∘ .inr)), fun k => k.elim (.inr ∘ .inl) (fun k => k.elim .inl (.inr ∘ .inr))⟩
    · split
      · rename_i h
        exact ⟨.inr, fun k => k.elim (fun q => by rw [q, ← h]; exact List.mem_cons_self ..) id⟩
      · rw [List.mem_cons]
theorem putK_strict {c : Int × Int} : ∀ {l : List (Int × Int)}, l.Pairwise befP → (putK c l).Pairwise befP
  | [], _ => by unfold putK; simp
  | a :: l, h => by
    rw [List.pairwise_cons] at h
    unfold putK
    split
    · rename_i k
      rw [List.pairwise_cons]
      refine ⟨fun x hx => ?_, putK_strict h.2⟩
      rcases putK_mem.1 hx with q | q
      · rw [q]; exact k
      · exact h.1 x q
    · rename_i k
      split
      · exact List.pairwise_cons.2 h
      · rename_i e
        have hc : befP c a := ((befP_tri c a).resolve_right fun q => q.elim (fun q => e q.symm) (fun q => k q))
        rw [List.pairwise_cons]
        refine ⟨fun x hx => ?_, List.pairwise_cons.2 h⟩
        rcases List.mem_cons.1 hx with q | q
        · rw [q]; exact hc
        · exact befP_trans hc (h.1 x q)
/-- Sorted and compacted, or put in one by one: the same row. -/
theorem cpt_put {l s : List (Int × Int)} (hs : s.Pairwise leC) (hm : ∀ x, x ∈ s ↔ x ∈ l) : cptC s = l.foldl (fun o c => putK c o) [] := by
  have g : ∀ (l o : List (Int × Int)), o.Pairwise befP → (l.foldl (fun o c => putK c o) o).Pairwise befP ∧ ∀ x, x ∈ l.foldl (fun o c => putK c o) o ↔ x ∈ l ∨ x ∈ o := by
    intro l
    induction l with
    | nil => exact fun o ho => ⟨ho, fun x => by simp⟩
    | cons a l ih =>
      intro o ho
      have k := ih (putK a o) (putK_strict ho)
      refine ⟨k.1, fun x => ?_⟩
      rw [List.foldl_cons, k.2 x, putK_mem, List.mem_cons]
      exact ⟨fun q => q.elim (.inl ∘ .inr) (fun q => q.elim (.inl ∘ .inl) .inr), fun q => q.elim (fun q => q.elim (.inr ∘ .inl) .inl) (.inr ∘ .inr)⟩
  have k := g l [] .nil
  exact eq_sorted (cptC_strict hs) k.1 fun x => by rw [cptC_mem, hm, k.2]; simp
theorem cpt_snoc : ∀ (m : List (Int × Int)) (y x : Int × Int), cptC (m ++ [y] ++ [x]) = cptC (m ++ [y]) ++ (if y = x then [] else [x])
  | [], y, x => by
    show cptC [y, x] = cptC [y] ++ _
    unfold cptC
    split
    · rename_i h; subst h; simp [cptC]
    · rename_i h; simp [cptC]
  | [a], y, x => by
    show cptC (a :: y :: [x]) = cptC (a :: y :: []) ++ _
    simp only [cptC]
    by_cases h : a = y
    · by_cases k : y = x
      · simp [h, k]
      · simp [h, k]
    · by_cases k : y = x
      · simp [h, k]
      · simp [h, k]
  | a :: b :: m, y, x => by
    show cptC (a :: b :: (m ++ [y] ++ [x])) = cptC (a :: b :: (m ++ [y])) ++ _
    have ih := cpt_snoc (b :: m) y x
    simp only [List.cons_append] at ih
    rw [cptC, cptC, ih]
    by_cases h : a = b
    · rw [if_pos h, if_pos h]
    · rw [if_neg h, if_neg h, List.cons_append]
theorem cpt_step {l : List (Int × Int)} {j : Nat} (h1 : 1 ≤ j) (hj : j < l.length) : cptC (l.take (j + 1)) = cptC (l.take j) ++ (if l[j - 1]'(by omega) = l[j] then [] else [l[j]]) := by
  obtain ⟨i, rfl⟩ : ∃ i, j = i + 1 := ⟨j - 1, by omega⟩
  have e1 := List.take_succ_eq_append_getElem hj
  have e2 := List.take_succ_eq_append_getElem (show i < l.length by omega)
  rw [e1, e2]
  exact cpt_snoc _ _ _
theorem cpt_1 {l : List (Int × Int)} (h : l.length < 2) : cptC l = l := by
  match l, h with
  | [], _ => rfl
  | [_], _ => rfl
theorem cpt_len (l : List (Int × Int)) : (cptC l).length ≤ l.length := by
  match l with
  | [] => exact Nat.le_refl _
  | [_] => exact Nat.le_refl _
  | a :: b :: m =>
    have := cpt_len (b :: m)
    rw [cptC]
    split
    · exact Nat.le_trans this (by simp)
    · simp only [List.length_cons] at *; omega
/-- Two sorted rows with the same elements are one. -/
theorem leC_anti {a b : Int × Int} (h : leC a b) (k : leC b a) : a = b := by
  unfold leC at *
  rcases h with h | h
  · exact h
  · rcases k with k | k
    · exact k.symm
    · exact absurd k (befP_asymm h)
theorem sortP_eq : ∀ {l m : List (Int × Int)}, l.Perm m → l.Pairwise leC → m.Pairwise leC → l = m
  | [], m, h, _, _ => (List.Perm.nil_eq h)
  | a :: l, [], h, _, _ => absurd h.symm.nil_eq (by simp)
  | a :: l, b :: m, h, h1, h2 => by
    rw [List.pairwise_cons] at h1 h2
    have hab : a = b := by
      have ha : a ∈ b :: m := h.subset (List.mem_cons_self ..)
      have hb : b ∈ a :: l := h.symm.subset (List.mem_cons_self ..)
      rcases List.mem_cons.1 ha with e | e
      · exact e
      · rcases List.mem_cons.1 hb with e2 | e2
        · exact e2.symm
        · exact leC_anti (h1.1 b e2) (h2.1 a e)
    subst hab
    rw [sortP_eq (List.Perm.cons_inv h) h1.2 h2.2]
theorem leC_tot (a b : Int × Int) : leC a b ∨ leC b a := by
  unfold leC
  rcases befP_tri a b with h | h | h
  · exact .inl (.inr h)
  · exact .inl (.inl h)
  · exact .inr (.inr h)
theorem leC_trans {a b c : Int × Int} (h : leC a b) (k : leC b c) : leC a c := by
  unfold leC at *
  rcases h with rfl | h
  · exact k
  · rcases k with rfl | k
    · exact .inr h
    · exact .inr (befP_trans h k)
instance (a b : Int × Int) : Decidable (befP a b) := by unfold befP; infer_instance
instance (a b : Int × Int) : Decidable (leC a b) := by unfold leC; infer_instance
/-- The sorted row. -/
def srtC (l : List (Int × Int)) : List (Int × Int) := l.mergeSort fun a b => decide (leC a b)
theorem srtC_perm (l : List (Int × Int)) : (srtC l).Perm l := List.mergeSort_perm _ _
theorem srtC_len (l : List (Int × Int)) : (srtC l).length = l.length := (srtC_perm l).length_eq
theorem srtC_sorted (l : List (Int × Int)) : (srtC l).Pairwise leC := by
  have h := List.pairwise_mergeSort (le := fun a b => decide (leC a b)) (fun a b c h k => by simp only [decide_eq_true_eq] at *; exact leC_trans h k) (fun a b => by simp only [Bool.or_eq_true, decide_eq_true_eq]; exact leC_tot a b) l
  unfold srtC
  refine h.imp fun {a b} k => ?_
  simpa using k
theorem srtC_nil : srtC [] = [] := by simp [srtC]
open Go.RowKit
/-- The cells that the first beams prove free, one list behind the other. -/
def prS (W Hh : Int) (l : List T6) (sc : List (Int × Int)) (g : Int) : Nat → List (Int × Int)
  | 0 => []
  | i + 1 => prS W Hh l sc g i ++ prvL W Hh l (g1 sc i) (g2 sc i) g
def rowA (W Hh : Int) (l : List T6) (sc : List (Int × Int)) (g : Int) : List (Int × Int) := if tauB l = true then prS W Hh l sc g sc.length else []
def allL (W Hh : Int) (l : List T6) (sc : List (Int × Int)) (g : Int) : List (Int × Int) := cptC (srtC (rowA W Hh l sc g))
theorem prS_len (W Hh : Int) (l : List T6) (sc : List (Int × Int)) (g : Int) : ∀ i : Nat, (prS W Hh l sc g i).length ≤ 7225 * i
  | 0 => by simp [prS]
  | i + 1 => by
    have := prS_len W Hh l sc g i
    have := prvL_len W Hh l (g1 sc i) (g2 sc i) g
    simp only [prS, List.length_append]; omega
theorem allL_nil {W Hh : Int} {l : List T6} {sc : List (Int × Int)} {g : Int} (h : tauB l = false) : allL W Hh l sc g = [] ∧ rowA W Hh l sc g = [] := by
  have e : rowA W Hh l sc g = [] := if_neg (by rw [h]; decide)
  exact ⟨by unfold allL; rw [e, srtC_nil]; rfl, e⟩
/-- The cells that the rays from all pairs meet, one list behind the other. -/
def swS (l : List T9) (r g : Int) : Nat → List (Int × Int)
  | 0 => []
  | i + 1 => swS l r g i ++ sptL (g91 l i) (g92 l i) (g93 l i) (g94 l i) (g97 l i) (g98 l i) (g99 l i) (if 0 < r - g then r - g else 0) (r + g)
def rowU (l : List T6) (m r g : Int) : List (Int × Int) := if (decide (r = -1) || !tauB l) = true then [] else swS (dirA l m) r g (dirA l m).length
def susL (l : List T6) (m r g : Int) : List (Int × Int) := cptC (srtC (rowU l m r g))
theorem swS_len (l : List T9) (r g : Int) : ∀ i : Nat, (swS l r g i).length ≤ 7225 * i
  | 0 => by simp [swS]
  | i + 1 => by
    have := swS_len l r g i
    have := sptL_len (g91 l i) (g92 l i) (g93 l i) (g94 l i) (g97 l i) (g98 l i) (g99 l i) (if 0 < r - g then r - g else 0) (r + g)
    simp only [swS, List.length_append]; omega
theorem susL_nil {l : List T6} {m r g : Int} (h : r = -1 ∨ tauB l = false) : susL l m r g = [] ∧ rowU l m r g = [] := by
  have e : rowU l m r g = [] := if_pos (by rcases h with h | h <;> simp [h])
  exact ⟨by unfold susL; rw [e, srtC_nil]; rfl, e⟩
theorem dirA_tau {l : List T6} (hS : setB l = true) (h : tauB l = true) (m : Int) : (dirA l m).length ≤ 32 := by
  unfold tauB at h
  rw [Bool.and_eq_true, decide_eq_true_eq] at h
  have k : ∀ i : Nat, i ≤ l.length → ((dirS l m i).length : Int) = sumC l i := fun i => by
    induction i with
    | zero => intro _; rfl
    | succ i ih =>
      intro hi
      have := ih (by omega)
      have q := mkB_len hS (show i < l.length by omega)
      simp only [dirS, sumC, List.length_append, dirB_len]; omega
  have := k l.length (Nat.le_refl _)
  unfold dirA; omega
open Go.RowKit Go.Sort
set_option maxRecDepth 100000 in
theorem sortc_f {α : Type} [Inhabited α] (val : α → Int × Int) (cf : α → α → Int) (hO : SWO (ltOf cf)) (g : FuncId) (eg : ∀ args w, (callFunc g args).run Tryz.prog w = .ok (.enter g args) w)
    (hcmp : ∀ (x y : α) (W : World), Calls Tryz.prog g #[.agg #[.int .i64 (val x).1, .int .i64 (val x).2], .agg #[.int .i64 (val y).1, .int .i64 (val y).2]] W fun e w' => e = .returned (.int .i64 (cf x y)) ∧ ∃ q os', w' = grow (W.drewN q) os')
    {H : AHeap} {b n : Nat} {cap : Option Nat} {zs : List α} (hg : H[b]? = some (.cells true 2 (prs (zs.map val)))) (hn : n = zs.length) (h0 : 0 < n) (h1 : n ≤ 1000000) :
    ACalls Tryz.prog 169 [.sl (some (b, 0)) n cap, .fn g []] H
      (fun v H' => v = .tup [] ∧ ∃ ys : List α, ys.Perm zs ∧ ys.Pairwise (fun x y => ltOf cf y x = false) ∧ H' = H.set b (.cells true 2 (prs (ys.map val)))) := fun E w vs hE hv => by
  obtain ⟨v1, l1, rfl, k1, h1'⟩ := rels_cons hv
  obtain ⟨v2, l2, rfl, k2, h2'⟩ := rels_cons h1'
  obtain rfl := rels_nil h2'
  have hf : v2 = .func (.func g) #[] #[] := by
    cases k2 with
    | fn _ _ cs hl _ =>
      have : cs = #[] := by
        have : cs.size = 0 := hl.symm
        exact Array.eq_empty_of_size_eq_zero this
      rw [this]
  subst hf
  cases k1 with
  | nils _ _ _ _ => exact absurd h0 (Nat.lt_irrefl 0)
  | sl _ _ _ _ c a hb h2 h3 h4 h5 h6 =>
  have hc : c ≠ 0 := by omega
  obtain rfl := h5.resolve_left hc
  obtain ⟨m1, m2, -, -⟩ := hE.blk b _ hg
  obtain ⟨o1, o2, o3, o4, o5⟩ := m2 rfl
  have hpl : (prs (zs.map val)).length = zs.length * 2 := by rw [prs_len]; simp
  have hH : HoldsK (encP val) 2 w (E.loc b).blk (E.loc b).off zs.toArray := by
    show Holds id w _ _ (flatK (encP val) 2 zs.toArray)
    rw [flat_list]
    intro j hj
    have hj' : j < zs.length * 2 := by simpa [enc2_len] using hj
    refine ⟨?_, (o5 j (by omega)).2⟩
    have hx : (prs (zs.map val))[j]? = some (prs (zs.map val))[j] := List.getElem?_eq_getElem (by omega)
    obtain ⟨-, v, hv, hr⟩ := m1 j _ hx
    rw [hv]
    obtain ⟨u, hu, hru⟩ := (rels_prs (E := E) (zs.map val)).get hx
    have : ∀ (k : Nat) (l : List (Int × Int)) (y : AV) (v u : Value), (prs l)[k]? = some y → Rel E y v → (enc2 l)[k]? = some u → v = u := by
      intro k l
      induction l generalizing k with
      | nil => intro y v u h; simp [prs] at h
      | cons p l ih =>
        intro y v u h1 h2 h3
        match k with
        | 0 => simp [prs_cons, enc2] at h1 h3; subst h1 h3; exact rel_int h2
        | 1 => simp [prs_cons, enc2] at h1 h3; subst h1 h3; exact rel_int h2
        | k + 2 =>
          refine ih k y v u (by simpa [prs_cons] using h1) h2 ?_
          simpa [enc2] using h3
    have e := this j _ _ v u hx hr hu
    subst e
    simp [List.getElem!_eq_getElem?_getD, hu]
  have hcon := AnyQ.slices_SortFunc Tryz.sort169 2 Tryz.isAgg58 Tryz.sizeOf58 (encP val) (fun _ => rfl) (fun x v hv => by simp [encP] at hv; rcases hv with rfl | rfl <;> rfl) cf hO g #[] (E.loc b).blk (E.loc b).off c zs.toArray w eg
    (fun _ _ _ _ x y => by simpa [encP] using hcmp x y _) hH o2 (by simp; omega)
  change Calls Tryz.prog 169 _ _ _ at hcon
  have hsz : zs.toArray.size = n := by simp [hn]
  rw [hsz] at hcon
  refine hcon.mono fun e w' ⟨he, d', q, os, hp, hs, hw⟩ => ?_
  subst hw
  obtain ⟨p1, -, p3⟩ := hp
  have hperm : d'.toList.Perm zs := by
    have a1 : d'.extract 0 n = d' := by rw [← hsz, ← p1]; simp
    have a2 : zs.toArray.extract 0 n = zs.toArray := by rw [← hsz]; simp
    rw [a1, a2] at p3
    simpa using p3
  have hl : (d'.toList.map val).length = (zs.map val).length := by simp [hperm.length_eq]
  refine ⟨E, _, _, .tup [], he, ⟨rfl, d'.toList, hperm, ?_, rfl⟩, .refl E, .tup [] #[] rfl (fun i x v h => by simp at h), ?_⟩
  · rw [List.pairwise_iff_getElem]
    intro i j hi hj hij
    have := hs i j (Nat.zero_le _) hij (by have := hperm.length_eq; simp at hj this; omega)
    simp at hi hj
    simpa [hi, hj] using this
  · have hd : d' = d'.toList.toArray := by simp
    have e1 : sortWorldK (encP val) 2 w (E.loc b).blk (E.loc b).off q d' os = grow ((w.drewN q).setCells (E.loc b).blk (E.loc b).off (enc2 (d'.toList.map val))) os := by
      unfold sortWorldK
      congr 1
      show putRow id (Sort.ahead w q) _ _ (flatK (encP val) 2 d') = _
      rw [hd, flat_list]
      have := Lib.putRow_eq_setCells id w (E.loc b).blk (E.loc b).off (flatK (encP val) 2 zs.toArray) (enc2 (d'.toList.map val)) q hH (by rw [enc2_len, hl]; simp)
      simpa using this
    rw [e1]
    exact hE.putP hg hl os
open Go.RowKit Go.Sort
theorem or_h (a b : Int) (w : World) (blk off c : Nat) (h0 : w.cell? ⟨blk, off, none⟩ = some (.int .i64 a)) (h1 : w.cell? ⟨blk, off + 1, none⟩ = some (.int .i64 b)) :
    Calls Tryz.prog 255 #[.slice (some ⟨blk, off, none⟩) 2 c] w fun e w' => e = .returned (.int .i64 (if a = 0 then b else a)) ∧ w' = w := by
  have g0 : w.cell? ⟨blk, off + 0, none⟩ = some (.int .i64 a) := h0
  go_enter Tryz.func255, Tryz.ntmps255
  go_wp2
  go_loop [8] (fun i => ∃ k : Nat, k ≤ 2 ∧ i = .int .i64 k ∧ Hid ((1 ≤ k → a = 0) ∧ (2 ≤ k → b = 0))) (fun i => 2 - (intOf i).toNat)
  case atStart => exact ⟨0, by omega, rfl, ⟨fun h => by omega, fun h => by omega⟩⟩
  case round =>
    obtain ⟨k, hk, rfl, HK⟩ := hrel
    rcases (by omega : k = 0 ∨ k = 1 ∨ k = 2) with rfl | rfl | rfl
    · by_cases ha : a = 0
      · go_wp2
        go_round
        case rel => exact ⟨1, by omega, by go_num, ⟨fun _ => ha, fun h => by omega⟩⟩
        case measure => simp [intOf]
      · go_wp2
        go_ret
        exact ⟨ret_int (by first | rfl | (rw [if_neg ha])), rfl⟩
    · have ha := HK.out.1 (by omega)
      by_cases hb : b = 0
      · go_wp2
        go_round
        case rel => exact ⟨2, by omega, by go_num, ⟨fun _ => ha, fun h => hb⟩⟩
        case measure => simp [intOf]
      · go_wp2
        go_ret
        exact ⟨ret_int (by first | rfl | (rw [if_pos ha])), rfl⟩
    · have ha := HK.out.1 (by omega)
      have hb := HK.out.2 (by omega)
      go_wp2
      go_ret
      exact ⟨ret_int (by first | rfl | (rw [if_pos ha, hb])), rfl⟩
theorem cell_last (w : World) (cs : Array Value) (t B j : Nat) (hB : B = w.heap.size) : (w.alloc (.cells cs t)).cell? ⟨B, j, none⟩ = cs[j]? := by
  subst hB
  unfold World.cell?
  have : (w.alloc (.cells cs t)).heap[w.heap.size]? = some (.cells cs t) := by
    show (w.heap.push _)[w.heap.size]? = _
    rw [Array.getElem?_push, if_pos rfl]
  rw [this]; rfl
theorem cell_lastd (w : World) (cs : Array Value) (t B j : Nat) (hB : B = w.heap.size) : (w.alloc (.cells cs t)).drew.cell? ⟨B, j, none⟩ = cs[j]? := cell_last w cs t B j hB
/-- By (Y, X). -/
def cfC (a b : Pt) : Int := if cmpI a.2 b.2 = 0 then cmpI a.1 b.1 else cmpI a.2 b.2
set_option maxHeartbeats 20000000 in
theorem before_h (x y : Pt) (W : World) : Calls Tryz.prog 170 #[.agg #[.int .i64 x.1, .int .i64 x.2], .agg #[.int .i64 y.1, .int .i64 y.2]] W fun e w' => e = .returned (.int .i64 (cfC x y)) ∧ ∃ q os', w' = grow (W.drewN q) os' := by
  have hcon := compare_h
  have hcon2 : ∀ (w : World) (blk off c : Nat), w.cell? ⟨blk, off, none⟩ = some (.int .i64 (cmpI x.2 y.2)) → w.cell? ⟨blk, off + 1, none⟩ = some (.int .i64 (cmpI x.1 y.1)) →
    Calls Tryz.prog 255 #[.slice (some ⟨blk, off, none⟩) 2 c] w fun e w' => e = .returned (.int .i64 (cfC x y)) ∧ w' = w := by
    intro w blk off c h0 h1
    have k := or_h (cmpI x.2 y.2) (cmpI x.1 y.1) w blk off c h0 h1
    unfold cfC
    exact k
  go_enter Tryz.func170, Tryz.ntmps170
  go_wp2_with (first | (go_at_call 256; refine (hcon _ _ _).mono ?_; rintro e w' ⟨rfl, rfl⟩) | fail)
  go_region_held3 (fun w' => w'.cell? ⟨W.heap.size, 0, none⟩ = some (.int .i64 x.1) ∧ w'.cell? ⟨W.heap.size, 1, none⟩ = some (.int .i64 x.2) ∧ w'.cell? ⟨W.heap.size + 1, 0, none⟩ = some (.int .i64 y.1) ∧ w'.cell? ⟨W.heap.size + 1, 1, none⟩ = some (.int .i64 y.2)) (go_keep)
    (first
      | (go_at_call 256; refine (hcon _ _ _).mono ?_; rintro e w' ⟨rfl, rfl⟩)
      | (go_at_call 255; refine (hcon2 _ _ _ _ ?h1 ?h2).mono ?_; case h1 => first | exact (cell_last _ _ _ _ _ (by simp)).trans rfl | exact (cell_lastd _ _ _ _ _ (by simp)).trans rfl
         case h2 => first | exact (cell_last _ _ _ _ _ (by simp)).trans rfl | exact (cell_lastd _ _ _ _ _ (by simp)).trans rfl
         rintro e w' ⟨rfl, rfl⟩))
  go_wp2
  go_ret
  exact ⟨rfl, 1, _, by rw [alloc_eq_grow, alloc_eq_grow, alloc_eq_grow, grow_grow, grow_grow]; rfl⟩
theorem ltC_iff (x y : Pt) : ltOf cfC x y = decide (befP x y) := by
  rw [Bool.eq_iff_iff]
  unfold ltOf
  rw [decide_eq_true_eq, decide_eq_true_eq]
  unfold cfC cmpI befP
  repeat' split
  all_goals omega
theorem swoC : SWO (ltOf cfC) where
  irrefl x := by rw [ltC_iff, decide_eq_false_iff_not]; exact befP_irr
  trans x y z h1 h2 := by
    rw [ltC_iff, decide_eq_true_eq] at *
    exact befP_trans h1 h2
  ntrans x y z h1 h2 := by
    rw [ltC_iff, decide_eq_false_iff_not] at *
    unfold befP at *; omega
set_option maxRecDepth 100000 in
/-- Cells sorted by (Y, X). -/
theorem sortc_c (H : AHeap) (b : Nat) (cap : Option Nat) (l : List Pt) (hb : H[b]? = some (.cells true 2 (prs l))) (h0 : 0 < l.length) (h1 : l.length ≤ 1000000) :
    ACalls Tryz.prog 169 [.sl (some (b, 0)) l.length cap, .fn 170 []] H (fun v H' => v = .tup [] ∧ H' = H.set b (.cells true 2 (prs (srtC l)))) := by
  have eg : ∀ args w, (callFunc 170 args).run Tryz.prog w = .ok (.enter 170 args) w := enters_of Tryz.func170 (by kernel_rfl) rfl
  refine (sortc_f (α := Pt) id cfC swoC 170 eg (fun x y W => before_h x y W) (zs := l) (by rw [List.map_id]; exact hb) rfl h0 h1).mono ?_
  rintro v H' ⟨rfl, ys, hp, hs, rfl⟩
  have e : ys = srtC l := by
    refine sortP_eq (hp.trans (srtC_perm l).symm) (hs.imp fun {x y} h => ?_) (srtC_sorted l)
    rw [ltC_iff, decide_eq_false_iff_not] at h
    rcases leC_tot x y with k | k
    · exact k
    · unfold leC at k ⊢
      rcases k with k | k
      · exact .inl k.symm
      · exact absurd k h
  rw [List.map_id, e]
  exact ⟨rfl, rfl⟩
open Go.RowKit
theorem prs_load2 {l : List (Int × Int)} {i m : Nat} (h : i + m < l.length) : ((prs l).drop (i * 2 + m * 2)).take 2 = [.int .i64 (g1 l (i + m)), .int .i64 (g2 l (i + m))] := by
  rw [show i * 2 + m * 2 = (i + m) * 2 by omega]; exact prs_load h
/-- No two neighbours among the first i are equal. -/
def NoEq (l : List (Int × Int)) (i : Nat) : Prop := ∀ j : Nat, 1 ≤ j → (h : j < l.length) → j < i → l[j - 1]'(by omega) ≠ l[j]
theorem noeq_cpt {l : List (Int × Int)} : ∀ {i : Nat}, i ≤ l.length → NoEq l i → cptC (l.take i) = l.take i
  | 0, _, _ => rfl
  | 1, h, _ => cpt_1 (by rw [List.length_take]; omega)
  | i + 2, h, k => by
    rw [cpt_step (by omega) (by omega), noeq_cpt (i := i + 1) (by omega) (fun j h1 h2 h3 => k j h1 h2 (by omega)), if_neg (k (i + 1) (by omega) (by omega) (by omega)), ← List.take_succ_eq_append_getElem]
theorem padL_id (l : List (Int × Int)) : padL l.length l = l := by simp [padL]
set_option maxRecDepth 100000 in
theorem cpt_cell (H : AHeap) (b : Nat) (cap : Option Nat) (l : List (Int × Int)) (hb : H[b]? = some (.cells (ownG l.length) 2 (prs l))) (hl : l.length ≤ 1000000000) :
    ACalls Tryz.prog 171 [.sl (some (b, 0)) l.length cap] H (fun v H' => v = .sl (some (b, 0)) (cptC l).length none ∧ H' = H.set b (.cells (ownG l.length) 2 (prs (padL l.length (cptC l))))) := by
  have hbl := getElem?_lt hb
  have hset : ∀ X L, (H.set b X ++ L)[b]? = some X := fun X L => by rw [List.getElem?_append_left (by simpa using hbl), List.getElem?_set_self hbl]
  have hset0 : ∀ X, (H.set b X)[b]? = some X := fun X => List.getElem?_set_self hbl
  have hself : H.set b (.cells (ownG l.length) 2 (prs l)) = H := by
    refine List.ext_getElem? fun i => ?_
    rw [List.getElem?_set]
    split
    · rename_i e; subst e; first | exact hb.symm | (rw [if_pos hbl]; exact hb.symm)
    · rfl
  have hend : cptC l = l → H.set b (.cells (ownG l.length) 2 (prs (padL l.length (cptC l)))) = H := fun e => by rw [e, padL_id, hself]
  (refine ACalls_run try_mixed Tryz.func171 true _ rfl (Nat.le_of_ble_eq_true (by kernel_rfl)) (by kernel_rfl) ?_; intro hbel Q hQ hQ' c hc; unfold Tryz.f171 at hc; simp only [Option.some.injEq] at hc; subst hc; clear hQ')
  simp -implicitDefEqProofs (disch := omega) only [simprocAttr, amset, tyset, Function.comp_apply, one1, lenV, calleeOf, lateOk, belowV, aop, AV.ofValue, AV.ofCell, AV.cells, AV.flat, AV.one, arep, aBin, aAppend, aConv]
  refine cond_split (fun h1 => ?_) (fun h1 => ?_)
  · have h1d := of_decide_eq_true h1
    have e := cpt_1 (l := l) (by omega)
    simp -implicitDefEqProofs (disch := omega) only [h1, simprocAttr, amset, tyset, Function.comp_apply, one1, lenV, calleeOf, lateOk, belowV, aop, AV.ofValue, AV.ofCell, AV.cells, AV.flat, AV.one, arep, aBin, aAppend, aConv]
    exact hQ _ _ (end_byE (.inl rfl) hbel (x1 := .sl (some (b, 0)) l.length cap) (l2 := []) (.sl (some (b, 0)) (cptC l).length none) (resT Tryz.results171) [] rfl [] (by decide) ⟨rfl, by rw [List.append_nil, hend e]⟩ (by rw [e]; exact absW))
  · have h1d := of_decide_eq_false h1
    have hown : ownG l.length = true := ownG_p (by omega)
    rw [hown] at hb hself
    simp -implicitDefEqProofs (disch := omega) only [h1, simprocAttr, amset, tyset, Function.comp_apply, one1, lenV, calleeOf, lateOk, belowV, aop, AV.ofValue, AV.ofCell, AV.cells, AV.flat, AV.one, arep, aBin, aAppend, aConv]
    refine go_loop try_mixed (by kernel_rfl) (fun k F Hx => ∃ i : Nat, i + k = l.length ∧ 1 ≤ i ∧ NoEq l i ∧ F = [(0, .sl (some (b, 0)) l.length cap), (3, .int .i64 ((i : Nat) : Int))] ∧ H = Hx) (l.length - 1) ?_ ?_
    · refine ⟨_, _, _, ⟨1, by omega, by omega, fun j h2 h3 h4 => by omega, rfl, rfl⟩, Abs.by0 hbel ?_⟩
      exact absW
    · rintro k F Hx ⟨i, hik, hi1, hne, rfl, rfl⟩ J hJ
      by_cases hi : i < l.length
      · have hii : (i : Int) < (l.length : Int) := by omega
        have q1 := prs_load (l := l) (j := i) hi
        have q2 := prs_load (l := l) (j := i - 1) (by omega)
        have hsub : ((i : Int) - 1).toNat = i - 1 := by omega
        simp -implicitDefEqProofs (disch := omega) only [hii, hb, q1, q2, hsub, prs_len, prs_one, simprocAttr, amset, tyset, Function.comp_apply, one1, lenV, calleeOf, lateOk, belowV, aop, AV.ofValue, AV.ofCell, AV.cells, AV.flat, AV.one, arep, aBin, aAppend, aConv]
        repeat refine And.intro (by omega) ?_
        refine cond_split (fun h2 => ?_) (fun h2 => ?_)
        · have heq : l[i - 1]'(by omega) = l[i] := by
            simp only [Bool.and_eq_true, beq_iff_eq] at h2
            rw [← pr_eq hi, ← pr_eq (show i - 1 < l.length by omega), h2.1, h2.2]
          have hc0 : cptC (l.take (i + 1)) = l.take i := by rw [cpt_step hi1 hi, if_pos heq, List.append_nil, noeq_cpt (by omega) hne]
          have hcl : (cptC (l.take (i + 1))).length = i := by rw [hc0, List.length_take]; omega
          have hsl : ((i : Int) - 0).toNat = i := by omega
          simp -implicitDefEqProofs (disch := omega) only [h2, hb, prs_len, prs_one, simprocAttr, amset, tyset, Function.comp_apply, one1, lenV, calleeOf, lateOk, belowV, aop, AV.ofValue, AV.ofCell, AV.cells, AV.flat, AV.one, arep, aBin, aAppend, aConv]
          repeat refine And.intro (by omega) ?_
          refine go_loop try_mixed (by kernel_rfl) (fun k F Hx => ∃ (j c : Nat) (X : List (Int × Int)), j + k = l.length ∧ i + 1 ≤ j ∧ c = (cptC (l.take j)).length ∧ c < j ∧ X.length = l.length ∧ X.take c = cptC (l.take j) ∧ X.drop (j - 1) = l.drop (j - 1) ∧ F = [(0, .sl (some (b, 0)) l.length cap), (3, .int .i64 ((c : Nat) : Int)), (4, .sl (some (b, i * 2)) (l.length - i) none), (5, .int .i64 ((j - i : Nat) : Int))] ∧ Hx = H.set b (.cells true 2 (prs X))) (l.length - (i + 1)) ?_ ?_
          · refine ⟨_, _, _, ⟨i + 1, i, l, by omega, by omega, hcl.symm, by omega, rfl, hc0.symm, rfl, rfl, rfl⟩, Abs.by0e hself hbel ?_⟩
            have hi1' : ((i + 1 - i : Nat) : Int) = 1 := by omega
            exact absWf @hi1'
          · rintro k F Hx ⟨j, c, X, hjk, hij, hc, hcj, hXl, hXt, hXd, rfl, rfl⟩ J2 hJ2
            obtain ⟨G, hG⟩ : ∃ G, G = H.set b (.cells true 2 (prs X)) := ⟨_, rfl⟩
            have hGl : G.length = H.length := by rw [hG, List.length_set]
            have hG1 : ∀ L, (G ++ L)[b]? = some (.cells true 2 (prs X)) := fun L => by rw [hG]; exact hset _ _
            have hG0 : G[b]? = some (.cells true 2 (prs X)) := by rw [hG]; exact hset0 _
            have hbG : b < G.length := by omega
            have hGs0 : ∀ Y, G.set b Y = H.set b Y := fun Y => by rw [hG, List.set_set]
            have hGs : ∀ Y L, (G ++ L).set b Y = H.set b Y ++ L := fun Y L => by rw [List.set_append_left _ _ hbG, hG, List.set_set]
            rw [← hG]
            have hbelG : HBel H.length G := by rw [hG]; exact HBel.put hbel b bels_prs
            by_cases hj : j < l.length
            · have hjj : ((j - i : Nat) : Int) < ((l.length - i : Nat) : Int) := by omega
              have hXj : ∀ q, j - 1 ≤ q → (hq : q < l.length) → X[q]'(by omega) = l[q] := fun q h1 hq => by
                have := congrArg (fun m => m[q - (j - 1)]?) hXd
                simp only [List.getElem?_drop] at this
                rw [show j - 1 + (q - (j - 1)) = q by omega, List.getElem?_eq_getElem (by omega), List.getElem?_eq_getElem hq] at this
                exact Option.some.inj this
              have q3 := prs_load2 (l := X) (i := i) (m := j - i) (by omega)
              have q4 := prs_load2 (l := X) (i := i) (m := j - i - 1) (by omega)
              have hsub2 : (((j - i : Nat) : Int) - 1).toNat = j - i - 1 := by omega
              rw [show i + (j - i) = j by omega] at q3
              rw [show i + (j - i - 1) = j - 1 by omega] at q4
              simp -implicitDefEqProofs (disch := omega) only [hjj, hG1, hG0, q3, q4, hsub2, prs_len, prs_one, simprocAttr, amset, tyset, Function.comp_apply, one1, lenV, calleeOf, lateOk, belowV, aop, AV.ofValue, AV.ofCell, AV.cells, AV.flat, AV.one, arep, aBin, aAppend, aConv]
              repeat refine And.intro (by omega) ?_
              have hst := cpt_step (l := l) (j := j) (by omega) hj
              have hcX : c < X.length := by omega
              have hjj2 : ((j + 1 - i : Nat) : Int) = ((j - i : Nat) : Int) + 1 := by omega
              have hpj := pr_eq (l := X) (j := j) (by omega)
              have hpj1 := pr_eq (l := X) (j := j - 1) (by omega)
              have hp2 := prs_set2 (a := g1 X j) (b := g2 X j) hcX
              have hXd2 : X.drop j = l.drop j := by
                have := congrArg (fun m => m.drop 1) hXd
                simp only [List.drop_drop] at this
                rwa [show j - 1 + 1 = j by omega] at this
              refine cond_split (fun h3 => ?_) (fun h3 => ?_)
              · have hdif : ¬ l[j - 1]'(by omega) = l[j] := fun e => by
                  rw [← hXj (j - 1) (by omega) (by omega), ← hXj j (by omega) hj, ← hpj, ← hpj1] at e
                  simp only [Prod.mk.injEq] at e
                  rw [e.1, e.2] at h3
                  simp at h3
                rw [if_neg hdif] at hst
                have hl5 : (cptC (l.take (j + 1))).length = c + 1 := by rw [hst, List.length_append, hc]; rfl
                simp -implicitDefEqProofs (disch := omega) only [h3, hG1, hG0, hGs, hGs0, q3, hp2, prs_len, prs_one, simprocAttr, amset, tyset, Function.comp_apply, one1, lenV, calleeOf, lateOk, belowV, aop, AV.ofValue, AV.ofCell, AV.cells, AV.flat, AV.one, arep, aBin, aAppend, aConv]
                repeat refine And.intro (by omega) ?_
                refine hJ2 _ _ ⟨k - 1, by omega, _, _, _, ⟨j + 1, c + 1, X.set c (g1 X j, g2 X j), by omega, by omega, hl5.symm, by omega, by rw [List.length_set]; exact hXl, ?_, ?_, rfl, rfl⟩, Abs.byS0 (by rw [List.length_set]) (HBel.put hbel b bels_prs) ?_⟩
                · rw [hst, List.take_succ_eq_append_getElem (by rw [List.length_set]; exact hcX), List.getElem_set_self, List.take_set_of_le (Nat.le_refl _), hXt, hpj, hXj j (by omega) hj]
                · rw [show j + 1 - 1 = j by omega, List.drop_set_of_lt (by omega), hXd2]
                exact absWf (jn @hjj2 (jn @Int.natCast_add @Int.natCast_one))
              · have heq2 : l[j - 1]'(by omega) = l[j] := by
                  rw [← hXj (j - 1) (by omega) (by omega), ← hXj j (by omega) hj, ← hpj, ← hpj1]
                  simp only [Bool.not_eq_false', Bool.and_eq_true, beq_iff_eq] at h3
                  rw [h3.1, h3.2]
                rw [if_pos heq2, List.append_nil] at hst
                simp -implicitDefEqProofs (disch := omega) only [h3, simprocAttr, amset, tyset, Function.comp_apply, one1, lenV, calleeOf, lateOk, belowV, aop, AV.ofValue, AV.ofCell, AV.cells, AV.flat, AV.one, arep, aBin, aAppend, aConv]
                refine hJ2 _ _ ⟨k - 1, by omega, _, _, _, ⟨j + 1, c, X, by omega, by omega, by rw [hst]; exact hc, by omega, hXl, by rw [hst]; exact hXt, by rw [show j + 1 - 1 = j by omega]; exact hXd2, rfl, hG⟩, Abs.byS0 hGl hbelG ?_⟩
                exact absWf (jn @hjj2 (jn @Int.natCast_add @Int.natCast_one))
            · have hjj : ¬ ((j - i : Nat) : Int) < ((l.length - i : Nat) : Int) := by omega
              have hrep := (prs_rep (m := l.length - c)).symm
              have hne0 : (l.length - c == 0) = false := beq_eq_false_iff_ne.2 (by omega)
              have hspl := splice_prs (l := X) (ys := List.replicate (l.length - c) (0, 0)) (i := c) (by rw [List.length_replicate]; omega)
              rw [hXt] at hspl
              simp -implicitDefEqProofs (disch := omega) only [hjj, hG1, hG0, hrep, hne0, hspl, hGs0, prs_len, prs_one, List.length_replicate, hset0, simprocAttr, amset, tyset, Function.comp_apply, one1, lenV, calleeOf, lateOk, belowV, aop, AV.ofValue, AV.ofCell, AV.cells, AV.flat, AV.one, arep, aBin, aAppend, aConv]
              refine ⟨by omega, ⟨by omega, .inl (Nat.le_refl _)⟩, by omega, by omega, ⟨by omega, .inl (by omega)⟩, ?_⟩
              obtain rfl : j = l.length := by omega
              rw [List.take_length] at hc ⊢
              refine hQ _ _ (end_byS (by rw [List.length_set]) (.inl rfl) (HBel.put hbel b bels_prs) (x1 := .sl (some (b, 0)) (c - 0) (Option.map (fun x => x - 0) cap)) (.sl (some (b, 0)) (cptC l).length none) (resT Tryz.results171) ⟨rfl, by rw [hown, hc]; rfl⟩ ?_)
              exact absWf (jn @hc @Nat.sub_zero)
        · have hdif : ¬ l[i - 1]'(by omega) = l[i] := fun e => by
            rw [← pr_eq hi, ← pr_eq (show i - 1 < l.length by omega)] at e
            simp only [Prod.mk.injEq] at e
            rw [e.1, e.2] at h2
            simp at h2
          simp -implicitDefEqProofs (disch := omega) only [h2, simprocAttr, amset, tyset, Function.comp_apply, one1, lenV, calleeOf, lateOk, belowV, aop, AV.ofValue, AV.ofCell, AV.cells, AV.flat, AV.one, arep, aBin, aAppend, aConv]
          refine hJ _ _ ⟨k - 1, by omega, _, _, _, ⟨i + 1, by omega, by omega, fun j h3 h4 h5 => by
            rcases Nat.lt_or_ge j i with h6 | h6
            · exact hne j h3 h4 h6
            · obtain rfl : j = i := by omega
              exact hdif, rfl, rfl⟩, Abs.by0 hbel ?_⟩
          exact absWf (jn @Int.natCast_add @Int.natCast_one)
      · have hii : ¬ (i : Int) < (l.length : Int) := by omega
        obtain rfl : i = l.length := by omega
        have e : cptC l = l := by have := noeq_cpt (Nat.le_refl _) hne; rwa [List.take_length] at this
        simp -implicitDefEqProofs (disch := omega) only [hii, simprocAttr, amset, tyset, Function.comp_apply, one1, lenV, calleeOf, lateOk, belowV, aop, AV.ofValue, AV.ofCell, AV.cells, AV.flat, AV.one, arep, aBin, aAppend, aConv]
        exact hQ _ _ (end_byE (.inl rfl) hbel (x1 := .sl (some (b, 0)) l.length cap) (l2 := []) (.sl (some (b, 0)) (cptC l).length none) (resT Tryz.results171) [] rfl [] (by decide) ⟨rfl, by rw [List.append_nil, hend e]⟩ (by rw [e]; exact absW))
open Go.RowKit
theorem bits0_c (H : AHeap) : ACalls Tryz.prog 254 [.int .u64 0] H (fun v H' => v = .int .i64 0 ∧ H' = H) := by
  have h := ext_ok 254 [.int .u64 0] H (.int .i64 0) none (by kernel_rfl)
  exact h.2.2
theorem ins0_c (H : AHeap) (s : AV)   (g : FuncId) (hs : Sl H 2 s 0 []) : ACalls Tryz.prog 316 [s, .int .i64 0, .int .i64 0, .fn g []] H (fun v H' => v = .tup [] ∧ H' = H) := by
  obtain ⟨bs, os, cs, rfl, hbs⟩ := hs
  have hbls := getElem?_lt hbs
  have hb0s := fun l => get_app (l := l) hbs
  refine AcN true Tryz.func316 ?_; intro hbel Q hQ
  have g'1 := (jn @hbs @hb0s)
  refine runTf g'1 ?_
  refine go_loop try_mixed (by kernel_rfl) (fun k F Hx => ∃ z : Unit, k = 0 ∧ F = [(0, .sl (some (bs, 0)) 0 cs), (1, .int .i64 0), (2, .int .i64 0), (3, .fn g []), (8, .int .i64 1)] ∧ H = Hx) (0) ?_ ?_
  · refine ⟨_, _, _, ⟨(), by omega, rfl, rfl⟩, Abs.by0 hbel ?_⟩
    exact absW
  · rintro k0 F Hx ⟨z, hm0, rfl, rfl⟩ J0 hJ0
    refine runTf g'1 ?_
    exact hQ _ _ (end_plain0 (by first | exact .inl rfl | exact .inr rfl) hbel (x := .tup []) (resT Tryz.results316) rfl ⟨rfl, rfl⟩)
theorem pdq0_c (H : AHeap) (s : AV)   (m : Int) (g : FuncId) (hs : Sl H 2 s 0 []) : ACalls Tryz.prog 253 [s, .int .i64 0, .int .i64 0, .int .i64 m, .fn g []] H (fun v H' => v = .tup [] ∧ H' = H) := by
  obtain ⟨bs, os, cs, rfl, hbs⟩ := hs
  have hbls := getElem?_lt hbs
  have hb0s := fun l => get_app (l := l) hbs
  refine AcT true Tryz.func253 ?_; intro hbel Q hQ
  have g'2 := (jn @hbs @hb0s)
  refine runTf g'2 ?_
  refine go_loop try_mixed (by kernel_rfl) (fun k F Hx => ∃ z : Unit, k = 0 ∧ F = [(0, .sl (some (bs, 0)) 0 cs), (1, .int .i64 0), (2, .int .i64 0), (3, .int .i64 m), (4, .fn g []), (10, .bool true), (11, .bool true)] ∧ H = Hx) (0) ?_ ?_
  · refine ⟨_, _, _, ⟨(), by omega, rfl, rfl⟩, Abs.by0 hbel ?_⟩
    exact absW
  · rintro k0 F Hx ⟨z, hm0, rfl, rfl⟩ J0 hJ0
    refine runTf g'2 ?_
    refine call_v (by kernel_rfl) (ins0_c _ _ g ⟨_, _, _, rfl, by first | exact hb0s _ | exact hbs⟩) ?_
    refine runTf g'2 ?_
    exact hQ _ _ (end_plain0 (.inl rfl) hbel (x := .tup []) (resT Tryz.results253) rfl ⟨rfl, rfl⟩)
theorem srt0_c (H : AHeap) (s : AV) (g : FuncId) (hs : Sl H 2 s 0 []) : ACalls Tryz.prog 169 [s, .fn g []] H (fun v H' => v = .tup [] ∧ H' = H) := by
  obtain ⟨bs, os, cs, rfl, hbs⟩ := hs
  have hbls := getElem?_lt hbs
  have hb0s := fun l => get_app (l := l) hbs
  refine AcN true Tryz.func169 ?_; intro hbel Q hQ
  have g'3 := (jn @hbs @hb0s)
  refine runTf g'3 ?_
  refine call_v (by kernel_rfl) (bits0_c _) ?_
  refine runTf g'3 ?_
  refine call_v (by kernel_rfl) (pdq0_c _ _ 0 g ⟨_, _, _, rfl, by first | exact hb0s _ | exact hbs⟩) ?_
  refine runTf g'3 ?_
  exact hQ _ _ (end_plain0 (by first | exact .inl rfl | exact .inr rfl) hbel (x := .tup []) (resT Tryz.results169) rfl ⟨rfl, rfl⟩)
open Go.RowKit
theorem srtk_c (H : AHeap) (b : Nat) (cap : Option Nat) (l : List (Int × Int)) (hb : H[b]? = some (.cells (ownG l.length) 2 (prs l))) (h1 : l.length ≤ 1000000) :
    ACalls Tryz.prog 169 [.sl (some (b, 0)) l.length cap, .fn 170 []] H (fun v H' => v = .tup [] ∧ H' = H.set b (.cells (ownG l.length) 2 (prs (srtC l)))) := by
  rcases Nat.eq_zero_or_pos l.length with h0 | h0
  · obtain rfl := List.eq_nil_of_length_eq_zero h0
    rw [srtC_nil]
    have hself : H.set b (.cells (ownG ([] : List (Int × Int)).length) 2 (prs [])) = H := by
      refine List.ext_getElem? fun i => ?_
      rw [List.getElem?_set]
      split
      · rename_i e; subst e; first | exact hb.symm | (rw [if_pos (getElem?_lt hb)]; exact hb.symm)
      · rfl
    rw [hself]
    exact srt0_c H _ _ ⟨b, _, cap, rfl, hb⟩
  · rw [ownG_p h0] at hb ⊢
    exact sortc_c H b cap l hb h0 h1
theorem cptk_c (H : AHeap) (b : Nat) (cap : Option Nat) (l : List (Int × Int)) (hb : H[b]? = some (.cells (ownG l.length) 2 (prs (srtC l)))) (h1 : l.length ≤ 1000000) :
    ACalls Tryz.prog 171 [.sl (some (b, 0)) l.length cap] H (fun v H' => v = .sl (some (b, 0)) (cptC (srtC l)).length none ∧ H' = H.set b (.cells (ownG l.length) 2 (prs (padL (srtC l).length (cptC (srtC l)))))) := by
  have h := cpt_cell H b cap (srtC l) (by rw [srtC_len]; exact hb) (by rw [srtC_len]; omega)
  rw [srtC_len l] at h ⊢
  exact h
theorem kall_c (H : AHeap) (W : Int) (Hh : Int) (pp : AV) (xs : List Int) (s : AV) (l : List T6) (q : AV) (sc : List (Int × Int)) (g : Int) (hpp : Sl H 1 pp xs.length (ints .u8 xs)) (hs : Sl H 6 s l.length (r6 l)) (hq : Sl H 2 q sc.length (prs sc)) (hV : vldB W Hh xs = true) (hS : setB l = true) (hl0 : 0 < l.length) (hsB : scnB sc = true) (hg : 1 ≤ g ∧ g ≤ 32) : ACalls Tryz.prog 81 [.agg [.int .i64 W, .int .i64 Hh, pp], s, q, .int .i64 g] H (fun v H' => v = .sl (some (H.length, 0)) ((allL W Hh l sc g).length) none ∧ H' = H ++ [.cells (ownG (rowA W Hh l sc g).length) 2 (prs (allL W Hh l sc g))]) := by
  obtain ⟨bpp, opp, cpp, rfl, hbpp⟩ := hpp
  have hblpp := getElem?_lt hbpp
  have hb0pp := fun l => get_app (l := l) hbpp
  obtain ⟨bs, os, cs, rfl, hbs⟩ := hs
  have hbls := getElem?_lt hbs
  have hb0s := fun l => get_app (l := l) hbs
  obtain ⟨bq, oq, cq, rfl, hbq⟩ := hq
  have hblq := getElem?_lt hbq
  have hb0q := fun l => get_app (l := l) hbq
  have hsc := scnB_iff.1 hsB
  have hpl := prS_len W Hh l sc g sc.length
  refine AcT false Tryz.func81 ?_; intro hbel Q hQ
  have g'1 := (jn @hbpp (jn @hb0pp (jn @hbs (jn @hb0s (jn @hbq @hb0q)))))
  refine runTf g'1 ?_
  refine call_v (by kernel_rfl) (ktaught_c _ _ l ⟨_, _, _, rfl, by first | exact hb0s _ | exact hbs⟩ (by assumption)) ?_
  refine runTf g'1 ?_
  refine cond_split (fun h1 => ?_) (fun h1 => ?_)
  · have h1d := bsT h1
    have hfinA := allL_nil (W := W) (Hh := Hh) (sc := sc) (g := g) h1d
    have g'2 := (jn @h1 (jn @h1d g'1))
    refine runTf g'2 ?_
    refine hQ _ _ (end_byG (.inl rfl) hbel (x1 := .sl none 0 (some 0)) (l2 := [.cells false 2 []]) (.sl (some (H.length, 0)) 0 none) (resT Tryz.results81) [.cells false 2 []] rfl [1] (by decide) ⟨by first | (rw [hfinA.1]; done) | (rw [hfinA.1]; rfl) | rfl | (unfold allL; rw [hfinB]; done) | (unfold susL; rw [hfinB]; done) | skip, by first | (rw [hfinA.1, hfinA.2]; rfl) | (unfold allL; rw [hfinB]; rfl) | (unfold allL; rw [hfinB]; done) | skip⟩ ?_)
    exact absWf @prs_padL
  · have h1d := bsT h1
    have htau := h1d
    have hfinB : rowA W Hh l sc g = prS W Hh l sc g sc.length := if_pos htau
    have g'3 := (jn @h1 (jn @h1d g'1))
    refine runTf g'3 ?_
    refine go_loop try_mixed (by kernel_rfl) (fun k F Hx => ∃ i : Nat, i + k = sc.length ∧ F = [(1, .sl (some (bs, 0)) l.length cs), (3, .int .i64 g), (4, .ptr (some (H.length, 0))), (9, .sl (some (H.length + 1, 0)) ((prS W Hh l sc g i).length) (capG (prS W Hh l sc g i).length)), (15, .sl (some (bq, 0)) sc.length cq), (16, .int .i64 ((sc.length : Nat) : Int)), (17, .int .i64 ((i : Nat) : Int))] ∧ Hx = H ++ [.cells true 0 [.int .i64 W, .int .i64 Hh, .sl (some (bpp, 0)) xs.length cpp], .cells (ownG (prS W Hh l sc g i).length) 2 (prs (prS W Hh l sc g i))]) (sc.length) ?_ ?_
    · refine ⟨_, _, _, ⟨0, by omega, rfl, rfl⟩, Abs.byG hbel [.cells false 2 []] rfl [0, 1] (by decide) ?_⟩
      exact absRf @prS.eq_1
    · rintro k0 F Hx ⟨i, hm0, rfl, rfl⟩ J0 hJ0
      have g'4 := (jn @prs_len (jn @prs_one g'3))
      refine runTf g'4 ?_
      refine cond_split (fun h2 => ?_) (fun h2 => ?_)
      · have h2d := bsT h2
        have hlt : i < sc.length := by omega
        have hbi := beaB_iff.1 (hsc.2 _ (List.getElem_mem hlt))
        rw [← pr_eq hlt] at hbi
        have hpi := prS_len W Hh l sc g i
        have hvl := prvL_len W Hh l (g1 sc i) (g2 sc i) g
        have q3 := prs_load (l := sc) (j := i) (by omega)
        have g'5 := (jn @h2 (jn @h2d (jn @q3 g'4)))
        refine runTf g'5 ?_
        refine call_v (by kernel_rfl) (proven_c _ W Hh _ xs _ l (g1 sc i) (g2 sc i) g ⟨_, _, _, rfl, by first | exact hb0pp _ | exact hbpp⟩ ⟨_, _, _, rfl, by first | exact hb0s _ | exact hbs⟩ hV hS hl0 (by omega) (by omega)) ?_
        rcases Nat.eq_zero_or_pos ((prvL W Hh l (g1 sc i) (g2 sc i) g).length) with h4 | h4
        · have h4e : prvL W Hh l (g1 sc i) (g2 sc i) g = [] := List.eq_nil_of_length_eq_zero h4
          rcases Nat.eq_zero_or_pos ((prS W Hh l sc g i).length) with h5 | h5
          · have h5e : prS W Hh l sc g i = [] := List.eq_nil_of_length_eq_zero h5
            have g'6 := (jn @h4 (jn @h5 (jn @capG_0 (jn @ownG_0 g'5))))
            refine runTf g'6 ?_
            refine hJ0 _ _ ⟨k0 - 1, by omega, _, _, _, ⟨i + 1, by omega, rfl, rfl⟩, Abs.byG hbel [] rfl [0, 1] (by decide) ?_⟩
            exact absRf (jn @prS.eq_2 (jn @List.append_nil.{0} (jn @h4e @h5e)))
          · have h5c := capG_p h5
            have h5o := ownG_p h5
            have h5z : ((prS W Hh l sc g i).length == 0) = false := beq_eq_false_iff_ne.2 (by omega)
            have g'7 := (jn @h4 (jn @h5c (jn @h5o (jn @h5z (jn @prs_all g'5)))))
            refine runTf g'7 ?_
            refine hJ0 _ _ ⟨k0 - 1, by omega, _, _, _, ⟨i + 1, by omega, rfl, rfl⟩, Abs.byG hbel [] rfl [0, 4] (by decide) ?_⟩
            exact absRf (jn @prS.eq_2 (jn @List.append_nil.{0} (jn @h4e (jn @h5c (jn @h5o @Nat.add_zero)))))
        · have h4z : decide (0 < (prvL W Hh l (g1 sc i) (g2 sc i) g).length) = true := decide_eq_true h4
          have h4c := capG_p (n := (prS W Hh l sc g i).length + (prvL W Hh l (g1 sc i) (g2 sc i) g).length) (by omega)
          have h4o := ownG_p (n := (prS W Hh l sc g i).length + (prvL W Hh l (g1 sc i) (g2 sc i) g).length) (by omega)
          have g'8 := (jn @h4 (jn @h4z (jn @prs_all g'5)))
          refine runTf g'8 ?_
          refine hJ0 _ _ ⟨k0 - 1, by omega, _, _, _, ⟨i + 1, by omega, rfl, rfl⟩, Abs.byG hbel [] rfl [0, 4] (by decide) ?_⟩
          exact absRf (jn @prS.eq_2 (jn @List.append_nil.{0} (jn @h4c @h4o)))
      · have h2d := bsT h2
        obtain rfl : i = sc.length := by omega
        have g'9 := (jn @h2 (jn @h2d g'4))
        refine runTf g'9 ?_
        refine call_v (by kernel_rfl) (srtk_c _ _ _ (prS W Hh l sc g sc.length) (by first | (rw [get_newk]; rfl) | (rw [get_new0]; rfl) | rfl) (by omega)) ?_
        refine runTf g'9 ?_
        refine call_v (by kernel_rfl) (cptk_c _ _ _ (prS W Hh l sc g sc.length) (by first | (rw [get_newk]; rfl) | (rw [get_new0]; rfl) | rfl) (by omega)) ?_
        refine runTf g'9 ?_
        refine hQ _ _ (end_byG (.inl rfl) hbel (x1 := .sl (some (H.length + 1, 0)) ((cptC (srtC (prS W Hh l sc g sc.length))).length) none) (l2 := [.cells (ownG (prS W Hh l sc g sc.length).length) 2 (prs (cptC (srtC (prS W Hh l sc g sc.length))))]) (.sl (some (H.length, 0)) ((cptC (srtC (prS W Hh l sc g sc.length))).length) none) (resT Tryz.results81) [] rfl [1] (by decide) ⟨by first | (rw [hfinA.1]; done) | (rw [hfinA.1]; rfl) | rfl | (unfold allL; rw [hfinB]; done) | (unfold susL; rw [hfinB]; done) | skip, by first | (rw [hfinA.1, hfinA.2]; rfl) | (unfold allL; rw [hfinB]; rfl) | (unfold allL; rw [hfinB]; done) | skip⟩ ?_)
        exact absWf @prs_padL
open Go.RowKit
theorem ksus_c (H : AHeap) (s : AV) (l : List T6) (m : Int) (r : Int) (g : Int) (hs : Sl H 6 s l.length (r6 l)) (hS : setB l = true) (hr : -1 ≤ r ∧ r ≤ 1024) (hg : 1 ≤ g ∧ g ≤ 32) : ACalls Tryz.prog 83 [s, .agg [.int .i64 m, .int .i64 r], .int .i64 g] H (fun v H' => v = .sl (some (H.length, 0)) ((susL l m r g).length) none ∧ H' = H ++ [.cells (ownG (rowU l m r g).length) 2 (prs (susL l m r g))]) := by
  obtain ⟨bs, os, cs, rfl, hbs⟩ := hs
  have hbls := getElem?_lt hbs
  have hb0s := fun l => get_app (l := l) hbs
  have hda := dirA_len hS m
  have hsl := swS_len (dirA l m) r g (dirA l m).length
  have hpair : ∀ j', j' < (dirA l m).length → bxB (g91 (dirA l m) j') (g92 (dirA l m) j') (g93 (dirA l m) j') (g94 (dirA l m) j') (g95 (dirA l m) j') (g96 (dirA l m) j') = true := fun j' hj' => by
    have k := dirA_ok hS (g9_mem hj')
    unfold pairB at k; rw [Bool.and_eq_true] at k; exact k.1
  refine AcT false Tryz.func83 ?_; intro hbel Q hQ
  have g'1 := (jn @hbs @hb0s)
  refine runTf g'1 ?_
  refine gd_split (fun h1 => ?_) (fun h1 => ?_)
  · have h1d := bsT h1
    have h1n := bnT h1
    have hr1 : ¬ r = -1 := by simpa using h1d
    have g'2 := (jn @h1 (jn @h1n (jn @int_bne (jn @int_beq g'1))))
    refine runTf g'2 ?_
    refine call_v (by kernel_rfl) (ktaught_c _ _ l ⟨_, _, _, rfl, by first | exact hb0s _ | exact hbs⟩ (by assumption)) ?_
    refine runTf g'2 ?_
    refine cond_split (fun h2 => ?_) (fun h2 => ?_)
    · have h2d := bsT h2
      have hfinA := susL_nil (l := l) (m := m) (r := r) (g := g) (.inr h2d)
      have g'3 := (jn @h2 (jn @h2d g'2))
      refine runTf g'3 ?_
      refine hQ _ _ (end_byG (.inl rfl) hbel (x1 := .sl none 0 (some 0)) (l2 := [.cells false 2 []]) (.sl (some (H.length, 0)) 0 none) (resT Tryz.results83) [.cells false 2 []] rfl [1] (by decide) ⟨by first | (rw [hfinA.1]; done) | (rw [hfinA.1]; rfl) | (unfold susL; rw [hfinB]; done) | skip, by first | (rw [hfinA.1, hfinA.2]; rfl) | (unfold susL; rw [hfinB]; rfl) | (unfold susL; rw [hfinB]; done) | skip⟩ ?_)
      exact absWf @prs_padL
    · have h2d := bsT h2
      have htau := h2d
      have hdt := dirA_tau hS htau m
      have hfinB : rowU l m r g = swS (dirA l m) r g (dirA l m).length := by unfold rowU; rw [decide_eq_false hr1, htau]; rfl
      have g'4 := (jn @h2 (jn @h2d g'2))
      refine runTf g'4 ?_
      refine call_v (by kernel_rfl) (directed_c _ _ l m r ⟨_, _, _, rfl, by first | exact hb0s _ | exact hbs⟩ (by assumption)) ?_
      refine runTf g'4 ?_
      refine go_loop try_mixed (by kernel_rfl) (fun k F Hx => ∃ i : Nat, i + k = (dirA l m).length ∧ F = [(2, .int .i64 g), (4, .ptr (some (H.length, 0))), (7, .sl (some (H.length + 2, 0)) ((swS (dirA l m) r g i).length) (capG (swS (dirA l m) r g i).length)), (22, .sl (some (H.length + 1, 0)) ((dirA l m).length) (capG (dirA l m).length)), (23, .int .i64 (((dirA l m).length : Nat) : Int)), (24, .int .i64 ((i : Nat) : Int))] ∧ Hx = H ++ [.cells true 0 [.int .i64 m, .int .i64 r], .cells (ownG (dirA l m).length) 9 (r9 (dirA l m)), .cells (ownG (swS (dirA l m) r g i).length) 2 (prs (swS (dirA l m) r g i))]) ((dirA l m).length) ?_ ?_
      · refine ⟨_, _, _, ⟨0, by omega, rfl, rfl⟩, Abs.byG hbel [.cells false 2 []] rfl [0, 1, 2] (by decide) ?_⟩
        exact absRf (jn @swS.eq_1 (jn @r9_append (jn @r9_cons (jn @r9_nil @mvs_r9))))
      · rintro k0 F Hx ⟨i, hm0, rfl, rfl⟩ J0 hJ0
        have g'5 := (jn @r9_len (jn @r9_one (jn @prs_len (jn @prs_one g'4))))
        refine runTf g'5 ?_
        refine cond_split (fun h3 => ?_) (fun h3 => ?_)
        · have h3d := bsT h3
          have hpi := hpair i (by omega)
          have hsi := swS_len (dirA l m) r g i
          have hvl := sptL_len (g91 (dirA l m) i) (g92 (dirA l m) i) (g93 (dirA l m) i) (g94 (dirA l m) i) (g97 (dirA l m) i) (g98 (dirA l m) i) (g99 (dirA l m) i) (if 0 < r - g then r - g else 0) (r + g)
          have q4 := r9_load (l := dirA l m) (j := i) (by omega)
          have g'6 := (jn @h3 (jn @h3d (jn @q4 g'5)))
          refine runTf g'6 ?_
          refine call_d (by kernel_rfl) (rect_c _ (g91 (dirA l m) i) (g92 (dirA l m) i) (g93 (dirA l m) i) (g94 (dirA l m) i) (g95 (dirA l m) i) (g96 (dirA l m) i) hpi) ?_
          refine runTf g'6 ?_
          refine call_x (by kernel_rfl) (by simp) (swept_c _ (g91 (dirA l m) i) (g92 (dirA l m) i) (g93 (dirA l m) i) (g94 (dirA l m) i) (g97 (dirA l m) i) (g98 (dirA l m) i) (g99 (dirA l m) i) (if 0 < (r - g) then (r - g) else 0) (r + g)) ?_
          rcases Nat.eq_zero_or_pos ((sptL (g91 (dirA l m) i) (g92 (dirA l m) i) (g93 (dirA l m) i) (g94 (dirA l m) i) (g97 (dirA l m) i) (g98 (dirA l m) i) (g99 (dirA l m) i) (if 0 < (r - g) then (r - g) else 0) (r + g)).length) with h5 | h5
          · have h5e : sptL (g91 (dirA l m) i) (g92 (dirA l m) i) (g93 (dirA l m) i) (g94 (dirA l m) i) (g97 (dirA l m) i) (g98 (dirA l m) i) (g99 (dirA l m) i) (if 0 < (r - g) then (r - g) else 0) (r + g) = [] := List.eq_nil_of_length_eq_zero h5
            rcases Nat.eq_zero_or_pos ((swS (dirA l m) r g i).length) with h6 | h6
            · have h6e : swS (dirA l m) r g i = [] := List.eq_nil_of_length_eq_zero h6
              have g'7 := (jn @h5 (jn @h6 (jn @capG_0 (jn @ownG_0 g'6))))
              refine runTf g'7 ?_
              refine hJ0 _ _ ⟨k0 - 1, by omega, _, _, _, ⟨i + 1, by omega, rfl, rfl⟩, Abs.byG hbel [] rfl [0, 1, 2] (by decide) ?_⟩
              exact absRf (jn @swS.eq_2 (jn @List.append_nil.{0} (jn @h5e (jn @h6e (jn @r9_append (jn @r9_cons (jn @r9_nil @mvs_r9)))))))
            · have h6c := capG_p h6
              have h6o := ownG_p h6
              have h6z : ((swS (dirA l m) r g i).length == 0) = false := beq_eq_false_iff_ne.2 (by omega)
              have g'8 := (jn @h5 (jn @h6c (jn @h6o (jn @h6z (jn @prs_all g'6)))))
              refine runTf g'8 ?_
              refine hJ0 _ _ ⟨k0 - 1, by omega, _, _, _, ⟨i + 1, by omega, rfl, rfl⟩, Abs.byG hbel [] rfl [0, 1, 5] (by decide) ?_⟩
              exact absRf (jn @swS.eq_2 (jn @List.append_nil.{0} (jn @h5e (jn @h6c (jn @h6o (jn @Nat.add_zero (jn @r9_append (jn @r9_cons (jn @r9_nil @mvs_r9)))))))))
          · have h5z : decide (0 < (sptL (g91 (dirA l m) i) (g92 (dirA l m) i) (g93 (dirA l m) i) (g94 (dirA l m) i) (g97 (dirA l m) i) (g98 (dirA l m) i) (g99 (dirA l m) i) (if 0 < (r - g) then (r - g) else 0) (r + g)).length) = true := decide_eq_true h5
            have h5c := capG_p (n := (swS (dirA l m) r g i).length + (sptL (g91 (dirA l m) i) (g92 (dirA l m) i) (g93 (dirA l m) i) (g94 (dirA l m) i) (g97 (dirA l m) i) (g98 (dirA l m) i) (g99 (dirA l m) i) (if 0 < (r - g) then (r - g) else 0) (r + g)).length) (by omega)
            have h5o := ownG_p (n := (swS (dirA l m) r g i).length + (sptL (g91 (dirA l m) i) (g92 (dirA l m) i) (g93 (dirA l m) i) (g94 (dirA l m) i) (g97 (dirA l m) i) (g98 (dirA l m) i) (g99 (dirA l m) i) (if 0 < (r - g) then (r - g) else 0) (r + g)).length) (by omega)
            have g'9 := (jn @h5 (jn @h5z (jn @prs_all g'6)))
            refine runTf g'9 ?_
            refine hJ0 _ _ ⟨k0 - 1, by omega, _, _, _, ⟨i + 1, by omega, rfl, rfl⟩, Abs.byG hbel [] rfl [0, 1, 5] (by decide) ?_⟩
            exact absRf (jn @swS.eq_2 (jn @List.append_nil.{0} (jn @h5c (jn @h5o (jn @r9_append (jn @r9_cons (jn @r9_nil @mvs_r9)))))))
        · have h3d := bsT h3
          obtain rfl : i = (dirA l m).length := by omega
          have g'10 := (jn @h3 (jn @h3d g'5))
          refine runTf g'10 ?_
          refine call_v (by kernel_rfl) (srtk_c _ _ _ (swS (dirA l m) r g (dirA l m).length) (by first | (rw [get_newk]; rfl) | (rw [get_new0]; rfl) | rfl) (by omega)) ?_
          refine runTf g'10 ?_
          refine call_v (by kernel_rfl) (cptk_c _ _ _ (swS (dirA l m) r g (dirA l m).length) (by first | (rw [get_newk]; rfl) | (rw [get_new0]; rfl) | rfl) (by omega)) ?_
          refine runTf g'10 ?_
          refine hQ _ _ (end_byG (.inl rfl) hbel (x1 := .sl (some (H.length + 2, 0)) ((cptC (srtC (swS (dirA l m) r g (dirA l m).length))).length) none) (l2 := [.cells (ownG (swS (dirA l m) r g (dirA l m).length).length) 2 (prs (cptC (srtC (swS (dirA l m) r g (dirA l m).length))))]) (.sl (some (H.length, 0)) ((cptC (srtC (swS (dirA l m) r g (dirA l m).length))).length) none) (resT Tryz.results83) [] rfl [2] (by decide) ⟨by first | (rw [hfinA.1]; done) | (rw [hfinA.1]; rfl) | (unfold susL; rw [hfinB]; done) | skip, by first | (rw [hfinA.1, hfinA.2]; rfl) | (unfold susL; rw [hfinB]; rfl) | (unfold susL; rw [hfinB]; done) | skip⟩ ?_)
          exact absWf @prs_padL
  · have h1d := bsT h1
    have h1n := bnT h1
    have hr1 : r = -1 := by simpa using h1d
    have hfinA := susL_nil (l := l) (m := m) (g := g) (.inl hr1)
    have g'11 := (jn @h1 (jn @h1n (jn @int_bne (jn @int_beq g'1))))
    refine runTf g'11 ?_
    refine hQ _ _ (end_byG (.inl rfl) hbel (x1 := .sl none 0 (some 0)) (l2 := [.cells false 2 []]) (.sl (some (H.length, 0)) 0 none) (resT Tryz.results83) [.cells false 2 []] rfl [1] (by decide) ⟨by first | (rw [hfinA.1]; done) | (rw [hfinA.1]; rfl) | (unfold susL; rw [hfinB]; done) | skip, by first | (rw [hfinA.1, hfinA.2]; rfl) | (unfold susL; rw [hfinB]; rfl) | (unfold susL; rw [hfinB]; done) | skip⟩ ?_)
    exact absWf @prs_padL
open Go.RowKit
/-- What Proven and Suspects hand back. -/
def pvE (W Hh : Int) (xs : List Int) (l : List T6) (sc : List (Int × Int)) (g : Int) : Int := if rgtA W Hh xs l sc g = true then 0 else 1
def pvL (W Hh : Int) (xs : List Int) (l : List T6) (sc : List (Int × Int)) (g : Int) : List (Int × Int) := if rgtA W Hh xs l sc g = true then allL W Hh l sc g else []
def pvR (W Hh : Int) (xs : List Int) (l : List T6) (sc : List (Int × Int)) (g : Int) : List (Int × Int) := if rgtA W Hh xs l sc g = true then rowA W Hh l sc g else []
def ssE (W Hh : Int) (xs : List Int) (l : List T6) (m r g : Int) : Int := if rgtA W Hh xs l [(m, r)] g = true then 0 else 1
def ssL (W Hh : Int) (xs : List Int) (l : List T6) (m r g : Int) : List (Int × Int) := if rgtA W Hh xs l [(m, r)] g = true then susL l m r g else []
def ssR (W Hh : Int) (xs : List Int) (l : List T6) (m r g : Int) : List (Int × Int) := if rgtA W Hh xs l [(m, r)] g = true then rowU l m r g else []
theorem pv_t {W Hh : Int} {xs : List Int} {l : List T6} {sc : List (Int × Int)} {g : Int} (h : rgtA W Hh xs l sc g = true) : pvE W Hh xs l sc g = 0 ∧ pvL W Hh xs l sc g = allL W Hh l sc g ∧ pvR W Hh xs l sc g = rowA W Hh l sc g := ⟨if_pos h, if_pos h, if_pos h⟩
theorem pv_f {W Hh : Int} {xs : List Int} {l : List T6} {sc : List (Int × Int)} {g : Int} (h : rgtA W Hh xs l sc g = false) : pvE W Hh xs l sc g = 1 ∧ pvL W Hh xs l sc g = [] ∧ pvR W Hh xs l sc g = [] := ⟨if_neg (by rw [h]; decide), if_neg (by rw [h]; decide), if_neg (by rw [h]; decide)⟩
theorem ss_t {W Hh : Int} {xs : List Int} {l : List T6} {m r g : Int} (h : rgtA W Hh xs l [(m, r)] g = true) : ssE W Hh xs l m r g = 0 ∧ ssL W Hh xs l m r g = susL l m r g ∧ ssR W Hh xs l m r g = rowU l m r g := ⟨if_pos h, if_pos h, if_pos h⟩
theorem ss_f {W Hh : Int} {xs : List Int} {l : List T6} {m r g : Int} (h : rgtA W Hh xs l [(m, r)] g = false) : ssE W Hh xs l m r g = 1 ∧ ssL W Hh xs l m r g = [] ∧ ssR W Hh xs l m r g = [] := ⟨if_neg (by rw [h]; decide), if_neg (by rw [h]; decide), if_neg (by rw [h]; decide)⟩
open Go.RowKit
theorem kProven_c (H : AHeap) (W : Int) (Hh : Int) (pp : AV) (xs : List Int) (s : AV) (l : List T6) (q : AV) (sc : List (Int × Int)) (g : Int) (hpp : Sl H 1 pp xs.length (ints .u8 xs)) (hs : Sl H 6 s l.length (r6 l)) (hq : Sl H 2 q sc.length (prs sc)) (hl : l.length ≤ 1000000000) (hsc : sc.length ≤ 1000000000) : ACalls Tryz.prog 23 [.agg [.int .i64 W, .int .i64 Hh, pp], s, q, .int .i64 g] H (fun v H' => v = .tup [.sl (some (H.length, 0)) ((pvL W Hh xs l sc g).length) none, .int .i64 (pvE W Hh xs l sc g)] ∧ H' = H ++ [.cells (ownG (pvR W Hh xs l sc g).length) 2 (prs (pvL W Hh xs l sc g))]) := by
  obtain ⟨bpp, opp, cpp, rfl, hbpp⟩ := hpp
  have hblpp := getElem?_lt hbpp
  have hb0pp := fun l => get_app (l := l) hbpp
  obtain ⟨bs, os, cs, rfl, hbs⟩ := hs
  have hbls := getElem?_lt hbs
  have hb0s := fun l => get_app (l := l) hbs
  obtain ⟨bq, oq, cq, rfl, hbq⟩ := hq
  have hblq := getElem?_lt hbq
  have hb0q := fun l => get_app (l := l) hbq
  refine AcT true Tryz.func23 ?_; intro hbel Q hQ
  have g'1 := (jn @hbpp (jn @hb0pp (jn @hbs (jn @hb0s (jn @hbq @hb0q)))))
  refine runTf g'1 ?_
  refine call_v (by kernel_rfl) (kright_c _ W Hh _ xs _ l _ sc g ⟨_, _, _, rfl, by first | exact hb0pp _ | exact hbpp⟩ ⟨_, _, _, rfl, by first | exact hb0s _ | exact hbs⟩ ⟨_, _, _, rfl, by first | exact hb0q _ | exact hbq⟩ (by first | omega | simp) (by first | omega | simp)) ?_
  refine runTf g'1 ?_
  refine cond_split (fun h1 => ?_) (fun h1 => ?_)
  · have h1d := bsT h1
    have hfinP := pv_f h1d
    have g'2 := (jn @h1 (jn @h1d g'1))
    refine runTf g'2 ?_
    refine hQ _ _ (end_byG (.inl rfl) hbel (x1 := .tup [.sl none 0 (some 0), .int .i64 1]) (l2 := [.cells false 2 []]) (.tup [.sl (some (H.length, 0)) 0 none, .int .i64 1]) (resT Tryz.results23) [.cells false 2 []] rfl [1] (by decide) ⟨by first | (rw [hfinP.1, hfinP.2.1]; done) | (rw [hfinP.1, hfinP.2.1]; rfl) | skip, by first | (rw [hfinP.2.1, hfinP.2.2]; done) | (rw [hfinP.2.1, hfinP.2.2]; rfl) | skip⟩ ?_)
    exact absW
  · have h1d := bsT h1
    have hR := rgtA_iff.1 h1d
    obtain ⟨hV, hl0, hS, hsB, hg⟩ := id hR
    have hfinP := pv_t h1d
    have g'3 := (jn @h1 (jn @h1d g'1))
    refine runTf g'3 ?_
    refine call_v (by kernel_rfl) (kall_c _ W Hh _ xs _ l _ sc g ⟨_, _, _, rfl, by first | exact hb0pp _ | exact hbpp⟩ ⟨_, _, _, rfl, by first | exact hb0s _ | exact hbs⟩ ⟨_, _, _, rfl, by first | exact hb0q _ | exact hbq⟩ hV hS hl0 hsB (by omega)) ?_
    refine runTf g'3 ?_
    refine hQ _ _ (end_byG (.inl rfl) hbel (x1 := .tup [.sl (some (H.length + 1, 0)) ((allL W Hh l sc g).length) none, .int .i64 0]) (l2 := [.cells (ownG (rowA W Hh l sc g).length) 2 (prs (allL W Hh l sc g))]) (.tup [.sl (some (H.length, 0)) ((allL W Hh l sc g).length) none, .int .i64 0]) (resT Tryz.results23) [] rfl [1] (by decide) ⟨by first | (rw [hfinP.1, hfinP.2.1]; done) | (rw [hfinP.1, hfinP.2.1]; rfl) | skip, by first | (rw [hfinP.2.1, hfinP.2.2]; done) | (rw [hfinP.2.1, hfinP.2.2]; rfl) | skip⟩ ?_)
    exact absW
theorem kSuspects_c (H : AHeap) (W : Int) (Hh : Int) (pp : AV) (xs : List Int) (s : AV) (l : List T6) (m : Int) (r : Int) (g : Int) (hpp : Sl H 1 pp xs.length (ints .u8 xs)) (hs : Sl H 6 s l.length (r6 l)) (hl : l.length ≤ 1000000000) : ACalls Tryz.prog 73 [.agg [.int .i64 W, .int .i64 Hh, pp], s, .agg [.int .i64 m, .int .i64 r], .int .i64 g] H (fun v H' => v = .tup [.sl (some (H.length, 0)) ((ssL W Hh xs l m r g).length) none, .int .i64 (ssE W Hh xs l m r g)] ∧ H' = H ++ [.cells (ownG (ssR W Hh xs l m r g).length) 2 (prs (ssL W Hh xs l m r g))]) := by
  obtain ⟨bpp, opp, cpp, rfl, hbpp⟩ := hpp
  have hblpp := getElem?_lt hbpp
  have hb0pp := fun l => get_app (l := l) hbpp
  obtain ⟨bs, os, cs, rfl, hbs⟩ := hs
  have hbls := getElem?_lt hbs
  have hb0s := fun l => get_app (l := l) hbs
  refine AcT true Tryz.func73 ?_; intro hbel Q hQ
  have g'4 := (jn @hbpp (jn @hb0pp (jn @hbs @hb0s)))
  refine runTf g'4 ?_
  refine call_v (by kernel_rfl) (kright_c _ W Hh _ xs _ l _ [(m, r)] g ⟨_, _, _, rfl, by first | exact hb0pp _ | exact hbpp⟩ ⟨_, _, _, rfl, by first | exact hb0s _ | exact hbs⟩ ⟨_, _, _, by first | rfl | (rw [List.length_append]; done) | (rw [List.length_append]; rfl), by first | rfl | (rw [get_newk]; rfl) | (rw [get_new0]; rfl) | (rw [get_newk, prs_append]; rfl) | (rw [get_new0, prs_append]; rfl)⟩ (by first | omega | simp) (by first | omega | simp)) ?_
  refine runTf g'4 ?_
  refine cond_split (fun h1 => ?_) (fun h1 => ?_)
  · have h1d := bsT h1
    have hfinP := ss_f h1d
    have g'5 := (jn @h1 (jn @h1d g'4))
    refine runTf g'5 ?_
    refine hQ _ _ (end_byG (.inl rfl) hbel (x1 := .tup [.sl none 0 (some 0), .int .i64 1]) (l2 := [.cells false 2 []]) (.tup [.sl (some (H.length, 0)) 0 none, .int .i64 1]) (resT Tryz.results73) [.cells false 2 []] rfl [3] (by decide) ⟨by first | (rw [hfinP.1, hfinP.2.1]; done) | (rw [hfinP.1, hfinP.2.1]; rfl) | skip, by first | (rw [hfinP.2.1, hfinP.2.2]; done) | (rw [hfinP.2.1, hfinP.2.2]; rfl) | skip⟩ ?_)
    exact absW
  · have h1d := bsT h1
    have hR := rgtA_iff.1 h1d
    obtain ⟨hV, hl0, hS, hsB, hg⟩ := id hR
    have hbr := beaB_iff.1 ((scnB_iff.1 hsB).2 (m, r) (List.mem_singleton.2 rfl))
    have hfinP := ss_t h1d
    have g'6 := (jn @h1 (jn @h1d g'4))
    refine runTf g'6 ?_
    refine call_v (by kernel_rfl) (ksus_c _ _ l m r g ⟨_, _, _, rfl, by first | exact hb0s _ | exact hbs⟩ hS (by omega) (by omega)) ?_
    refine runTf g'6 ?_
    refine hQ _ _ (end_byG (.inl rfl) hbel (x1 := .tup [.sl (some (H.length + 3, 0)) ((susL l m r g).length) none, .int .i64 0]) (l2 := [.cells (ownG (rowU l m r g).length) 2 (prs (susL l m r g))]) (.tup [.sl (some (H.length, 0)) ((susL l m r g).length) none, .int .i64 0]) (resT Tryz.results73) [] rfl [3] (by decide) ⟨by first | (rw [hfinP.1, hfinP.2.1]; done) | (rw [hfinP.1, hfinP.2.1]; rfl) | skip, by first | (rw [hfinP.2.1, hfinP.2.2]; done) | (rw [hfinP.2.1, hfinP.2.2]; rfl) | skip⟩ ?_)
    exact absW
open Go.RowKit
/-- A cell's place. -/
def cidx (W : Int) (c : Int × Int) : Nat := (c.2 * W + c.1).toNat
/-- What is learned of the free cells: nothing, if one of them is a wall. -/
def lrnF (W H : Int) : List (Int × Int) → List Int → Option (List Int)
  | [], o => some o
  | c :: l, o => if atI W H o c.1 c.2 = 2 then none else lrnF W H l (o.set (cidx W c) 1)
/-- What is learned of the echoes' suspects. -/
def lrnW (W H : Int) : List (List (Int × Int)) → List Int → Option (List Int)
  | [], o => some o
  | s :: l, o => match s.filter fun c => !(atI W H o c.1 c.2 == 1) with
    | [] => none
    | [c] => lrnW W H l (if inB W H c.1 c.2 = true then o.set (cidx W c) 2 else o)
    | _ => lrnW W H l o
theorem set_le {o : List Int} {i : Nat} {v : Int} (h : ∀ x ∈ o, x ≤ 2) (hv : v ≤ 2) : ∀ x ∈ o.set i v, x ≤ 2 := fun x hx => by
  rcases List.mem_or_eq_of_mem_set hx with k | k
  · exact h x k
  · rw [k]; exact hv
theorem at_in {W H : Int} {xs : List Int} {c : Int × Int} (h : inB W H c.1 c.2 = true) : atI W H xs c.1 c.2 = gi xs (cidx W c) := if_pos h
/-- The echoes' suspects. -/
def echL (l : List T6) (sc : List (Int × Int)) (g : Int) : List (List (Int × Int)) := (sc.filter fun e => !(e.2 == -1)).map fun e => susL l e.1 e.2 g
/-- What is learned, if the arguments are valid. -/
def lnO (W Hh : Int) (xs : List Int) (l : List T6) (sc : List (Int × Int)) (g : Int) : Option (List Int) := if tauB l = true then (lrnF W Hh (allL W Hh l sc g) xs).bind (lrnW W Hh (echL l sc g)) else some xs
def lnE (W Hh : Int) (xs : List Int) (l : List T6) (sc : List (Int × Int)) (g : Int) : Int := if rgtA W Hh xs l sc g = true then (match lnO W Hh xs l sc g with | none => 11 | some _ => 0) else 1
def lnX (W Hh : Int) (xs : List Int) (l : List T6) (sc : List (Int × Int)) (g : Int) : List Int := if rgtA W Hh xs l sc g = true then (lnO W Hh xs l sc g).getD [] else []
def lnZ (W Hh : Int) (xs : List Int) (l : List T6) (sc : List (Int × Int)) (g : Int) (n : Int) : Int := if lnE W Hh xs l sc g = 0 then n else 0
section
variable {W Hh : Int} {xs : List Int} {l : List T6} {sc : List (Int × Int)} {g : Int}
theorem ln_1 (h : rgtA W Hh xs l sc g = false) : lnE W Hh xs l sc g = 1 ∧ lnX W Hh xs l sc g = [] ∧ lnZ W Hh xs l sc g W = 0 ∧ lnZ W Hh xs l sc g Hh = 0 := by
  have e : lnE W Hh xs l sc g = 1 := if_neg (by rw [h]; decide)
  exact ⟨e, if_neg (by rw [h]; decide), if_neg (by rw [e]; decide), if_neg (by rw [e]; decide)⟩
theorem ln_11 (h : rgtA W Hh xs l sc g = true) (k : lnO W Hh xs l sc g = none) : lnE W Hh xs l sc g = 11 ∧ lnX W Hh xs l sc g = [] ∧ lnZ W Hh xs l sc g W = 0 ∧ lnZ W Hh xs l sc g Hh = 0 := by
  have e : lnE W Hh xs l sc g = 11 := by unfold lnE; rw [if_pos h, k]
  exact ⟨e, by unfold lnX; rw [if_pos h, k]; rfl, if_neg (by rw [e]; decide), if_neg (by rw [e]; decide)⟩
theorem ln_0 {o : List Int} (h : rgtA W Hh xs l sc g = true) (k : lnO W Hh xs l sc g = some o) : lnE W Hh xs l sc g = 0 ∧ lnX W Hh xs l sc g = o ∧ lnZ W Hh xs l sc g W = W ∧ lnZ W Hh xs l sc g Hh = Hh := by
  have e : lnE W Hh xs l sc g = 0 := by unfold lnE; rw [if_pos h, k]
  exact ⟨e, by unfold lnX; rw [if_pos h, k]; rfl, if_pos e, if_pos e⟩
theorem prS_in : ∀ {i : Nat} {c : Int × Int}, c ∈ prS W Hh l sc g i → inB W Hh c.1 c.2 = true
  | 0, _, h => by cases h
  | i + 1, c, h => by
    unfold prS at h
    rcases List.mem_append.1 h with h | h
    · exact prS_in h
    · unfold prvL at h
      split at h
      · cases h
      · have k := (List.mem_filter.1 h).2
        unfold okcB at k
        rw [Bool.and_eq_true, Bool.and_eq_true, btw_iff, btw_iff] at k
        exact inB_iff.2 ⟨by omega, by omega, by omega, by omega⟩
theorem allL_in {c : Int × Int} (h : c ∈ allL W Hh l sc g) : inB W Hh c.1 c.2 = true := by
  unfold allL at h
  have h := (srtC_perm _).mem_iff.1 (cptC_mem.1 h)
  unfold rowA at h
  split at h
  · exact prS_in h
  · cases h
/-- The cells that are set free by the first of a list. -/
def lfS (W : Int) (A : List (Int × Int)) (xs : List Int) : Nat → List Int
  | 0 => xs
  | i + 1 => (lfS W A xs i).set ((g2 A i * W) + g1 A i).toNat 1
theorem vld_set {o : List Int} {i : Nat} {v : Int} (h : vldB W Hh o = true) (hv : v ≤ 2) : vldB W Hh (o.set i v) = true := by
  have q := vld_iff.1 h
  exact vld_iff.2 ⟨q.w0, q.w1, q.h0, q.h1, by rw [List.length_set]; exact q.len, set_le q.le hv⟩
theorem lfS_vld {A : List (Int × Int)} (h : vldB W Hh xs = true) : ∀ i : Nat, vldB W Hh (lfS W A xs i) = true
  | 0 => h
  | i + 1 => vld_set (lfS_vld h i) (by decide)
theorem lrnF_step {A : List (Int × Int)} {o : List Int} {i : Nat} (hi : i < A.length) (hA : ∀ c ∈ A, inB W Hh c.1 c.2 = true) : lrnF W Hh (A.drop i) o = if gi o ((g2 A i * W) + g1 A i).toNat = 2 then none else lrnF W Hh (A.drop (i + 1)) (o.set ((g2 A i * W) + g1 A i).toNat 1) := by
  rw [List.drop_eq_getElem_cons hi]
  have h := hA _ (List.getElem_mem hi)
  have e : cidx W A[i] = ((g2 A i * W) + g1 A i).toNat := by rw [← pr_eq hi]; rfl
  conv => lhs; unfold lrnF
  rw [at_in h, e]
theorem gin_mem {A : List (Int × Int)} {i : Nat} (hi : i < A.length) (hA : ∀ c ∈ A, inB W Hh c.1 c.2 = true) : inB W Hh (g1 A i) (g2 A i) = true := by
  have h := hA _ (List.getElem_mem hi)
  rw [← pr_eq hi] at h; exact h
/-- What an echo makes of a plan, by the suspects that are not free. -/
def frP (W Hh : Int) (o : List Int) (c : Int × Int) : Bool := atI W Hh o c.1 c.2 == 1
def lwU (W Hh : Int) (o : List Int) (d : List (Int × Int)) : List Int := if d.length = 1 ∧ btw (g1 d 0) 0 (W - 1) = true ∧ btw (g2 d 0) 0 (Hh - 1) = true then o.set ((g2 d 0 * W) + g1 d 0).toNat 2 else o
def lwS (W Hh : Int) (l : List T6) (sc : List (Int × Int)) (g : Int) (o : List Int) : Nat → List Int
  | 0 => o
  | i + 1 => if g2 sc i = -1 then lwS W Hh l sc g o i else lwU W Hh (lwS W Hh l sc g o i) (delL (frP W Hh (lwS W Hh l sc g o i)) (susL l (g1 sc i) (g2 sc i) g))
theorem lwU_vld {o : List Int} {d : List (Int × Int)} (h : vldB W Hh o = true) : vldB W Hh (lwU W Hh o d) = true := by
  unfold lwU; split
  · exact vld_set h (by decide)
  · exact h
theorem lwS_vld {o : List Int} (h : vldB W Hh o = true) : ∀ i : Nat, vldB W Hh (lwS W Hh l sc g o i) = true
  | 0 => h
  | i + 1 => by
    unfold lwS; split
    · exact lwS_vld h i
    · exact lwU_vld (lwS_vld h i)
theorem lrnW_step {o : List Int} {i : Nat} (hi : i < sc.length) : lrnW W Hh (echL l (sc.drop i) g) o = if g2 sc i = -1 then lrnW W Hh (echL l (sc.drop (i + 1)) g) o else if (delL (frP W Hh o) (susL l (g1 sc i) (g2 sc i) g)).length = 0 then none else lrnW W Hh (echL l (sc.drop (i + 1)) g) (lwU W Hh o (delL (frP W Hh o) (susL l (g1 sc i) (g2 sc i) g))) := by
  have e : sc[i] = (g1 sc i, g2 sc i) := (pr_eq hi).symm
  unfold echL
  rw [List.drop_eq_getElem_cons hi, List.filter_cons, e]
  by_cases h : g2 sc i = -1
  · rw [if_pos h, if_neg (by simp [h])]
  · rw [if_neg h, if_pos (by simpa using h), List.map_cons]
    conv => lhs; unfold lrnW
    have hd : ∀ s : List (Int × Int), (s.filter fun c => !(atI W Hh o c.1 c.2 == 1)) = delL (frP W Hh o) s := fun _ => rfl
    simp only [hd]
    generalize delL (frP W Hh o) (susL l (g1 sc i) (g2 sc i) g) = d
    match d with
    | [] => simp
    | [c] =>
      simp only [List.length_cons, List.length_nil]
      unfold lwU
      have q : (btw (g1 [c] 0) 0 (W - 1) = true ∧ btw (g2 [c] 0) 0 (Hh - 1) = true) ↔ inB W Hh c.1 c.2 = true := by
        rw [btw_iff, btw_iff, inB_iff]; show ((0 ≤ c.1 ∧ c.1 ≤ W - 1) ∧ 0 ≤ c.2 ∧ c.2 ≤ Hh - 1) ↔ _; omega
      simp only [List.length_cons, List.length_nil, Nat.zero_add, true_and, q, Nat.one_ne_zero, if_false]
      rfl
    | a :: b :: t => simp [lwU]
theorem lwS_skip {o : List Int} {i : Nat} (h : g2 sc i = -1) : lwS W Hh l sc g o (i + 1) = lwS W Hh l sc g o i := by simp only [lwS]; rw [if_pos h]
theorem lwS_same {o : List Int} {i : Nat} (h : ¬ g2 sc i = -1) (k : ¬ ((delL (frP W Hh (lwS W Hh l sc g o i)) (susL l (g1 sc i) (g2 sc i) g)).length = 1 ∧ btw (g1 (delL (frP W Hh (lwS W Hh l sc g o i)) (susL l (g1 sc i) (g2 sc i) g)) 0) 0 (W - 1) = true ∧ btw (g2 (delL (frP W Hh (lwS W Hh l sc g o i)) (susL l (g1 sc i) (g2 sc i) g)) 0) 0 (Hh - 1) = true)) : lwS W Hh l sc g o (i + 1) = lwS W Hh l sc g o i := by simp only [lwS]; rw [if_neg h]; exact if_neg k
theorem lwS_set {o : List Int} {i : Nat} (h : ¬ g2 sc i = -1) (k : (delL (frP W Hh (lwS W Hh l sc g o i)) (susL l (g1 sc i) (g2 sc i) g)).length = 1 ∧ btw (g1 (delL (frP W Hh (lwS W Hh l sc g o i)) (susL l (g1 sc i) (g2 sc i) g)) 0) 0 (W - 1) = true ∧ btw (g2 (delL (frP W Hh (lwS W Hh l sc g o i)) (susL l (g1 sc i) (g2 sc i) g)) 0) 0 (Hh - 1) = true) : lwS W Hh l sc g o (i + 1) = (lwS W Hh l sc g o i).set ((g2 (delL (frP W Hh (lwS W Hh l sc g o i)) (susL l (g1 sc i) (g2 sc i) g)) 0 * W) + g1 (delL (frP W Hh (lwS W Hh l sc g o i)) (susL l (g1 sc i) (g2 sc i) g)) 0).toNat 2 := by simp only [lwS]; rw [if_neg h]; exact if_pos k
/-- One round of the second part. -/
theorem lwS_next {o : List Int} {i : Nat} (hi : i < sc.length) (h : g2 sc i = -1 ∨ ¬ (delL (frP W Hh (lwS W Hh l sc g o i)) (susL l (g1 sc i) (g2 sc i) g)).length = 0) : lrnW W Hh (echL l (sc.drop i) g) (lwS W Hh l sc g o i) = lrnW W Hh (echL l (sc.drop (i + 1)) g) (lwS W Hh l sc g o (i + 1)) := by
  rw [lrnW_step hi]
  simp only [lwS]
  by_cases k : g2 sc i = -1
  · rw [if_pos k, if_pos k]
  · rw [if_neg k, if_neg k, if_neg (by rcases h with h | h; exact absurd h k; exact h)]
theorem lwS_bad {o : List Int} {i : Nat} (hi : i < sc.length) (h : ¬ g2 sc i = -1) (k : (delL (frP W Hh (lwS W Hh l sc g o i)) (susL l (g1 sc i) (g2 sc i) g)).length = 0) : lrnW W Hh (echL l (sc.drop i) g) (lwS W Hh l sc g o i) = none := by
  rw [lrnW_step hi, if_neg h, if_pos k]
theorem vld_pos {o : List Int} (h : vldB W Hh o = true) : 0 < o.length := by
  have q := vld_iff.1 h
  have := (q.idx (show inB W Hh 0 0 = true from inB_iff.2 (by have := q.w0; have := q.h0; omega))).2.2.2.2.1
  omega
theorem pad_len {p : Int × Int → Bool} {l : List (Int × Int)} : (padL l.length (delL p l)).length = l.length := by
  have := delL_le (p := p) (l := l)
  unfold padL; simp; omega
theorem pad_g1 {n : Nat} {d : List (Int × Int)} (h : ¬ d.length = 0) : g1 (padL n d) 0 = g1 d 0 := by
  match d, h with
  | a :: t, _ => rfl
theorem pad_g2 {n : Nat} {d : List (Int × Int)} (h : ¬ d.length = 0) : g2 (padL n d) 0 = g2 d 0 := by
  match d, h with
  | a :: t, _ => rfl
theorem susL_len {m r : Int} (hS : setB l = true) : (susL l m r g).length ≤ 7225 * 4096 := by
  have h1 := swS_len (dirA l m) r g (dirA l m).length
  have h2 := dirA_len hS m
  have h3 : (rowU l m r g).length ≤ 7225 * 4096 := by
    unfold rowU; split
    · simp
    · omega
  unfold susL
  have := cpt_len (srtC (rowU l m r g)); rw [srtC_len] at this; omega
theorem allL_len : (allL W Hh l sc g).length ≤ 7225 * sc.length := by
  have h1 := prS_len W Hh l sc g sc.length
  have h3 : (rowA W Hh l sc g).length ≤ 7225 * sc.length := by
    unfold rowA; split
    · exact h1
    · simp
  unfold allL
  have := cpt_len (srtC (rowA W Hh l sc g)); rw [srtC_len] at this; omega
end
set_option linter.unusedSimpArgs false
set_option linter.unusedVariables false
open Go.RowKit
set_option maxHeartbeats 4000000
set_option maxRecDepth 100000
set_option maxRecDepth 100000 in
theorem cloneb_c (H : AHeap) (s : AV) (xs : List Int) (hs : Sl H 1 s xs.length (ints .u8 xs)) (hl : xs.length ≤ 1000000) (h0 : 0 < xs.length) : ACalls Tryz.prog 79 [s] H (fun v H' => v = .sl (some (H.length, 0)) xs.length none ∧ H' = H ++ [.cells true 1 (ints .u8 xs)]) := by
  obtain ⟨b, own, cap, rfl, hb⟩ := hs
  have hbl := getElem?_lt hb
  have hb0 := fun l => get_app (l := l) hb
  generalize hm : xs.length = m at *
  refine AcT true Tryz.func79 ?_; intro hbel Q hQ
  have htk : List.take m (ints .u8 xs) = ints .u8 xs := List.take_of_length_le (by rw [ints_len]; omega)
  have htk1 : List.take (m * 1) (ints .u8 xs) = ints .u8 xs := List.take_of_length_le (by rw [ints_len]; omega)
  have hm0 : (m == 0) = false := beq_eq_false_iff_ne.2 (by omega)
  have hm1 : (m != 0) = true := bne_iff_ne.2 (by omega)
  simp -implicitDefEqProofs (disch := omega) only [hb, hb0, Option.isNone_some, hm0, h0, htk, htk1, nilKnown, hm1, simprocAttr, amset, tyset, Function.comp_apply, one1, lenV, calleeOf, lateOk, belowV, aop, AV.ofValue, AV.ofCell, AV.cells, AV.flat, AV.one, arep, aBin, aAppend, aConv]
  repeat refine And.intro (by omega) ?_
  refine hQ _ _ (end_by (.inl rfl) hbel (x1 := .sl (some (H.length + 1, 0)) m none) (.sl (some (H.length, 0)) m none) (resT Tryz.results79) [1] (by decide) ⟨rfl, rfl⟩ ?_)
  exact absT
theorem susL_own {l : List T6} {m r g : Int} : ownG (rowU l m r g).length = ownG (susL l m r g).length := by
  unfold susL
  have h := srtC_len (rowU l m r g)
  generalize srtC (rowU l m r g) = s at *
  match s, h with
  | [], h => rw [← h]; rfl
  | a :: t, h =>
    have h2 : a ∈ cptC (a :: t) := cptC_mem.2 (List.mem_cons_self ..)
    rw [ownG_p (by rw [← h]; simp), ownG_p (List.length_pos_of_mem h2)]
theorem ksus2_c (H : AHeap) (s : AV) (l : List T6) (m : Int) (r : Int) (g : Int) (hs : Sl H 6 s l.length (r6 l)) (hS : setB l = true) (hr : -1 ≤ r ∧ r ≤ 1024) (hg : 1 ≤ g ∧ g ≤ 32) : ACalls Tryz.prog 83 [s, .agg [.int .i64 m, .int .i64 r], .int .i64 g] H (fun v H' => v = .sl (some (H.length, 0)) (susL l m r g).length none ∧ H' = H ++ [.cells (ownG (susL l m r g).length) 2 (prs (susL l m r g))]) := by
  have h := ksus_c H s l m r g hs hS hr hg
  rw [susL_own] at h
  exact h
theorem learn1_c (H : AHeap) (c1 : Int) (c2 : Int) (W : Int) (Hh : Int) (pp : AV) (xs : List Int) (bz : Nat) (hpp : Sl H 1 pp xs.length (ints .u8 xs)) (hz : ∃ o, H[bz]? = some (.cells o 0 [.int .i64 W, .int .i64 Hh, pp])) (hV : vldB W Hh xs = true) : ACalls Tryz.prog 84 [.agg [.int .i64 c1, .int .i64 c2], .ptr (some (bz, 0))] H (fun v H' => v = .bool (frP W Hh xs (c1, c2)) ∧ H' = H) := by
  obtain ⟨bpp, opp, cpp, rfl, hbpp⟩ := hpp
  have hblpp := getElem?_lt hbpp
  have hb0pp := fun l => get_app (l := l) hbpp
  obtain ⟨oz, hbz⟩ := hz
  have hblz := getElem?_lt hbz
  have hb0z := fun l => get_app (l := l) hbz
  refine AcT true Tryz.func84 ?_; intro hbel Q hQ
  have g'1 := (jn @hbpp (jn @hb0pp (jn @hbz @hb0z)))
  refine runTf g'1 ?_
  refine call_v (by kernel_rfl) (pat_c _ W Hh _ xs c1 c2 ⟨_, _, _, rfl, by first | exact hb0pp _ | exact hbpp⟩ hV) ?_
  refine runTf g'1 ?_
  exact hQ _ _ (end_plain (.inl rfl) hbel (x := .bool ((atI W Hh xs c1 c2) == 1)) (resT Tryz.results84) rfl ⟨rfl, rfl⟩)
theorem learn_c (H : AHeap) (W : Int) (Hh : Int) (pp : AV) (xs : List Int) (s : AV) (l : List T6) (q : AV) (sc : List (Int × Int)) (g : Int) (hpp : Sl H 1 pp xs.length (ints .u8 xs)) (hs : Sl H 6 s l.length (r6 l)) (hq : Sl H 2 q sc.length (prs sc)) (hl : l.length ≤ 1000000000) (hsc : sc.length ≤ 1000000000) : ACalls Tryz.prog 20 [.agg [.int .i64 W, .int .i64 Hh, pp], s, q, .int .i64 g] H (fun v H' => v = .tup [.agg [.int .i64 (lnZ W Hh xs l sc g W), .int .i64 (lnZ W Hh xs l sc g Hh), .sl (some (H.length, 0)) ((lnX W Hh xs l sc g).length) none], .int .i64 (lnE W Hh xs l sc g)] ∧ H' = H ++ [.cells (ownG (lnX W Hh xs l sc g).length) 1 (ints .u8 (lnX W Hh xs l sc g))]) := by
  obtain ⟨bpp, opp, cpp, rfl, hbpp⟩ := hpp
  have hblpp := getElem?_lt hbpp
  have hb0pp := fun l => get_app (l := l) hbpp
  obtain ⟨bs, os, cs, rfl, hbs⟩ := hs
  have hbls := getElem?_lt hbs
  have hb0s := fun l => get_app (l := l) hbs
  obtain ⟨bq, oq, cq, rfl, hbq⟩ := hq
  have hblq := getElem?_lt hbq
  have hb0q := fun l => get_app (l := l) hbq
  (refine ACalls_pieces Tryz.func20 _ rfl (Nat.le_of_ble_eq_true (by kernel_rfl)) rfl ?_; intro hbel Q hQ hQ' c hc; unfold Tryz.f20 at hc; simp only [Option.some.injEq] at hc; subst hc; clear hQ')
  refine AW_step false try_mixed (by kernel_rfl) (fun F Hx => look F 1 = .sl (some (bs, 0)) l.length cs ∧ look F 2 = .sl (some (bq, 0)) sc.length cq ∧ look F 3 = .int .i64 g ∧ look F 4 = .ptr (some (H.length, 0)) ∧ look F 8 = .ptr (some (H.length + 1, 0)) ∧ look F 9 = .int .i64 0 ∧ Hx = H ++ [.cells true 0 [.int .i64 W, .int .i64 Hh, .sl (some (bpp, 0)) xs.length cpp], .cells true 0 [.int .i64 0, .int .i64 0, .sl none 0 (some 0)]]) ?_ ?_
  · skip
    have g'2 := (jn @hbpp (jn @hb0pp (jn @hbs (jn @hb0s (jn @hbq @hb0q)))))
    refine runTf g'2 ?_
    refine inv_of ?_
    exact absT
  rintro F Hx ⟨f1, f2, f3, f4, f5, f6, rfl⟩
  refine AW_step false try_mixed (by kernel_rfl) (fun F Hx => rgtA W Hh xs l sc g = true ∧ look F 1 = .sl (some (bs, 0)) l.length cs ∧ look F 2 = .sl (some (bq, 0)) sc.length cq ∧ look F 3 = .int .i64 g ∧ look F 4 = .ptr (some (H.length, 0)) ∧ look F 8 = .ptr (some (H.length + 1, 0)) ∧ look F 9 = .int .i64 0 ∧ Hx = H ++ [.cells true 0 [.int .i64 W, .int .i64 Hh, .sl (some (bpp, 0)) xs.length cpp], .cells true 0 [.int .i64 0, .int .i64 0, .sl none 0 (some 0)]]) ?_ ?_
  · skip
    have g'3 := (jn @hbpp (jn @hb0pp (jn @hbs (jn @hb0s (jn @hbq (jn @hb0q (jn @f1 (jn @f2 (jn @f3 (jn @f4 (jn @f5 @f6)))))))))))
    refine runTf g'3 ?_
    refine call_v (by kernel_rfl) (kright_c _ W Hh _ xs _ l _ sc g ⟨_, _, _, rfl, by first | exact hb0pp _ | exact hbpp⟩ ⟨_, _, _, rfl, by first | exact hb0s _ | exact hbs⟩ ⟨_, _, _, rfl, by first | exact hb0q _ | exact hbq⟩ (by first | omega | simp) (by first | omega | simp)) ?_
    refine runTf g'3 ?_
    refine cond_split (fun h7 => ?_) (fun h7 => ?_)
    · have h7d := bsT h7
      have hfinP := ln_1 h7d
      have g'4 := (jn @h7 (jn @h7d g'3))
      refine runTf g'4 ?_
      refine hQ _ _ (end_byG (.inl rfl) hbel (x1 := .tup [.agg [.int .i64 0, .int .i64 0, .sl none 0 (some 0)], .int .i64 1]) (l2 := [.cells false 1 []]) (.tup [.agg [.int .i64 0, .int .i64 0, .sl (some (H.length, 0)) 0 none], .int .i64 1]) (resTf (jn @f1 (jn @f2 (jn @f3 (jn @f4 (jn @f5 @f6))))) Tryz.results20) [.cells false 1 []] rfl [2] (by decide) ⟨by first | (rw [hfinP.1, hfinP.2.1, hfinP.2.2.1, hfinP.2.2.2]; done) | (rw [hfinP.1, hfinP.2.1, hfinP.2.2.1, hfinP.2.2.2]; rfl) | skip, by first | (rw [hfinP.2.1, hfinO]; done) | (rw [hfinP.2.1, hfinO]; rfl) | (rw [hfinP.2.1]; done) | (rw [hfinP.2.1]; rfl) | skip⟩ ?_)
      exact absW
    · have h7d := bsT h7
      have g'5 := (jn @h7 (jn @h7d g'3))
      refine runTf g'5 ?_
      refine inv_of ?_
      exact absTf (jn @f1 (jn @f2 (jn @f3 (jn @f4 (jn @f5 @f6)))))
  rintro F Hx ⟨h8d, f9, f10, f11, f12, f13, f14, rfl⟩
  have hR := h8d
  obtain ⟨hV, hl0, hS, hsB, hg⟩ := rgtA_iff.1 hR
  have hVV := vld_iff.1 hV
  have hpp2 := hVV.pos
  have hWb : 1 ≤ W ∧ W ≤ 64 := ⟨hVV.w0, hVV.w1⟩
  have hHb : 1 ≤ Hh ∧ Hh ≤ 64 := ⟨hVV.h0, hVV.h1⟩
  have hx00 := (hVV.idx (show inB W Hh 0 0 = true from inB_iff.2 (by have := hVV.w0; have := hVV.h0; omega))).2.2.2.2.1
  have hx0 : 0 < xs.length := by omega
  have hx6 : xs.length ≤ 1000000 := by have h4 := hVV.len; have := Int.mul_le_mul hVV.w1 hVV.h1 (by have := hVV.h0; omega) (by decide); omega
  have hsc2 := scnB_iff.1 hsB
  have hAl := allL_len (W := W) (Hh := Hh) (l := l) (sc := sc) (g := g)
  have hA : ∀ c ∈ (allL W Hh l sc g), inB W Hh c.1 c.2 = true := fun c hc => allL_in hc
  refine AW_special false try_mixed [[0, 1, 2, 3, 4, 5, 6, 7, 8, 9], [0, 1, 2, 3, 4, 5, 8, 6, 7, 9]] (by kernel_rfl) (fun F2 H2 => F2 = [(1, .sl (some (bs, 0)) l.length cs), (2, .sl (some (bq, 0)) sc.length cq), (3, .int .i64 g), (4, .ptr (some (H.length, 0))), (8, .ptr (some (H.length + 1, 0))), (9, .int .i64 0), (10, .ptr (some (H.length + 3, 0)))] ∧ H2 = H ++ [.cells true 0 [.int .i64 W, .int .i64 Hh, .sl (some (bpp, 0)) xs.length cpp], .cells true 0 [.int .i64 0, .int .i64 0, .sl none 0 (some 0)], .cells true 1 (ints .u8 xs), .cells true 0 [.int .i64 W, .int .i64 Hh, .sl (some (H.length + 2, 0)) xs.length none]]) ?_ ?_
  · refine reps_cons ?_ (reps_cons ?_ (reps_nil)) <;> intro J hJ
    · skip
      have g'6 := (jn @hbpp (jn @hb0pp (jn @hbs (jn @hb0s (jn @hbq (jn @hb0q (jn @f1 (jn @f2 (jn @f3 (jn @f4 (jn @f5 (jn @f6 (jn @f9 (jn @f10 (jn @f11 (jn @f12 (jn @f13 (jn @f14 @h8d))))))))))))))))))
      refine runDf g'6 ?_
      refine call_x (by kernel_rfl) (by simp) (cloneb_c _ _ xs ⟨_, _, _, rfl, by first | exact hb0pp _ | exact hbpp⟩ hx6 hx0) ?_
      refine runDf g'6 ?_
      refine inv_of (hJ _ _ ⟨_, _, _, ⟨rfl, rfl⟩, Abs.byG hbel [] rfl [0, 1, 2, 3] (by decide) ?_⟩)
      exact absRf (jn @f1 (jn @f2 (jn @f3 (jn @f4 (jn @f5 (jn @f6 (jn @f9 (jn @f10 (jn @f11 (jn @f12 (jn @f13 @f14)))))))))))
    · skip
      have g'7 := (jn @hbpp (jn @hb0pp (jn @hbs (jn @hb0s (jn @hbq (jn @hb0q (jn @f1 (jn @f2 (jn @f3 (jn @f4 (jn @f5 (jn @f6 (jn @f9 (jn @f10 (jn @f11 (jn @f12 (jn @f13 (jn @f14 @h8d))))))))))))))))))
      refine runDf g'7 ?_
      refine call_x (by kernel_rfl) (by simp) (cloneb_c _ _ xs ⟨_, _, _, rfl, by first | exact hb0pp _ | exact hbpp⟩ hx6 hx0) ?_
      refine runDf g'7 ?_
      refine inv_of (hJ _ _ ⟨_, _, _, ⟨rfl, rfl⟩, Abs.byG hbel [] rfl [0, 1, 3, 2] (by decide) ?_⟩)
      exact absRf (jn @f1 (jn @f2 (jn @f3 (jn @f4 (jn @f5 (jn @f6 (jn @f9 (jn @f10 (jn @f11 (jn @f12 (jn @f13 @f14)))))))))))
  rintro F2 H2 ⟨rfl, rfl⟩
  refine AW_fin false try_mixed (by kernel_rfl) ?_
  have g'8 := (jn @hbpp (jn @hb0pp (jn @hbs (jn @hb0s (jn @hbq (jn @hb0q (jn @h8d (jn @ints_len @ints_ones))))))))
  refine runTf g'8 ?_
  refine call_v (by kernel_rfl) (ktaught_c _ _ l ⟨_, _, _, rfl, by first | exact hb0s _ | exact hbs⟩ (by assumption)) ?_
  refine runTf g'8 ?_
  refine cond_split (fun h15 => ?_) (fun h15 => ?_)
  · have h15d := bsT h15
    have hfinP := ln_0 hR (if_neg (by rw [h15d]; decide))
    have hfinO := ownG_p hx0
    have g'9 := (jn @h15 (jn @h15d g'8))
    refine runTf g'9 ?_
    refine hQ _ _ (end_byG (.inl rfl) hbel (x1 := .tup [.agg [.int .i64 W, .int .i64 Hh, .sl (some (H.length + 2, 0)) xs.length none], .int .i64 0]) (l2 := [.cells true 1 (ints .u8 xs)]) (.tup [.agg [.int .i64 W, .int .i64 Hh, .sl (some (H.length, 0)) xs.length none], .int .i64 0]) (resT Tryz.results20) [] rfl [2] (by decide) ⟨by first | (rw [hfinP.1, hfinP.2.1, hfinP.2.2.1, hfinP.2.2.2]; done) | (rw [hfinP.1, hfinP.2.1, hfinP.2.2.1, hfinP.2.2.2]; rfl) | skip, by first | (rw [hfinP.2.1, hfinO]; done) | (rw [hfinP.2.1, hfinO]; rfl) | (rw [hfinP.2.1]; done) | (rw [hfinP.2.1]; rfl) | skip⟩ ?_)
    exact absW
  · have h15d := bsT h15
    have htau := h15d
    have g'10 := (jn @h15 (jn @h15d g'8))
    refine runTf g'10 ?_
    refine call_v (by kernel_rfl) (kall_c _ W Hh _ xs _ l _ sc g ⟨_, _, _, rfl, by first | exact hb0pp _ | exact hbpp⟩ ⟨_, _, _, rfl, by first | exact hb0s _ | exact hbs⟩ ⟨_, _, _, rfl, by first | exact hb0q _ | exact hbq⟩ hV hS hl0 hsB (by omega)) ?_
    refine runTf g'10 ?_
    refine go_loop try_mixed (by kernel_rfl) (fun k F Hx => ∃ i : Nat, i + k = (allL W Hh l sc g).length ∧ lrnF W Hh (allL W Hh l sc g) xs = lrnF W Hh ((allL W Hh l sc g).drop i) (lfS W (allL W Hh l sc g) xs i) ∧ F = [(1, .sl (some (bs, 0)) l.length cs), (2, .sl (some (bq, 0)) sc.length cq), (3, .int .i64 g), (4, .ptr (some (H.length, 0))), (8, .ptr (some (H.length + 1, 0))), (10, .ptr (some (H.length + 3, 0))), (41, .sl (some (H.length + 4, 0)) ((allL W Hh l sc g).length) none), (42, .int .i64 (((allL W Hh l sc g).length : Nat) : Int)), (43, .int .i64 ((i : Nat) : Int))] ∧ Hx = H ++ [.cells true 0 [.int .i64 W, .int .i64 Hh, .sl (some (bpp, 0)) xs.length cpp], .cells true 0 [.int .i64 0, .int .i64 0, .sl none 0 (some 0)], .cells true 1 (ints .u8 (lfS W (allL W Hh l sc g) xs i)), .cells true 0 [.int .i64 W, .int .i64 Hh, .sl (some (H.length + 2, 0)) ((lfS W (allL W Hh l sc g) xs i).length) none], .cells (ownG (rowA W Hh l sc g).length) 2 (prs (allL W Hh l sc g))]) ((allL W Hh l sc g).length) ?_ ?_
    · refine ⟨_, _, _, ⟨0, by omega, rfl, rfl, rfl⟩, Abs.byG hbel [] rfl [0, 1, 2, 3, 4] (by decide) ?_⟩
      exact absRf @lfS.eq_1
    · rintro k0 F Hx ⟨i, hm0, hrem, rfl, rfl⟩ J0 hJ0
      have g'11 := (jn @prs_len (jn @prs_one g'10))
      refine runTf g'11 ?_
      refine cond_split (fun h16 => ?_) (fun h16 => ?_)
      · have h16d := bsT h16
        have hlt : i < (allL W Hh l sc g).length := by omega
        have hfv := lfS_vld (W := W) (A := (allL W Hh l sc g)) hV i
        obtain ⟨j1, j2, j3, j4, j5, -⟩ := (vld_iff.1 hfv).idx (gin_mem hlt hA)
        have q17 := prs_load (l := allL W Hh l sc g) (j := i) (by omega)
        have q18 := ints_get (k := .u8) (xs := lfS W (allL W Hh l sc g) xs i) (j := (((g2 (allL W Hh l sc g) i) * W) + (g1 (allL W Hh l sc g) i)).toNat) (by omega)
        have g'12 := (jn @h16 (jn @h16d (jn @q17 (jn @q18 g'11))))
        refine runTf g'12 ?_
        refine cond_split (fun h19 => ?_) (fun h19 => ?_)
        · have h19d := bsT h19
          have h19n := bnT h19
          have hfinP := ln_11 hR (by unfold lnO; rw [if_pos htau, hrem, lrnF_step hlt hA, if_pos (by simpa using h19d)]; rfl)
          have g'13 := (jn @h19 (jn @h19n (jn @int_bne (jn @int_beq g'12))))
          refine runTf g'13 ?_
          refine hQ _ _ (end_byG (.inl rfl) hbel (x1 := .tup [.agg [.int .i64 0, .int .i64 0, .sl none 0 (some 0)], .int .i64 11]) (l2 := [.cells false 1 []]) (.tup [.agg [.int .i64 0, .int .i64 0, .sl (some (H.length, 0)) 0 none], .int .i64 11]) (resT Tryz.results20) [.cells false 1 []] rfl [6] (by decide) ⟨by first | (rw [hfinP.1, hfinP.2.1, hfinP.2.2.1, hfinP.2.2.2]; done) | (rw [hfinP.1, hfinP.2.1, hfinP.2.2.1, hfinP.2.2.2]; rfl) | skip, by first | (rw [hfinP.2.1, hfinO]; done) | (rw [hfinP.2.1, hfinO]; rfl) | (rw [hfinP.2.1]; done) | (rw [hfinP.2.1]; rfl) | skip⟩ ?_)
          exact absW
        · have h19d := bsT h19
          have h19n := bnT h19
          have hne : ¬ gi (lfS W (allL W Hh l sc g) xs i) (((g2 (allL W Hh l sc g) i) * W) + (g1 (allL W Hh l sc g) i)).toNat = 2 := by simpa using h19d
          have g'14 := (jn @h19 (jn @h19n (jn @int_bne (jn @int_beq (jn @ints_set1 (jn @List.length_set.{0} g'12))))))
          refine runTf g'14 ?_
          refine hJ0 _ _ ⟨k0 - 1, by omega, _, _, _, ⟨i + 1, by omega, hrem.trans ((lrnF_step hlt hA).trans (if_neg hne)), rfl, rfl⟩, Abs.byG hbel [] rfl [0, 1, 2, 3, 4] (by decide) ?_⟩
          exact absRf (jn @lfS.eq_2 @List.length_set.{0})
      · have h16d := bsT h16
        obtain rfl : i = (allL W Hh l sc g).length := by omega
        rw [List.drop_length] at hrem
        have g'15 := (jn @h16 (jn @h16d g'11))
        refine runTf g'15 ?_
        refine go_loop try_mixed (by kernel_rfl) (fun k F Hx => ∃ i : Nat, i + k = sc.length ∧ lnO W Hh xs l sc g = lrnW W Hh (echL l (sc.drop i) g) (lwS W Hh l sc g (lfS W (allL W Hh l sc g) xs (allL W Hh l sc g).length) i) ∧ F = [(1, .sl (some (bs, 0)) l.length cs), (3, .int .i64 g), (4, .ptr (some (H.length, 0))), (8, .ptr (some (H.length + 1, 0))), (10, .ptr (some (H.length + 3, 0))), (66, .sl (some (bq, 0)) sc.length cq), (67, .int .i64 ((sc.length : Nat) : Int)), (68, .int .i64 ((i : Nat) : Int))] ∧ Hx = H ++ [.cells true 0 [.int .i64 W, .int .i64 Hh, .sl (some (bpp, 0)) xs.length cpp], .cells true 0 [.int .i64 0, .int .i64 0, .sl none 0 (some 0)], .cells true 1 (ints .u8 (lwS W Hh l sc g (lfS W (allL W Hh l sc g) xs (allL W Hh l sc g).length) i)), .cells true 0 [.int .i64 W, .int .i64 Hh, .sl (some (H.length + 2, 0)) ((lwS W Hh l sc g (lfS W (allL W Hh l sc g) xs (allL W Hh l sc g).length) i).length) none]]) (sc.length) ?_ ?_
        · refine ⟨_, _, _, ⟨0, by omega, by unfold lnO; rw [if_pos htau, hrem]; rfl, rfl, rfl⟩, Abs.byG hbel [] rfl [0, 1, 2, 3] (by decide) ?_⟩
          exact absRf @lwS.eq_1
        · rintro k1 F Hx ⟨i, hm1, hrem2, rfl, rfl⟩ J1 hJ1
          refine runTf g'15 ?_
          refine cond_split (fun h20 => ?_) (fun h20 => ?_)
          · have h20d := bsT h20
            have hlt : i < sc.length := by omega
            have hbi := beaB_iff.1 (hsc2.2 _ (List.getElem_mem hlt))
            rw [← pr_eq hlt] at hbi
            have hwv := lwS_vld (W := W) (Hh := Hh) (l := l) (sc := sc) (g := g) (lfS_vld (W := W) (A := (allL W Hh l sc g)) hV (allL W Hh l sc g).length) i
            have hsl := susL_len (l := l) (m := g1 sc i) (r := g2 sc i) (g := g) hS
            have q21 := prs_load (l := sc) (j := i) (by omega)
            have g'16 := (jn @h20 (jn @h20d (jn @q21 g'15)))
            refine runTf g'16 ?_
            refine cond_split (fun h22 => ?_) (fun h22 => ?_)
            · have h22d := bsT h22
              have h22n := bnT h22
              have hr1 : g2 sc i = -1 := by simpa using h22d
              have hst := lwS_skip (W := W) (Hh := Hh) (l := l) (g := g) (o := (lfS W (allL W Hh l sc g) xs (allL W Hh l sc g).length)) hr1
              have hnx := lwS_next (W := W) (Hh := Hh) (l := l) (g := g) (o := (lfS W (allL W Hh l sc g) xs (allL W Hh l sc g).length)) hlt (.inl hr1)
              have g'17 := (jn @h22 (jn @h22n (jn @int_bne (jn @int_beq g'16))))
              refine runTf g'17 ?_
              refine hJ1 _ _ ⟨k1 - 1, by omega, _, _, _, ⟨i + 1, by omega, hrem2.trans hnx, rfl, rfl⟩, Abs.byG hbel [] rfl [0, 1, 2, 3] (by decide) ?_⟩
              exact absRf (jn @hst @List.length_set.{0})
            · have h22d := bsT h22
              have h22n := bnT h22
              have hr1 : ¬ g2 sc i = -1 := by simpa using h22d
              have g'18 := (jn @h22 (jn @h22n (jn @int_bne (jn @int_beq g'16))))
              refine runTf g'18 ?_
              refine call_v (by kernel_rfl) (ksus2_c _ _ l (g1 sc i) (g2 sc i) g ⟨_, _, _, rfl, by first | exact hb0s _ | exact hbs⟩ hS (by omega) (by omega)) ?_
              refine runTf g'18 ?_
              refine call_v (by kernel_rfl) (del_cell _ _ _ (susL l (g1 sc i) (g2 sc i) g) (by rw [get_newk]; rfl) (Nat.le_trans (susL_len hS) (by decide)) _ [.ptr (some (H.length + 3, 0))] (by kernel_rfl) (by simp [AV.bels, AV.bel]) (frP W Hh (lwS W Hh l sc g (lfS W (allL W Hh l sc g) xs (allL W Hh l sc g).length) i)) (fun X e L he => learn1_c _ e.1 e.2 W Hh (.sl (some (H.length + 2, 0)) (lwS W Hh l sc g (lfS W (allL W Hh l sc g) xs (allL W Hh l sc g).length) i).length none) (lwS W Hh l sc g (lfS W (allL W Hh l sc g) xs (allL W Hh l sc g).length) i) _ ⟨_, _, _, rfl, by rw [set_newk, List.append_assoc, get_newk]; rfl⟩ ⟨_, by rw [set_newk, List.append_assoc, get_newk]; rfl⟩ (lwS_vld (lfS_vld hV _) _))) ?_
              refine runTf g'18 ?_
              refine cond_split (fun h23 => ?_) (fun h23 => ?_)
              · have h23d := bsT h23
                have h23n := bnT h23
                have hd0 : (delL (frP W Hh (lwS W Hh l sc g (lfS W (allL W Hh l sc g) xs (allL W Hh l sc g).length) i)) (susL l (g1 sc i) (g2 sc i) g)).length = 0 := by have q := h23d; omega
                have hfinP := ln_11 hR (hrem2.trans (lwS_bad hlt hr1 hd0))
                have g'19 := (jn @h23 (jn @h23n g'18))
                refine runTf g'19 ?_
                refine hQ _ _ (end_byG (.inl rfl) hbel (x1 := .tup [.agg [.int .i64 0, .int .i64 0, .sl none 0 (some 0)], .int .i64 11]) (l2 := [.cells false 1 []]) (.tup [.agg [.int .i64 0, .int .i64 0, .sl (some (H.length, 0)) 0 none], .int .i64 11]) (resT Tryz.results20) [.cells false 1 []] rfl [6] (by decide) ⟨by first | (rw [hfinP.1, hfinP.2.1, hfinP.2.2.1, hfinP.2.2.2]; done) | (rw [hfinP.1, hfinP.2.1, hfinP.2.2.1, hfinP.2.2.2]; rfl) | skip, by first | (rw [hfinP.2.1, hfinO]; done) | (rw [hfinP.2.1, hfinO]; rfl) | (rw [hfinP.2.1]; done) | (rw [hfinP.2.1]; rfl) | skip⟩ ?_)
                exact absW
              · have h23d := bsT h23
                have h23n := bnT h23
                have hd0 : ¬ (delL (frP W Hh (lwS W Hh l sc g (lfS W (allL W Hh l sc g) xs (allL W Hh l sc g).length) i)) (susL l (g1 sc i) (g2 sc i) g)).length = 0 := by have q := h23d; first | omega | (rw [beq_eq_false_iff_ne] at q; omega)
                have hp1 : g1 (padL (susL l (g1 sc i) (g2 sc i) g).length (delL (frP W Hh (lwS W Hh l sc g (lfS W (allL W Hh l sc g) xs (allL W Hh l sc g).length) i)) (susL l (g1 sc i) (g2 sc i) g))) 0 = g1 (delL (frP W Hh (lwS W Hh l sc g (lfS W (allL W Hh l sc g) xs (allL W Hh l sc g).length) i)) (susL l (g1 sc i) (g2 sc i) g)) 0 := pad_g1 hd0
                have hp2 : g2 (padL (susL l (g1 sc i) (g2 sc i) g).length (delL (frP W Hh (lwS W Hh l sc g (lfS W (allL W Hh l sc g) xs (allL W Hh l sc g).length) i)) (susL l (g1 sc i) (g2 sc i) g))) 0 = g2 (delL (frP W Hh (lwS W Hh l sc g (lfS W (allL W Hh l sc g) xs (allL W Hh l sc g).length) i)) (susL l (g1 sc i) (g2 sc i) g)) 0 := pad_g2 hd0
                have hsfp := pad_len (p := frP W Hh (lwS W Hh l sc g (lfS W (allL W Hh l sc g) xs (allL W Hh l sc g).length) i)) (l := (susL l (g1 sc i) (g2 sc i) g))
                have hpn := delL_le (p := frP W Hh (lwS W Hh l sc g (lfS W (allL W Hh l sc g) xs (allL W Hh l sc g).length) i)) (l := (susL l (g1 sc i) (g2 sc i) g))
                have hnx := lwS_next (W := W) (Hh := Hh) (l := l) (g := g) (o := (lfS W (allL W Hh l sc g) xs (allL W Hh l sc g).length)) hlt (.inr hd0)
                have q24 := (show List.take 2 (prs (padL (susL l (g1 sc i) (g2 sc i) g).length (delL (frP W Hh (lwS W Hh l sc g (lfS W (allL W Hh l sc g) xs (allL W Hh l sc g).length) i)) (susL l (g1 sc i) (g2 sc i) g)))) = [.int .i64 (g1 (padL (susL l (g1 sc i) (g2 sc i) g).length (delL (frP W Hh (lwS W Hh l sc g (lfS W (allL W Hh l sc g) xs (allL W Hh l sc g).length) i)) (susL l (g1 sc i) (g2 sc i) g))) 0), .int .i64 (g2 (padL (susL l (g1 sc i) (g2 sc i) g).length (delL (frP W Hh (lwS W Hh l sc g (lfS W (allL W Hh l sc g) xs (allL W Hh l sc g).length) i)) (susL l (g1 sc i) (g2 sc i) g))) 0)] from by have q := prs_load (l := padL (susL l (g1 sc i) (g2 sc i) g).length (delL (frP W Hh (lwS W Hh l sc g (lfS W (allL W Hh l sc g) xs (allL W Hh l sc g).length) i)) (susL l (g1 sc i) (g2 sc i) g))) (j := 0) (by omega); rwa [Nat.zero_mul, List.drop_zero] at q)
                have g'20 := (jn @h23 (jn @h23n (jn @hsfp (jn @q24 g'18))))
                refine runTf g'20 ?_
                refine gd_split (fun h25 => ?_) (fun h25 => ?_)
                · have h25d := bsT h25
                  have h25n := bnT h25
                  have hd1 : (delL (frP W Hh (lwS W Hh l sc g (lfS W (allL W Hh l sc g) xs (allL W Hh l sc g).length) i)) (susL l (g1 sc i) (g2 sc i) g)).length = 1 := by have q := h25d; omega
                  have g'21 := (jn @h25 (jn @h25n g'20))
                  refine runTf g'21 ?_
                  refine call_v (by kernel_rfl) (kwithin_c _ (g1 (padL (susL l (g1 sc i) (g2 sc i) g).length (delL (frP W Hh (lwS W Hh l sc g (lfS W (allL W Hh l sc g) xs (allL W Hh l sc g).length) i)) (susL l (g1 sc i) (g2 sc i) g))) 0) 0 (W - 1)) ?_
                  refine runTf g'21 ?_
                  refine gd_split (fun h26 => ?_) (fun h26 => ?_)
                  · have h26d := bsT h26
                    have hd2 := h26d
                    rw [hp1] at hd2
                    have g'22 := (jn @h26 (jn @h26d g'21))
                    refine runTf g'22 ?_
                    refine call_v (by kernel_rfl) (kwithin_c _ (g2 (padL (susL l (g1 sc i) (g2 sc i) g).length (delL (frP W Hh (lwS W Hh l sc g (lfS W (allL W Hh l sc g) xs (allL W Hh l sc g).length) i)) (susL l (g1 sc i) (g2 sc i) g))) 0) 0 (Hh - 1)) ?_
                    refine runTf g'22 ?_
                    refine cond_split (fun h27 => ?_) (fun h27 => ?_)
                    · have h27d := bsT h27
                      have hd3 := h27d
                      rw [hp2] at hd3
                      have hst := lwS_set (W := W) (Hh := Hh) (l := l) (g := g) (o := (lfS W (allL W Hh l sc g) xs (allL W Hh l sc g).length)) hr1 ⟨hd1, hd2, hd3⟩
                      rw [← hp1, ← hp2] at hst
                      obtain ⟨j1, j2, j3, j4, j5, -⟩ := (vld_iff.1 hwv).idx (x := g1 (padL (susL l (g1 sc i) (g2 sc i) g).length (delL (frP W Hh (lwS W Hh l sc g (lfS W (allL W Hh l sc g) xs (allL W Hh l sc g).length) i)) (susL l (g1 sc i) (g2 sc i) g))) 0) (y := g2 (padL (susL l (g1 sc i) (g2 sc i) g).length (delL (frP W Hh (lwS W Hh l sc g (lfS W (allL W Hh l sc g) xs (allL W Hh l sc g).length) i)) (susL l (g1 sc i) (g2 sc i) g))) 0) (inB_iff.2 (by rw [hp1, hp2]; have := btw_iff.1 hd2; have := btw_iff.1 hd3; omega))
                      have g'23 := (jn @h27 (jn @h27d (jn @ints_set1 (jn @List.length_set.{0} g'22))))
                      refine runTf g'23 ?_
                      refine hJ1 _ _ ⟨k1 - 1, by omega, _, _, _, ⟨i + 1, by omega, hrem2.trans hnx, rfl, rfl⟩, Abs.byG hbel [] rfl [0, 1, 2, 3] (by decide) ?_⟩
                      exact absRf (jn @hst @List.length_set.{0})
                    · have h27d := bsT h27
                      have hd3 := h27d
                      rw [hp2] at hd3
                      have hst := lwS_same (W := W) (Hh := Hh) (l := l) (g := g) (o := (lfS W (allL W Hh l sc g) xs (allL W Hh l sc g).length)) hr1 (fun q => by rw [hd3] at q; exact absurd q.2.2 (by decide))
                      have g'24 := (jn @h27 (jn @h27d g'22))
                      refine runTf g'24 ?_
                      refine hJ1 _ _ ⟨k1 - 1, by omega, _, _, _, ⟨i + 1, by omega, hrem2.trans hnx, rfl, rfl⟩, Abs.byG hbel [] rfl [0, 1, 2, 3] (by decide) ?_⟩
                      exact absRf (jn @hst @List.length_set.{0})
                  · have h26d := bsT h26
                    have hd2 := h26d
                    rw [hp1] at hd2
                    have hst := lwS_same (W := W) (Hh := Hh) (l := l) (g := g) (o := (lfS W (allL W Hh l sc g) xs (allL W Hh l sc g).length)) hr1 (fun q => by rw [hd2] at q; exact absurd q.2.1 (by decide))
                    have g'25 := (jn @h26 (jn @h26d g'21))
                    refine runTf g'25 ?_
                    refine hJ1 _ _ ⟨k1 - 1, by omega, _, _, _, ⟨i + 1, by omega, hrem2.trans hnx, rfl, rfl⟩, Abs.byG hbel [] rfl [0, 1, 2, 3] (by decide) ?_⟩
                    exact absRf (jn @hst @List.length_set.{0})
                · have h25d := bsT h25
                  have h25n := bnT h25
                  have hd1 : ¬ (delL (frP W Hh (lwS W Hh l sc g (lfS W (allL W Hh l sc g) xs (allL W Hh l sc g).length) i)) (susL l (g1 sc i) (g2 sc i) g)).length = 1 := by have q := h25d; first | omega | (rw [beq_eq_false_iff_ne] at q; omega)
                  have hst := lwS_same (W := W) (Hh := Hh) (l := l) (g := g) (o := (lfS W (allL W Hh l sc g) xs (allL W Hh l sc g).length)) hr1 (fun q => hd1 q.1)
                  have g'26 := (jn @h25 (jn @h25n g'20))
                  refine runTf g'26 ?_
                  refine hJ1 _ _ ⟨k1 - 1, by omega, _, _, _, ⟨i + 1, by omega, hrem2.trans hnx, rfl, rfl⟩, Abs.byG hbel [] rfl [0, 1, 2, 3] (by decide) ?_⟩
                  exact absRf (jn @hst @List.length_set.{0})
          · have h20d := bsT h20
            obtain rfl : i = sc.length := by omega
            rw [List.drop_length] at hrem2
            have hfinP := ln_0 hR hrem2
            have hfinO : ownG (lwS W Hh l sc g (lfS W (allL W Hh l sc g) xs (allL W Hh l sc g).length) sc.length).length = true := ownG_p (by have := vld_pos (lwS_vld (W := W) (Hh := Hh) (l := l) (sc := sc) (g := g) (lfS_vld (W := W) (A := (allL W Hh l sc g)) hV (allL W Hh l sc g).length) sc.length); omega)
            have g'27 := (jn @h20 (jn @h20d g'15))
            refine runTf g'27 ?_
            refine hQ _ _ (end_byG (.inl rfl) hbel (x1 := .tup [.agg [.int .i64 W, .int .i64 Hh, .sl (some (H.length + 2, 0)) ((lwS W Hh l sc g (lfS W (allL W Hh l sc g) xs (allL W Hh l sc g).length) sc.length).length) none], .int .i64 0]) (l2 := [.cells true 1 (ints .u8 (lwS W Hh l sc g (lfS W (allL W Hh l sc g) xs (allL W Hh l sc g).length) sc.length))]) (.tup [.agg [.int .i64 W, .int .i64 Hh, .sl (some (H.length, 0)) ((lwS W Hh l sc g (lfS W (allL W Hh l sc g) xs (allL W Hh l sc g).length) sc.length).length) none], .int .i64 0]) (resT Tryz.results20) [] rfl [2] (by decide) ⟨by first | (rw [hfinP.1, hfinP.2.1, hfinP.2.2.1, hfinP.2.2.2]; done) | (rw [hfinP.1, hfinP.2.1, hfinP.2.2.1, hfinP.2.2.2]; rfl) | skip, by first | (rw [hfinP.2.1, hfinO]; done) | (rw [hfinP.2.1, hfinO]; rfl) | (rw [hfinP.2.1]; done) | (rw [hfinP.2.1]; rfl) | skip⟩ ?_)
            exact absW
open Go.RowKit
theorem kright0_c (H : AHeap) (W : Int) (Hh : Int) (pp : AV) (xs : List Int)   (g : Int) (hpp : Sl H 1 pp xs.length (ints .u8 xs)) : ACalls Tryz.prog 78 [.agg [.int .i64 W, .int .i64 Hh, pp], .sl none 0 (some 0), .sl none 0 (some 0), .int .i64 g] H (fun v H' => v = .bool false ∧ H' = H) := by
  obtain ⟨bpp, opp, cpp, rfl, hbpp⟩ := hpp
  have hblpp := getElem?_lt hbpp
  have hb0pp := fun l => get_app (l := l) hbpp
  refine AcT true Tryz.func78 ?_; intro hbel Q hQ
  have g'1 := (jn @hbpp @hb0pp)
  refine runTf g'1 ?_
  refine call_v (by kernel_rfl) (valid_a _ W Hh _ xs (.inr ⟨_, _, _, rfl, by first | exact hb0pp _ | exact hbpp⟩)) ?_
  refine runTf g'1 ?_
  refine gd_split (fun h1 => ?_) (fun h1 => ?_)
  · have h1d := bsT h1
    have g'2 := (jn @h1 (jn @h1d g'1))
    refine runTf g'2 ?_
    exact hQ _ _ (end_plain (.inl rfl) hbel (x := .bool false) (resT Tryz.results78) rfl ⟨rfl, rfl⟩)
  · have h1d := bsT h1
    have g'3 := (jn @h1 (jn @h1d g'1))
    refine runTf g'3 ?_
    exact hQ _ _ (end_plain (.inl rfl) hbel (x := .bool false) (resT Tryz.results78) rfl ⟨rfl, rfl⟩)
theorem learn0_c (H : AHeap) (W : Int) (Hh : Int) (pp : AV) (xs : List Int)   (g : Int) (hpp : Sl H 1 pp xs.length (ints .u8 xs)) : ACalls Tryz.prog 20 [.agg [.int .i64 W, .int .i64 Hh, pp], .sl none 0 (some 0), .sl none 0 (some 0), .int .i64 g] H (fun v H' => v = .tup [.agg [.int .i64 0, .int .i64 0, .sl none 0 (some 0)], .int .i64 1] ∧ H' = H) := by
  obtain ⟨bpp, opp, cpp, rfl, hbpp⟩ := hpp
  have hblpp := getElem?_lt hbpp
  have hb0pp := fun l => get_app (l := l) hbpp
  (refine ACalls_pieces Tryz.func20 _ rfl (Nat.le_of_ble_eq_true (by kernel_rfl)) rfl ?_; intro hbel Q hQ hQ' c hc; unfold Tryz.f20 at hc; simp only [Option.some.injEq] at hc; subst hc; clear hQ')
  refine AW_seqQ fun Q1 hn1 hr1 he1 => ?_
  have hQ1 := fun F H' h => hr1 F H' (hQ F H' h)
  refine AW_fin true try_mixed (by kernel_rfl) ?_
  have g'4 := (jn @hbpp @hb0pp)
  refine runTf g'4 ?_
  refine hn1 _ _ ?_
  refine AW_seqQ fun Q2 hn2 hr2 he2 => ?_
  have hQ2 := fun F H' h => hr2 F H' (hQ F H' h)
  refine AW_fin true try_mixed (by kernel_rfl) ?_
  refine runTf g'4 ?_
  refine call_v (by kernel_rfl) (kright0_c _ W Hh _ xs g ⟨_, _, _, rfl, by first | exact hb0pp _ | exact hbpp⟩) ?_
  refine runTf g'4 ?_
  exact hQ2 _ _ (end_plain (.inl rfl) hbel (x := .tup [.agg [.int .i64 0, .int .i64 0, .sl none 0 (some 0)], .int .i64 1]) (resT Tryz.results20) rfl ⟨rfl, rfl⟩)
open Go.RowKit
theorem allL_le {W Hh : Int} {l : List T6} {sc : List (Int × Int)} {g : Int} (h : scnB sc = true) : (allL W Hh l sc g).length ≤ 231200 := by
  have := allL_len (W := W) (Hh := Hh) (l := l) (sc := sc) (g := g)
  have := (scnB_iff.1 h).1
  omega
theorem susL_le {l : List T6} {m r g : Int} (hS : setB l = true) : (susL l m r g).length ≤ 231200 := by
  have h1 := swS_len (dirA l m) r g (dirA l m).length
  have h3 : (rowU l m r g).length ≤ 231200 := by
    unfold rowU; split
    · simp
    · rename_i h
      have ht : tauB l = true := by
        rw [Bool.or_eq_true, not_or] at h
        simpa using h.2
      have := dirA_tau hS ht m
      omega
  unfold susL
  have := cpt_len (srtC (rowU l m r g)); rw [srtC_len] at this; omega
theorem pvL_le {W Hh : Int} {xs : List Int} {l : List T6} {sc : List (Int × Int)} {g : Int} : (pvL W Hh xs l sc g).length ≤ 1000000 := by
  unfold pvL; split
  · rename_i h; have := allL_le (W := W) (Hh := Hh) (l := l) (g := g) (rgtA_iff.1 h).2.2.2.1; omega
  · simp
theorem ssL_le {W Hh : Int} {xs : List Int} {l : List T6} {m r g : Int} : (ssL W Hh xs l m r g).length ≤ 1000000 := by
  unfold ssL; split
  · rename_i h; have := susL_le (m := m) (r := r) (g := g) (rgtA_iff.1 h).2.2.1; omega
  · simp
/-- What the document's example gives. -/
theorem all_put {W Hh : Int} {l : List T6} {sc : List (Int × Int)} {g : Int} : allL W Hh l sc g = (rowA W Hh l sc g).foldl (fun o c => putK c o) [] := cpt_put (srtC_sorted _) fun _ => (srtC_perm _).mem_iff
theorem sus_put {l : List T6} {m r g : Int} : susL l m r g = (rowU l m r g).foldl (fun o c => putK c o) [] := cpt_put (srtC_sorted _) fun _ => (srtC_perm _).mem_iff
theorem aw_all : allL 4 1 [(32, 32, 40, 32, 0, 1)] [(0, 160)] 4 = [(0, 0), (1, 0), (2, 0)] := by rw [all_put]; decide +kernel
theorem aw_sus : susL [(32, 32, 40, 32, 0, 1)] 0 160 4 = [(2, 0), (3, 0)] := by rw [sus_put]; decide +kernel
theorem aw_rgt : rgtA 4 1 (List.replicate 4 0) [(32, 32, 40, 32, 0, 1)] [(0, 160)] 4 = true := by decide +kernel
theorem aw_tau : tauB [(32, 32, 40, 32, 0, 1)] = true := by decide +kernel
theorem aw_ln : lnO 4 1 (List.replicate 4 0) [(32, 32, 40, 32, 0, 1)] [(0, 160)] 4 = some [1, 1, 1, 2] := by
  unfold lnO echL
  rw [if_pos aw_tau, aw_all]
  show Option.bind _ (lrnW 4 1 [susL [(32, 32, 40, 32, 0, 1)] 0 160 4]) = _
  rw [aw_sus]; decide +kernel
open Go.RowKit
theorem g12_eq {l m : List (Int × Int)} {j : Nat} (hj : j < l.length) (hm : j < m.length) (h1 : g1 l j = g1 m j) (h2 : g2 l j = g2 m j) : l[j] = m[j] := by
  rw [← pr_eq hj, ← pr_eq hm, h1, h2]
theorem eq_of_all {l m : List (Int × Int)} (hl : l.length = m.length) (h : ∀ j : Nat, j < l.length → g1 l j = g1 m j ∧ g2 l j = g2 m j) : l = m :=
  List.ext_getElem hl fun j a b => g12_eq a b (h j a).1 (h j a).2
theorem ne_of_some {l m : List (Int × Int)} {j : Nat} (h : ¬ (g1 l j = g1 m j ∧ g2 l j = g2 m j)) : decide (l = m) = false := decide_eq_false fun e => h (by rw [e]; exact ⟨rfl, rfl⟩)
theorem bcells_c (H : AHeap) (s : AV) (l : List (Int × Int)) (t : AV) (m : List (Int × Int)) (hs : Sl H 2 s l.length (prs l)) (ht : Sl H 2 t m.length (prs m)) (hl : l.length ≤ 1000000) (hm : m.length ≤ 1000000) : ACalls Tryz.prog 24 [s, t] H (fun v H' => v = .bool (decide (l = m)) ∧ H' = H) := by
  obtain ⟨bs, os, cs, rfl, hbs⟩ := hs
  have hbls := getElem?_lt hbs
  have hb0s := fun l => get_app (l := l) hbs
  obtain ⟨bt, ot, ct, rfl, hbt⟩ := ht
  have hblt := getElem?_lt hbt
  have hb0t := fun l => get_app (l := l) hbt
  refine AcT true Tryz.func24 ?_; intro hbel Q hQ
  have g'1 := (jn @hbs (jn @hb0s (jn @hbt @hb0t)))
  refine runTf g'1 ?_
  refine cond_split (fun h1 => ?_) (fun h1 => ?_)
  · have h1d := bsT h1
    have h1n := bnT h1
    have hfinR : decide (l = m) = false := decide_eq_false fun e => by first | exact h1d (by rw [e]) | simp [e] at h1d
    have g'2 := (jn @h1 (jn @h1n (jn @int_bne (jn @int_beq g'1))))
    refine runTf g'2 ?_
    exact hQ _ _ (end_plain0 (.inl rfl) hbel (x := .bool false) (resT Tryz.results24) rfl ⟨by rw [hfinR], rfl⟩)
  · have h1d := bsT h1
    have h1n := bnT h1
    have hlen : l.length = m.length := by first | omega | (simp at h1d; omega)
    have g'3 := (jn @h1 (jn @h1n (jn @int_bne (jn @int_beq g'1))))
    refine runTf g'3 ?_
    refine go_loop try_mixed (by kernel_rfl) (fun k F Hx => ∃ i : Nat, i + k = l.length ∧ (∀ j : Nat, j < i → g1 l j = g1 m j ∧ g2 l j = g2 m j) ∧ F = [(0, .sl (some (bs, 0)) l.length cs), (1, .sl (some (bt, 0)) m.length ct), (5, .int .i64 ((i : Nat) : Int))] ∧ H = Hx) (l.length) ?_ ?_
    · refine ⟨_, _, _, ⟨0, by omega, fun j h => by omega, rfl, rfl⟩, Abs.by0 hbel ?_⟩
      exact absW
    · rintro k0 F Hx ⟨i, hm0, hal, rfl, rfl⟩ J0 hJ0
      refine runTf g'3 ?_
      refine cond_split (fun h2 => ?_) (fun h2 => ?_)
      · have h2d := bsT h2
        have q3 := prs_load (l := l) (j := i) (by omega)
        have q4 := prs_load (l := m) (j := i) (by omega)
        have g'4 := (jn @h2 (jn @h2d (jn @q3 (jn @q4 g'3))))
        refine runTf g'4 ?_
        refine cond_split (fun h5 => ?_) (fun h5 => ?_)
        · have h5d := bsT h5
          have h5n := bnT h5
          have hfinR : decide (l = m) = false := ne_of_some (j := i) (by simpa using h5d)
          have g'5 := (jn @h5 (jn @h5n g'4))
          refine runTf g'5 ?_
          exact hQ _ _ (end_plain0 (.inl rfl) hbel (x := .bool false) (resT Tryz.results24) rfl ⟨by rw [hfinR], rfl⟩)
        · have h5d := bsT h5
          have h5n := bnT h5
          have hei : g1 l i = g1 m i ∧ g2 l i = g2 m i := by simpa using h5d
          have g'6 := (jn @h5 (jn @h5n g'4))
          refine runTf g'6 ?_
          refine hJ0 _ _ ⟨k0 - 1, by omega, _, _, _, ⟨i + 1, by omega, fun j hj => by
                      rcases Nat.lt_or_ge j i with h | h
                      · exact hal j h
                      · rw [show j = i by omega]; exact hei, rfl, rfl⟩, Abs.by0 hbel ?_⟩
          exact absW
      · have h2d := bsT h2
        have hfinR : decide (l = m) = true := decide_eq_true (eq_of_all hlen fun j hj => hal j (by omega))
        have g'7 := (jn @h2 (jn @h2d g'3))
        refine runTf g'7 ?_
        exact hQ _ _ (end_plain0 (.inl rfl) hbel (x := .bool true) (resT Tryz.results24) rfl ⟨by rw [hfinR], rfl⟩)
open Go.RowKit
theorem IsI.parts {H : AHeap} {k : IntKind} {s : AV} {l : List Int} (h : IsI H k s l) : ∃ a c, s = .sl a l.length c := by
  rcases h with ⟨rfl, rfl⟩ | ⟨b, own, cap, rfl, hb⟩
  · exact ⟨_, _, rfl⟩
  · exact ⟨_, _, rfl⟩
def bys (xs : List Int) : List UInt8 := xs.map fun n => UInt8.ofNat n.toNat
theorem bys_map : ∀ xs : List Int, (ints .u8 xs).mapM byteOf = some (bys xs)
  | [] => rfl
  | x :: xs => by
    have ih := bys_map xs
    show (AV.int .u8 x :: ints .u8 xs).mapM byteOf = _
    rw [List.mapM_cons, ih]
    rfl
theorem need_pos {p : Prop} [Decidable p] (h : p) : need p = some () := by unfold need; rw [if_pos h]
/-- A slice of bytes, as a text. -/
theorem conv_bytes {H : AHeap} {s : AV} {xs : List Int} (hs : IsI H .u8 s xs) : aConv Tryz.prog 22 9 s H = some (.str (bys xs)) := by
  have h1 := bys_map xs
  have key : ∀ a n c, aElems 1 (.sl a n c) H = some (n, ints .u8 xs) → aConv Tryz.prog 22 9 (.sl a n c) H = some (.str (bys xs)) := fun a n c he => by
    unfold aConv
    simp only [tElem22, Option.bind_some]
    rw [need_pos ⟨tInt5, by kernel_rfl⟩, Option.bind_some, he, Option.bind_some]
    simp only [h1, Option.map_some]
  rcases hs with ⟨rfl, rfl⟩ | ⟨b, own, cap, rfl, hb⟩
  · exact key none 0 (some 0) rfl
  · refine key _ _ _ ?_
    unfold aElems ards
    simp only [hb]
    rw [if_pos (by rw [ints_len]; omega), List.drop_zero, List.take_of_length_le (by rw [ints_len]; omega)]
    rfl
set_option maxRecDepth 100000 in
theorem plans_c (H : AHeap) (W Hh : Int) (xs : List Int) (s1 s2 : AV) (h1 : IsI H .u8 s1 xs) (h2 : IsI H .u8 s2 xs) : ACalls Tryz.prog 64 [.agg [.int .i64 W, .int .i64 Hh, s1], .agg [.int .i64 W, .int .i64 Hh, s2]] H (fun v H' => v = .bool true ∧ H' = H) := by
  have hc1 := fun l => conv_bytes (h1.app l)
  have hc2 := fun l => conv_bytes (h2.app l)
  obtain ⟨a1, c1, rfl⟩ := h1.parts
  obtain ⟨a2, c2, rfl⟩ := h2.parts
  refine AcT true Tryz.func64 ?_; intro hbel Q hQ
  simp -implicitDefEqProofs (disch := omega) only [hc1, hc2, simprocAttr, amset, tyset, Function.comp_apply, one1, lenV, calleeOf, lateOk, belowV, aop, AV.ofValue, AV.ofCell, AV.cells, AV.flat, AV.one, arep, aBin, aAppend]
  exact hQ _ _ (end_plain (.inl rfl) hbel (x := .bool true) (resT Tryz.results64) rfl ⟨rfl, rfl⟩)
/-- Plans that are the same. -/
theorem plans2_c (H : AHeap) (W Hh W2 Hh2 : Int) (xs ys : List Int) (s1 s2 : AV) (h1 : Sl H 1 s1 xs.length (ints .u8 xs)) (h2 : Sl H 1 s2 ys.length (ints .u8 ys)) (e1 : W = W2) (e2 : Hh = Hh2) (e3 : xs = ys) : ACalls Tryz.prog 64 [.agg [.int .i64 W, .int .i64 Hh, s1], .agg [.int .i64 W2, .int .i64 Hh2, s2]] H (fun v H' => v = .bool true ∧ H' = H) := by
  subst e1 e2 e3
  exact plans_c H W Hh xs s1 s2 (.inr h1) (.inr h2)
theorem awake_c (H : AHeap)  : ACalls Tryz.prog 15 [] H (fun v H' => v = .bool true ∧ H' = H) := by
  have apr : rgtA 4 1 (List.replicate 4 0) [(32, 32, 40, 32, 0, 1)] [(0, 160)] 4 = true := aw_rgt
  have ap := pv_t apr
  have asr : rgtA 4 1 (List.replicate 4 0) [(32, 32, 40, 32, 0, 1)] [(0, 160)] 4 = true := aw_rgt
  have asu := ss_t asr
  have aln := ln_0 apr aw_ln
  have hpvL : pvL 4 1 (List.replicate 4 0) [(32, 32, 40, 32, 0, 1)] [(0, 160)] 4 = [(0, 0), (1, 0), (2, 0)] := ap.2.1.trans aw_all
  have hssL : ssL 4 1 (List.replicate 4 0) [(32, 32, 40, 32, 0, 1)] 0 160 4 = [(2, 0), (3, 0)] := asu.2.1.trans aw_sus
  have heX := aln.2.1
  have heW := aln.2.2.1
  have heH := aln.2.2.2
  have hps : prsN [(32, 32, 40, 32, 0, 1)] = 1 := by decide +kernel
  refine AcT true Tryz.func15 ?_; intro hbel Q hQ
  have g'1 := (jn @ints_rep @List.length_replicate.{0})
  refine runTf g'1 ?_
  refine call_v (by kernel_rfl) (kProven_c _ 4 1 _ (List.replicate 4 0) _ [(32, 32, 40, 32, 0, 1)] _ [(0, 160)] 4 ⟨_, _, _, by first | rfl | (rw [List.length_append]; done) | (rw [List.length_append]; rfl), by first | rfl | (rw [get_newk]; rfl) | (rw [get_new0]; rfl) | (rw [get_newk, prs_append]; rfl) | (rw [get_new0, prs_append]; rfl)⟩ ⟨_, _, _, by first | rfl | (rw [List.length_append]; done) | (rw [List.length_append]; rfl), by first | rfl | (rw [get_newk]; rfl) | (rw [get_new0]; rfl) | (rw [get_newk, prs_append]; rfl) | (rw [get_new0, prs_append]; rfl)⟩ ⟨_, _, _, by first | rfl | (rw [List.length_append]; done) | (rw [List.length_append]; rfl), by first | rfl | (rw [get_newk]; rfl) | (rw [get_new0]; rfl) | (rw [get_newk, prs_append]; rfl) | (rw [get_new0, prs_append]; rfl)⟩ (by first | omega | simp) (by first | omega | simp)) ?_
  refine runTf g'1 ?_
  refine call_v (by kernel_rfl) (kSuspects_c _ 4 1 _ (List.replicate 4 0) _ [(32, 32, 40, 32, 0, 1)] 0 160 4 ⟨_, _, _, by first | rfl | (rw [List.length_append]; done) | (rw [List.length_append]; rfl), by first | rfl | (rw [get_newk]; rfl) | (rw [get_new0]; rfl) | (rw [get_newk, prs_append]; rfl) | (rw [get_new0, prs_append]; rfl)⟩ ⟨_, _, _, by first | rfl | (rw [List.length_append]; done) | (rw [List.length_append]; rfl), by first | rfl | (rw [get_newk]; rfl) | (rw [get_new0]; rfl) | (rw [get_newk, prs_append]; rfl) | (rw [get_new0, prs_append]; rfl)⟩ (by first | omega | simp)) ?_
  refine runTf g'1 ?_
  refine call_v (by kernel_rfl) (learn_c _ 4 1 _ (List.replicate 4 0) _ [(32, 32, 40, 32, 0, 1)] _ [(0, 160)] 4 ⟨_, _, _, by first | rfl | (rw [List.length_append]; done) | (rw [List.length_append]; rfl), by first | rfl | (rw [get_newk]; rfl) | (rw [get_new0]; rfl) | (rw [get_newk, prs_append]; rfl) | (rw [get_new0, prs_append]; rfl)⟩ ⟨_, _, _, by first | rfl | (rw [List.length_append]; done) | (rw [List.length_append]; rfl), by first | rfl | (rw [get_newk]; rfl) | (rw [get_new0]; rfl) | (rw [get_newk, prs_append]; rfl) | (rw [get_new0, prs_append]; rfl)⟩ ⟨_, _, _, by first | rfl | (rw [List.length_append]; done) | (rw [List.length_append]; rfl), by first | rfl | (rw [get_newk]; rfl) | (rw [get_new0]; rfl) | (rw [get_newk, prs_append]; rfl) | (rw [get_new0, prs_append]; rfl)⟩ (by first | omega | simp) (by first | omega | simp)) ?_
  refine runTf g'1 ?_
  refine call_v (by kernel_rfl) (learn0_c _ 4 1 _ (List.replicate 4 0) 4 ⟨_, _, _, by first | rfl | (rw [List.length_append]; done) | (rw [List.length_append]; rfl), by first | rfl | (rw [get_newk]; rfl) | (rw [get_new0]; rfl) | (rw [get_newk, prs_append]; rfl) | (rw [get_new0, prs_append]; rfl)⟩) ?_
  refine runTf g'1 ?_
  refine call_v (by kernel_rfl) (bcells_c _ _ (pvL 4 1 (List.replicate 4 0) [(32, 32, 40, 32, 0, 1)] [(0, 160)] 4) _ ([(0, 0), (1, 0), (2, 0)]) ⟨_, _, _, by first | rfl | (rw [List.length_append]; done) | (rw [List.length_append]; rfl), by first | rfl | (rw [get_newk]; rfl) | (rw [get_new0]; rfl) | (rw [get_newk, prs_append]; rfl) | (rw [get_new0, prs_append]; rfl)⟩ ⟨_, _, _, by first | rfl | (rw [List.length_append]; done) | (rw [List.length_append]; rfl), by first | rfl | (rw [get_newk]; rfl) | (rw [get_new0]; rfl) | (rw [get_newk, prs_append]; rfl) | (rw [get_new0, prs_append]; rfl)⟩ (by first | exact pvL_le | exact ssL_le | simp | omega) (by first | exact pvL_le | exact ssL_le | simp | omega)) ?_
  refine runTf g'1 ?_
  refine gd_split (fun h1 => ?_) (fun h1 => ?_)
  · have h1d := bsT h1
    have g'2 := (jn @h1 (jn @h1d g'1))
    refine runTf g'2 ?_
    refine gd_split (fun h2 => ?_) (fun h2 => ?_)
    · have h2d := bsT h2
      have h2n := bnT h2
      have g'3 := (jn @h2 (jn @h2n (jn @int_bne (jn @int_beq g'2))))
      refine runTf g'3 ?_
      refine call_v (by kernel_rfl) (bcells_c _ _ (ssL 4 1 (List.replicate 4 0) [(32, 32, 40, 32, 0, 1)] 0 160 4) _ ([(2, 0), (3, 0)]) ⟨_, _, _, by first | rfl | (rw [List.length_append]; done) | (rw [List.length_append]; rfl), by first | rfl | (rw [get_newk]; rfl) | (rw [get_new0]; rfl) | (rw [get_newk, prs_append]; rfl) | (rw [get_new0, prs_append]; rfl)⟩ ⟨_, _, _, by first | rfl | (rw [List.length_append]; done) | (rw [List.length_append]; rfl), by first | rfl | (rw [get_newk]; rfl) | (rw [get_new0]; rfl) | (rw [get_newk, prs_append]; rfl) | (rw [get_new0, prs_append]; rfl)⟩ (by first | exact pvL_le | exact ssL_le | simp | omega) (by first | exact pvL_le | exact ssL_le | simp | omega)) ?_
      refine runTf g'3 ?_
      refine gd_split (fun h3 => ?_) (fun h3 => ?_)
      · have h3d := bsT h3
        have g'4 := (jn @h3 (jn @h3d g'3))
        refine runTf g'4 ?_
        refine gd_split (fun h4 => ?_) (fun h4 => ?_)
        · have h4d := bsT h4
          have h4n := bnT h4
          have g'5 := (jn @h4 (jn @h4n g'4))
          refine runTf g'5 ?_
          refine call_v (by kernel_rfl) (plans2_c _ (lnZ 4 1 (List.replicate 4 0) [(32, 32, 40, 32, 0, 1)] [(0, 160)] 4 4) (lnZ 4 1 (List.replicate 4 0) [(32, 32, 40, 32, 0, 1)] [(0, 160)] 4 1) 4 1 (lnX 4 1 (List.replicate 4 0) [(32, 32, 40, 32, 0, 1)] [(0, 160)] 4) [1, 1, 1, 2] _ _ ⟨_, _, _, by first | rfl | (rw [List.length_append]; done) | (rw [List.length_append]; rfl), by first | rfl | (rw [get_newk]; rfl) | (rw [get_new0]; rfl) | (rw [get_newk, prs_append]; rfl) | (rw [get_new0, prs_append]; rfl)⟩ ⟨_, _, _, by first | rfl | (rw [List.length_append]; done) | (rw [List.length_append]; rfl), by first | rfl | (rw [get_newk]; rfl) | (rw [get_new0]; rfl) | (rw [get_newk, prs_append]; rfl) | (rw [get_new0, prs_append]; rfl)⟩ heW heH heX) ?_
          refine runTf g'5 ?_
          refine gd_split (fun h5 => ?_) (fun h5 => ?_)
          · have h5d := bsT h5
            have h5n := bnT h5
            have g'6 := (jn @h5 (jn @h5n g'5))
            refine runTf g'6 ?_
            refine call_v (by kernel_rfl) (kPairs_c _ _ [(32, 32, 40, 32, 0, 1)] ⟨_, _, _, by first | rfl | (rw [List.length_append]; done) | (rw [List.length_append]; rfl), by first | rfl | (rw [get_newk]; rfl) | (rw [get_new0]; rfl) | (rw [get_newk, prs_append]; rfl) | (rw [get_new0, prs_append]; rfl)⟩ (by first | omega | simp)) ?_
            refine runTf g'6 ?_
            refine gd_split (fun h6 => ?_) (fun h6 => ?_)
            · have h6d := bsT h6
              have h6n := bnT h6
              have g'7 := (jn @h6 (jn @h6n g'6))
              refine runTf g'7 ?_
              exact hQ _ _ (end_plain (.inl rfl) hbel (x := .bool true) (resT Tryz.results15) rfl ⟨rfl, rfl⟩)
            · have h6d := bsT h6
              have h6n := bnT h6
              first | exact absurd hps h6d | (rw [hps] at h6d; exact absurd h6d (by decide)) | (simp [hps] at h6d)
          · have h5d := bsT h5
            have h5n := bnT h5
            first | exact absurd aln.1 h5d | (rw [aln.1] at h5d; exact absurd h5d (by decide)) | (simp [aln.1] at h5d)
        · have h4d := bsT h4
          have h4n := bnT h4
          first | exact absurd asu.1 h4d | (rw [asu.1] at h4d; exact absurd h4d (by decide)) | (simp [asu.1] at h4d)
      · have h3d := bsT h3
        first | exact absurd hssL h3d | (rw [hssL] at h3d; exact absurd h3d (by decide)) | (simp [hssL] at h3d)
    · have h2d := bsT h2
      have h2n := bnT h2
      first | exact absurd ap.1 h2d | (rw [ap.1] at h2d; exact absurd h2d (by decide)) | (simp [ap.1] at h2d)
  · have h1d := bsT h1
    first | exact absurd hpvL h1d | (rw [hpvL] at h1d; exact absurd h1d (by decide)) | (simp [hpvL] at h1d)
open Go.RowKit
section
variable {W Hh : Int} {xs : List Int} {sc : List (Int × Int)}
end
set_option linter.unusedSimpArgs false
set_option linter.unusedVariables false
open Go.RowKit
def fewK (xs : List Int) (l : List T6) (sc : List (Int × Int)) : Bool := decide (((xs.length : Nat) : Int) ≤ 400) && (decide (((l.length : Nat) : Int) ≤ 20) && (decide (((sc.length : Nat) : Int) ≤ 40) && (!(setB l) || (!(tauB l) || decide (prsN l * ((sc.length : Nat) : Int) ≤ 60)))))
theorem fewK_len {xs : List Int} {l : List T6} {sc : List (Int × Int)} (h : fewK xs l sc = true) : xs.length ≤ 400 ∧ l.length ≤ 20 ∧ sc.length ≤ 40 := by
  unfold fewK at h
  simp only [Bool.and_eq_true, decide_eq_true_eq] at h
  omega
theorem prsN_bd {l : List T6} (h : setB l = true) : 0 ≤ prsN l ∧ prsN l ≤ 4096 := by
  unfold prsN; rw [if_pos h]
  have := sumC_bd h l.length (Nat.le_refl _)
  have := setB_len h
  omega
/-- The reference's order of the two tests. -/
theorem tau_any {l : List T6} (h : l.any wdeB = true) : tauB l = false := by unfold tauB; rw [h]; simp
theorem tau_sum {l : List T6} (h : ∀ j : Nat, j < l.length → wdeB (g6 l j) = false) (hS : setB l = true) : tauB l = decide (prsN l ≤ 32) := by
  have e : l.any wdeB = false := List.any_eq_false.2 fun b hb => by
    obtain ⟨j, hj, e⟩ := List.mem_iff_getElem.1 hb
    rw [← e, ← g6_eq hj]
    intro hh
    have q : false = true := (h j hj).symm.trans hh
    cases q
  unfold tauB prsN
  rw [e, if_pos hS]; simp
theorem prs_end {l : List T6} {i : Nat} (h : i = l.length) (k : setB l = true ∨ i = 0) : sumC l i = prsN l := by
  unfold prsN
  by_cases hS : setB l = true
  · rw [if_pos hS, h]
  · rw [if_neg hS, k.resolve_left hS]; rfl
def inL (l : List (Int × Int)) (x y : Int) : Bool := decide ((x, y) ∈ l)
open Go.RowKit
set_option maxHeartbeats 4000000
set_option maxRecDepth 100000
theorem rpairs_c (H : AHeap) (s : AV) (l : List T6) (hs : Sl H 6 s l.length (r6 l)) (hl : l.length ≤ 1000000000) : ACalls Tryz.prog 88 [s] H (fun v H' => v = .int .i64 (prsN l) ∧ H' = H) := by
  obtain ⟨bs, os, cs, rfl, hbs⟩ := hs
  have hbls := getElem?_lt hbs
  have hb0s := fun l => get_app (l := l) hbs
  have hsb := fun (h : setB l = true) => sumC_bd h
  refine AcT true Tryz.func88 ?_; intro hbel Q hQ
  have g'1 := (jn @hbs @hb0s)
  refine runTf g'1 ?_
  refine go_loop try_mixed (by kernel_rfl) (fun k F Hx => ∃ i : Nat, i + k = l.length ∧ (setB l = true ∨ i = 0) ∧ F = [(0, .sl (some (bs, 0)) l.length cs), (3, .int .i64 (sumC l i)), (4, .int .i64 ((i : Nat) : Int))] ∧ H = Hx) (l.length) ?_ ?_
  · refine ⟨_, _, _, ⟨0, by omega, .inr rfl, rfl, rfl⟩, Abs.by0 hbel ?_⟩
    exact absWf @sumC.eq_1
  · rintro k0 F Hx ⟨i, hm0, hor, rfl, rfl⟩ J0 hJ0
    refine runTf g'1 ?_
    refine gd_split (fun h1 => ?_) (fun h1 => ?_)
    · have h1d := bsT h1
      have hlt : i < l.length := by omega
      have g'2 := (jn @h1 (jn @h1d g'1))
      refine runTf g'2 ?_
      refine call_v (by kernel_rfl) (bset_c _ _ l ⟨_, _, _, rfl, by first | exact hb0s _ | exact hbs⟩ (by omega)) ?_
      refine runTf g'2 ?_
      refine cond_split (fun h2 => ?_) (fun h2 => ?_)
      · have h2d := bsT h2
        have hSS := h2d
        have hb1 := sumC_bd hSS i (by omega)
        have hb2 := sumC_bd hSS (i + 1) (by omega)
        have hb3 := setB_len hSS
        have hb4 := g66_bd hSS (n := i) (by omega)
        have q3 := r6_at5 (l := l) (j := i) (by omega)
        have g'3 := (jn @h2 (jn @h2d (jn @r6_len (jn @q3 g'2))))
        refine runTf g'3 ?_
        refine hJ0 _ _ ⟨k0 - 1, by omega, _, _, _, ⟨i + 1, by omega, .inl hSS, rfl, rfl⟩, Abs.by0 hbel ?_⟩
        exact absWf @sumC.eq_2
      · have h2d := bsT h2
        have hSS := h2d
        have hi0 : i = 0 := by rcases hor with h | h; rw [h] at hSS; cases hSS; exact h
        have hfinS : sumC l i = prsN l := by unfold prsN; rw [if_neg (by rw [hSS]; decide), hi0]; rfl
        have g'4 := (jn @h2 (jn @h2d g'2))
        refine runTf g'4 ?_
        exact hQ _ _ (end_plain0 (.inl rfl) hbel (x := .int .i64 (sumC l i)) (resT Tryz.results88) rfl ⟨by rw [hfinS], rfl⟩)
    · have h1d := bsT h1
      have hie : i = l.length := by omega
      have hfinS : sumC l i = prsN l := prs_end hie hor
      have g'5 := (jn @h1 (jn @h1d g'1))
      refine runTf g'5 ?_
      exact hQ _ _ (end_plain0 (.inl rfl) hbel (x := .int .i64 (sumC l i)) (resT Tryz.results88) rfl ⟨by rw [hfinS], rfl⟩)
theorem rsmall_c (H : AHeap) (s : AV) (l : List T6) (hs : Sl H 6 s l.length (r6 l)) (hS : setB l = true) : ACalls Tryz.prog 87 [s] H (fun v H' => v = .bool (tauB l) ∧ H' = H) := by
  obtain ⟨bs, os, cs, rfl, hbs⟩ := hs
  have hbls := getElem?_lt hbs
  have hb0s := fun l => get_app (l := l) hbs
  have hl := setB_len hS
  refine AcT true Tryz.func87 ?_; intro hbel Q hQ
  have g'6 := (jn @hbs @hb0s)
  refine runTf g'6 ?_
  refine go_loop try_mixed (by kernel_rfl) (fun k F Hx => ∃ i : Nat, i + k = l.length ∧ (∀ j : Nat, j < i → wdeB (g6 l j) = false) ∧ F = [(0, .sl (some (bs, 0)) l.length cs), (3, .int .i64 ((i : Nat) : Int))] ∧ H = Hx) (l.length) ?_ ?_
  · refine ⟨_, _, _, ⟨0, by omega, fun j h => by omega, rfl, rfl⟩, Abs.by0 hbel ?_⟩
    exact absW
  · rintro k0 F Hx ⟨i, hm0, hal, rfl, rfl⟩ J0 hJ0
    refine runTf g'6 ?_
    refine cond_split (fun h1 => ?_) (fun h1 => ?_)
    · have h1d := bsT h1
      have hlt : i < l.length := by omega
      have hbb := bxB_iff.1 ((setB_iff.1 hS).2 _ (g6_mem hlt))
      have hbc : (-1048576 ≤ g61 l i ∧ g61 l i ≤ g63 l i ∧ g63 l i ≤ 1048576) ∧ (-1048576 ≤ g62 l i ∧ g62 l i ≤ g64 l i ∧ g64 l i ≤ 1048576) := ⟨hbb.1, hbb.2.1⟩
      have q2 := r6_at2 (l := l) (j := i) (by omega)
      have q3 := r6_at0 (l := l) (j := i) (by omega)
      have g'7 := (jn @h1 (jn @h1d (jn @r6_len (jn @q2 (jn @q3 g'6)))))
      refine runTf g'7 ?_
      refine gd_split (fun h4 => ?_) (fun h4 => ?_)
      · have h4d := bsT h4
        have hw1 := h4d
        have q5 := r6_at3 (l := l) (j := i) (by omega)
        have q6 := r6_at1 (l := l) (j := i) (by omega)
        have g'8 := (jn @h4 (jn @h4d (jn @q5 (jn @q6 g'7))))
        refine runTf g'8 ?_
        refine cond_split (fun h7 => ?_) (fun h7 => ?_)
        · have h7d := bsT h7
          have hfinS : tauB l = false := tau_any (List.any_eq_true.2 ⟨g6 l i, g6_mem hlt, by unfold wdeB; rw [Bool.or_eq_true, decide_eq_true_eq, decide_eq_true_eq]; exact .inr h7d⟩)
          have g'9 := (jn @h7 (jn @h7d g'8))
          refine runTf g'9 ?_
          exact hQ _ _ (end_plain0 (.inl rfl) hbel (x := .bool false) (resT Tryz.results87) rfl ⟨by first | (rw [hfinS]; done) | rw [hfinT], rfl⟩)
        · have h7d := bsT h7
          have hw2 : wdeB (g6 l i) = false := by unfold wdeB; rw [Bool.or_eq_false_iff, decide_eq_false_iff_not, decide_eq_false_iff_not]; exact ⟨hw1, h7d⟩
          have g'10 := (jn @h7 (jn @h7d g'8))
          refine runTf g'10 ?_
          refine hJ0 _ _ ⟨k0 - 1, by omega, _, _, _, ⟨i + 1, by omega, fun j hj => by
                      rcases Nat.lt_or_ge j i with h | h
                      · exact hal j h
                      · rw [show j = i by omega]; exact hw2, rfl, rfl⟩, Abs.by0 hbel ?_⟩
          exact absW
      · have h4d := bsT h4
        have hfinS : tauB l = false := tau_any (List.any_eq_true.2 ⟨g6 l i, g6_mem hlt, by unfold wdeB; rw [Bool.or_eq_true, decide_eq_true_eq, decide_eq_true_eq]; exact .inl h4d⟩)
        have g'11 := (jn @h4 (jn @h4d g'7))
        refine runTf g'11 ?_
        exact hQ _ _ (end_plain0 (.inl rfl) hbel (x := .bool false) (resT Tryz.results87) rfl ⟨by first | (rw [hfinS]; done) | rw [hfinT], rfl⟩)
    · have h1d := bsT h1
      obtain rfl : i = l.length := by omega
      have hfinT := tau_sum hal hS
      have g'12 := (jn @h1 (jn @h1d g'6))
      refine runTf g'12 ?_
      refine call_v (by kernel_rfl) (rpairs_c _ _ l ⟨_, _, _, rfl, by first | exact hb0s _ | exact hbs⟩ (by omega)) ?_
      refine runTf g'12 ?_
      exact hQ _ _ (end_plain0 (.inl rfl) hbel (x := .bool (decide ((prsN l) ≤ 32))) (resT Tryz.results87) rfl ⟨by first | (rw [hfinS]; done) | rw [hfinT], rfl⟩)
theorem rfew_c (H : AHeap) (W : Int) (Hh : Int) (pp : AV) (xs : List Int) (s : AV) (l : List T6) (q : AV) (sc : List (Int × Int)) (hpp : Sl H 1 pp xs.length (ints .u8 xs)) (hs : Sl H 6 s l.length (r6 l)) (hq : Sl H 2 q sc.length (prs sc)) : ACalls Tryz.prog 22 [.agg [.int .i64 W, .int .i64 Hh, pp], s, q] H (fun v H' => v = .bool (fewK xs l sc) ∧ H' = H) := by
  obtain ⟨bpp, opp, cpp, rfl, hbpp⟩ := hpp
  have hblpp := getElem?_lt hbpp
  have hb0pp := fun l => get_app (l := l) hbpp
  obtain ⟨bs, os, cs, rfl, hbs⟩ := hs
  have hbls := getElem?_lt hbs
  have hb0s := fun l => get_app (l := l) hbs
  obtain ⟨bq, oq, cq, rfl, hbq⟩ := hq
  have hblq := getElem?_lt hbq
  have hb0q := fun l => get_app (l := l) hbq
  refine AcT true Tryz.func22 ?_; intro hbel Q hQ
  have g'13 := (jn @hbpp (jn @hb0pp (jn @hbs (jn @hb0s (jn @hbq @hb0q)))))
  refine runTf g'13 ?_
  refine gd_split (fun h1 => ?_) (fun h1 => ?_)
  · have h1d := bsT h1
    have g'14 := (jn @h1 (jn @h1d g'13))
    refine runTf g'14 ?_
    refine gd_split (fun h2 => ?_) (fun h2 => ?_)
    · have h2d := bsT h2
      have g'15 := (jn @h2 (jn @h2d g'14))
      refine runTf g'15 ?_
      refine gd_split (fun h3 => ?_) (fun h3 => ?_)
      · have h3d := bsT h3
        have g'16 := (jn @h3 (jn @h3d g'15))
        refine runTf g'16 ?_
        refine call_v (by kernel_rfl) (bset_c _ _ l ⟨_, _, _, rfl, by first | exact hb0s _ | exact hbs⟩ (by omega)) ?_
        refine runTf g'16 ?_
        refine gd_split (fun h4 => ?_) (fun h4 => ?_)
        · have h4d := bsT h4
          have hSS := h4d
          have hpb := prsN_bd hSS
          have hmb : 0 ≤ prsN l * ((sc.length : Nat) : Int) ∧ prsN l * ((sc.length : Nat) : Int) ≤ 4096 * 40 := ⟨Int.mul_nonneg hpb.1 (by omega), Int.mul_le_mul hpb.2 (by omega) (by omega) (by omega)⟩
          have g'17 := (jn @h4 (jn @h4d g'16))
          refine runTf g'17 ?_
          refine call_v (by kernel_rfl) (rsmall_c _ _ l ⟨_, _, _, rfl, by first | exact hb0s _ | exact hbs⟩ (by assumption)) ?_
          refine runTf g'17 ?_
          refine gd_split (fun h5 => ?_) (fun h5 => ?_)
          · have h5d := bsT h5
            have g'18 := (jn @h5 (jn @h5d g'17))
            refine runTf g'18 ?_
            refine call_v (by kernel_rfl) (rpairs_c _ _ l ⟨_, _, _, rfl, by first | exact hb0s _ | exact hbs⟩ (by omega)) ?_
            refine runTf g'18 ?_
            exact hQ _ _ (end_plain (.inl rfl) hbel (x := .bool (decide (((prsN l) * ((sc.length : Nat) : Int)) ≤ 60))) (resT Tryz.results22) rfl ⟨by first | (simp [fewK, h1d, h2d, h3d, h4d, h5d]; done), rfl⟩)
          · have h5d := bsT h5
            have g'19 := (jn @h5 (jn @h5d g'17))
            refine runTf g'19 ?_
            exact hQ _ _ (end_plain (.inl rfl) hbel (x := .bool true) (resT Tryz.results22) rfl ⟨by first | (simp [fewK, h1d, h2d, h3d, h4d, h5d]; done), rfl⟩)
        · have h4d := bsT h4
          have g'20 := (jn @h4 (jn @h4d g'16))
          refine runTf g'20 ?_
          exact hQ _ _ (end_plain (.inl rfl) hbel (x := .bool true) (resT Tryz.results22) rfl ⟨by first | (simp [fewK, h1d, h2d, h3d, h4d]; done), rfl⟩)
      · have h3d := bsT h3
        have g'21 := (jn @h3 (jn @h3d g'15))
        refine runTf g'21 ?_
        exact hQ _ _ (end_plain (.inl rfl) hbel (x := .bool false) (resT Tryz.results22) rfl ⟨by first | (simp [fewK, h1d, h2d, h3d]; done), rfl⟩)
    · have h2d := bsT h2
      have g'22 := (jn @h2 (jn @h2d g'14))
      refine runTf g'22 ?_
      exact hQ _ _ (end_plain (.inl rfl) hbel (x := .bool false) (resT Tryz.results22) rfl ⟨by first | (simp [fewK, h1d, h2d]; done), rfl⟩)
  · have h1d := bsT h1
    have g'23 := (jn @h1 (jn @h1d g'13))
    refine runTf g'23 ?_
    exact hQ _ _ (end_plain (.inl rfl) hbel (x := .bool false) (resT Tryz.results22) rfl ⟨by first | (simp [fewK, h1d]; done), rfl⟩)
theorem in_c (H : AHeap) (s : AV) (l : List (Int × Int)) (x : Int) (y : Int) (hs : Sl H 2 s l.length (prs l)) (hl : l.length ≤ 1000000) : ACalls Tryz.prog 25 [s, .agg [.int .i64 x, .int .i64 y]] H (fun v H' => v = .bool (inL l x y) ∧ H' = H) := by
  obtain ⟨bs, os, cs, rfl, hbs⟩ := hs
  have hbls := getElem?_lt hbs
  have hb0s := fun l => get_app (l := l) hbs
  refine AcT true Tryz.func25 ?_; intro hbel Q hQ
  have g'24 := (jn @hbs @hb0s)
  refine runTf g'24 ?_
  refine go_loop try_mixed (by kernel_rfl) (fun k F Hx => ∃ i : Nat, i + k = l.length ∧ (∀ j : Nat, j < i → ¬ (g1 l j = x ∧ g2 l j = y)) ∧ F = [(0, .sl (some (bs, 0)) l.length cs), (3, .ptr (some (H.length, 0))), (5, .int .i64 ((i : Nat) : Int))] ∧ Hx = H ++ [.cells true 0 [.int .i64 x, .int .i64 y]]) (l.length) ?_ ?_
  · refine ⟨_, _, _, ⟨0, by omega, fun j h => by omega, rfl, rfl⟩, Abs.byG hbel [] rfl [0] (by decide) ?_⟩
    exact absW
  · rintro k0 F Hx ⟨i, hm0, hal, rfl, rfl⟩ J0 hJ0
    refine runTf g'24 ?_
    refine cond_split (fun h1 => ?_) (fun h1 => ?_)
    · have h1d := bsT h1
      have hlt : i < l.length := by omega
      have q2 := prs_load (l := l) (j := i) (by omega)
      have g'25 := (jn @h1 (jn @h1d (jn @q2 g'24)))
      refine runTf g'25 ?_
      refine cond_split (fun h3 => ?_) (fun h3 => ?_)
      · have h3d := bsT h3
        have h3n := bnT h3
        have hq0 : g1 l i = x ∧ g2 l i = y := by simpa using h3d
        have hfinR : inL l x y = true := decide_eq_true (by rw [← hq0.1, ← hq0.2, pr_eq hlt]; exact List.getElem_mem hlt)
        have g'26 := (jn @h3 (jn @h3n (jn @int_bne (jn @int_beq g'25))))
        refine runTf g'26 ?_
        exact hQ _ _ (end_plain (.inl rfl) hbel (x := .bool true) (resT Tryz.results25) rfl ⟨by rw [hfinR], rfl⟩)
      · have h3d := bsT h3
        have h3n := bnT h3
        have hei : ¬ (g1 l i = x ∧ g2 l i = y) := by simpa using h3d
        have g'27 := (jn @h3 (jn @h3n (jn @int_bne (jn @int_beq g'25))))
        refine runTf g'27 ?_
        refine hJ0 _ _ ⟨k0 - 1, by omega, _, _, _, ⟨i + 1, by omega, fun j hj => by
                    rcases Nat.lt_or_ge j i with h | h
                    · exact hal j h
                    · rw [show j = i by omega]; exact hei, rfl, rfl⟩, Abs.byG hbel [] rfl [0] (by decide) ?_⟩
        exact absW
    · have h1d := bsT h1
      have hfinR : inL l x y = false := decide_eq_false fun hm => by
        obtain ⟨j, hj, e⟩ := List.mem_iff_getElem.1 hm
        rw [← pr_eq hj] at e
        exact hal j (by omega) (by injection e with e1 e2; exact ⟨e1, e2⟩)
      have g'28 := (jn @h1 (jn @h1d g'24))
      refine runTf g'28 ?_
      exact hQ _ _ (end_plain (.inl rfl) hbel (x := .bool false) (resT Tryz.results25) rfl ⟨by rw [hfinR], rfl⟩)
open Go.RowKit
/-- What a ray meets before far is among the cells of its trace. -/
theorem sbf_trL {px py vx vy vd far cx cy : Int} (h : sbfB px py vx vy vd far (cx * 64) (cy * 64) (cx * 64 + 64) (cy * 64 + 64) = true) (hp : ptB px py = true) (hc : (-16384 ≤ cx ∧ cx ≤ 16383) ∧ -16384 ≤ cy ∧ cy ≤ 16383) (hf : far ≤ 2048) : (cx, cy) ∈ trL px py vx vy vd 0 far := by
  unfold sbfB at h
  simp only [Bool.and_eq_true, decide_eq_true_eq] at h
  obtain ⟨h0, h1, hg, hb⟩ := h
  have hv := thG_vec hg
  have hvB := (thG_iff.1 hg).2.1
  have hq := ptB_iff.1 hp
  have k := bef_traced hv.1 hv.2 hq.1 hq.2 (cx := cx) (cy := cy) (by omega) (by omega) h0
    (mnx := if far * vx < 0 * vx then far * vx else 0 * vx) (mxx := if 0 * vx < far * vx then far * vx else 0 * vx) (mny := if far * vy < 0 * vy then far * vy else 0 * vy) (mxy := if 0 * vy < far * vy then far * vy else 0 * vy)
    (by split <;> omega) (by split <;> omega) (by split <;> omega) (by split <;> omega) (by split <;> omega) (by split <;> omega) (by split <;> omega) (by split <;> omega) hb
  have e : trE px py vx vy vd 0 far = 0 := by unfold trE; rw [if_pos (by rw [hp, hvB]; rfl), if_pos (rngB_iff.2 ⟨by omega, h0, hf⟩)]
  unfold trL mkL; rw [if_pos e]
  refine (swpL_mem (by omega) (by omega) hvB ⟨by omega, h0, hf⟩).2 ?_
  unfold swpP mnsB smeB
  simp only [Bool.and_eq_true, decide_eq_true_eq]
  exact ⟨⟨lnR_iff.2 (by omega), lnR_iff.2 (by omega), lnR_iff.2 (by omega)⟩, by omega, h0, h1, thG_iff.2 ⟨lnP_iff.2 (by omega), hvB, lnR_iff.2 (by omega)⟩, k.1⟩
theorem sbf_BefP {px py vx vy vd far x0 y0 x1 y1 : Int} (h : sbfB px py vx vy vd far x0 y0 x1 y1 = true) : (0 ≤ far ∧ far ≤ 65536) ∧ thG px py vx vy vd x0 y0 x1 y1 = true ∧ BefP px py vx vy vd far x0 y0 x1 y1 := by
  unfold sbfB at h
  simp only [Bool.and_eq_true, decide_eq_true_eq] at h
  obtain ⟨h0, h1, hg, hb⟩ := h
  have hv := thG_vec hg
  have n := thG_near hg
  exact ⟨⟨h0, h1⟩, hg, (bef_iff hv.1 hv.2 n.1 n.2).1 hb⟩
theorem sbf_pos {px py vx vy vd far x0 y0 x1 y1 : Int} (h : sbfB px py vx vy vd far x0 y0 x1 y1 = true) : 0 < far := by
  obtain ⟨hf, hg, n, m, hn, hm, hlt, -⟩ := sbf_BefP h
  have hv := (thG_vec hg).1
  rcases Int.lt_or_le 0 far with k | k
  · exact k
  · have e : far = 0 := by omega
    rw [e, Int.zero_mul] at hlt
    have := Int.mul_nonneg hn (show 0 ≤ vd by omega)
    omega
def prvE (l : List T6) (g : Int) (e c : Int × Int) : Bool := prvB l e.1 (farF e.2 g) c
theorem dirA_0 {l : List T6} (hS : setB l = true) (hl : 0 < l.length) (m : Int) : 0 < (dirA l m).length := by have := dirA_len hS m; omega
theorem prv_fst {l : List T6} {m far : Int} {c : Int × Int} (hS : setB l = true) (hl : 0 < l.length) (hf : far ≤ 2048) (hc : (-16384 ≤ c.1 ∧ c.1 ≤ 16383) ∧ -16384 ≤ c.2 ∧ c.2 ≤ 16383) (h : prvB l m far c = true) : c ∈ fstL l m far ∧ 0 < far := by
  have he := g9_mem (dirA_0 hS hl m)
  have k := List.all_eq_true.1 h _ he
  have ok := dirA_ok hS he
  unfold pairB at ok
  rw [Bool.and_eq_true] at ok
  have hb := bxB_iff.1 ok.1
  unfold psC psB at k
  rw [Bool.and_eq_true] at k
  have hp : ptB (g9 (dirA l m) 0).1 (g9 (dirA l m) 0).2.1 = true := ptB_iff.2 (by omega)
  exact ⟨sbf_trL k.1 hp hc hf, sbf_pos k.1⟩
theorem prS_mem {W Hh : Int} {l : List T6} {sc : List (Int × Int)} {g : Int} {c : Int × Int} : ∀ {i : Nat}, c ∈ prS W Hh l sc g i ↔ ∃ j : Nat, j < i ∧ c ∈ prvL W Hh l (g1 sc j) (g2 sc j) g
  | 0 => ⟨fun h => (by cases h), fun ⟨j, hj, _⟩ => (by omega)⟩
  | i + 1 => by
    unfold prS
    rw [List.mem_append, prS_mem]
    constructor
    · rintro (⟨j, hj, h⟩ | h)
      · exact ⟨j, by omega, h⟩
      · exact ⟨i, by omega, h⟩
    · rintro ⟨j, hj, h⟩
      rcases Nat.lt_or_ge j i with k | k
      · exact .inl ⟨j, k, h⟩
      · rw [show j = i by omega] at h; exact .inr h
theorem inB_bd {W Hh : Int} {xs : List Int} {x y : Int} (hV : vldB W Hh xs = true) (h : inB W Hh x y = true) : (0 ≤ x ∧ x ≤ 63) ∧ 0 ≤ y ∧ y ≤ 63 := by
  have q := vld_iff.1 hV
  have := inB_iff.1 h
  have := q.w1; have := q.h1
  omega
/-- The cells that a scan proves free. -/
theorem mem_all {W Hh : Int} {xs : List Int} {l : List T6} {sc : List (Int × Int)} {g : Int} (hR : rgtA W Hh xs l sc g = true) {c : Int × Int} : c ∈ allL W Hh l sc g ↔ tauB l = true ∧ inB W Hh c.1 c.2 = true ∧ ∃ e ∈ sc, prvE l g e c = true := by
  obtain ⟨hV, hl0, hS, hsB, hg⟩ := rgtA_iff.1 hR
  have hs := scnB_iff.1 hsB
  unfold allL
  rw [cptC_mem, (srtC_perm _).mem_iff]
  unfold rowA
  by_cases ht : tauB l = true
  · rw [if_pos ht, prS_mem]
    constructor
    · rintro ⟨j, hj, h⟩
      unfold prvL at h
      split at h
      · cases h
      · have k := (List.mem_filter.1 h).2
        unfold okcB at k
        rw [Bool.and_eq_true, Bool.and_eq_true, btw_iff, btw_iff] at k
        refine ⟨ht, inB_iff.2 (by omega), sc[j], List.getElem_mem hj, ?_⟩
        unfold prvE
        rw [← pr_eq hj]; exact k.2.2
    · rintro ⟨-, hin, e, he, hp⟩
      obtain ⟨j, hj, rfl⟩ := List.mem_iff_getElem.1 he
      have hbe := beaB_iff.1 (hs.2 _ he)
      rw [← pr_eq hj] at hbe hp
      have hb := inB_bd hV hin
      have hff : farF (g2 sc j) g ≤ 2048 := by unfold farF; split <;> omega
      have q := prv_fst hS hl0 hff (by omega) hp
      refine ⟨j, hj, ?_⟩
      unfold prvL
      rw [if_neg (by omega)]
      refine List.mem_filter.2 ⟨q.1, ?_⟩
      unfold okcB
      rw [Bool.and_eq_true, Bool.and_eq_true, btw_iff, btw_iff]
      have := inB_iff.1 hin
      exact ⟨by omega, by omega, hp⟩
  · rw [if_neg ht]
    exact ⟨fun h => (by cases h), fun h => absurd h.1 ht⟩
theorem allL_strict {W Hh : Int} {l : List T6} {sc : List (Int × Int)} {g : Int} : (allL W Hh l sc g).Pairwise befP := cptC_strict (srtC_sorted _)
theorem mem_pv {W Hh : Int} {xs : List Int} {l : List T6} {sc : List (Int × Int)} {g : Int} {c : Int × Int} : c ∈ pvL W Hh xs l sc g ↔ rgtA W Hh xs l sc g = true ∧ tauB l = true ∧ inB W Hh c.1 c.2 = true ∧ ∃ e ∈ sc, prvE l g e c = true := by
  unfold pvL
  by_cases h : rgtA W Hh xs l sc g = true
  · rw [if_pos h, mem_all h]; exact ⟨fun k => ⟨h, k⟩, fun k => k.2⟩
  · rw [if_neg h]; exact ⟨fun k => (by cases k), fun k => absurd k.1 h⟩
open Go.RowKit
open Go.RowKit
section
variable {W Hh : Int} {xs : List Int} {l : List T6} {sc : List (Int × Int)} {g : Int}
theorem pvE_t (h : pvE W Hh xs l sc g = 0) : rgtA W Hh xs l sc g = true := by
  cases k : rgtA W Hh xs l sc g
  · unfold pvE at h; rw [k] at h; exact absurd h (by decide)
  · rfl
end
set_option linter.unusedSimpArgs false
set_option linter.unusedVariables false
open Go.RowKit
theorem ndp_len : ∀ {l m : List (Int × Int)}, l.Nodup → (∀ c ∈ l, c ∈ m) → l.length ≤ m.length
  | [], _, _, _ => Nat.zero_le _
  | a :: l, m, hn, hs => by
    rw [List.nodup_cons] at hn
    have ha := hs a (List.mem_cons_self ..)
    have ih := ndp_len (l := l) (m := m.erase a) hn.2 fun c hc => by
      have hne : c ≠ a := fun e => hn.1 (by rw [← e]; exact hc)
      exact (List.mem_erase_of_ne hne).2 (hs c (List.mem_cons_of_mem _ hc))
    rw [List.length_erase_of_mem ha] at ih
    have := List.length_pos_of_mem ha
    simp only [List.length_cons]; omega
section
variable {W Hh : Int} {xs : List Int} {l : List T6} {sc tc : List (Int × Int)} {g : Int}
theorem scn_rev (h : ∀ e, e ∈ tc ↔ e ∈ sc) (hl : tc.length = sc.length) : scnB tc = scnB sc := by
  rw [Bool.eq_iff_iff, scnB_iff, scnB_iff, hl]
  exact ⟨fun k => ⟨k.1, fun e he => k.2 e ((h e).2 he)⟩, fun k => ⟨k.1, fun e he => k.2 e ((h e).1 he)⟩⟩
/-- The order of the beams does not count. -/
theorem pv_rev (h : ∀ e, e ∈ tc ↔ e ∈ sc) (hl : tc.length = sc.length) : pvE W Hh xs l tc g = pvE W Hh xs l sc g ∧ pvL W Hh xs l tc g = pvL W Hh xs l sc g := by
  have hr : rgtA W Hh xs l tc g = rgtA W Hh xs l sc g := by unfold rgtA; rw [scn_rev h hl]
  refine ⟨by unfold pvE; rw [hr], ?_⟩
  have hs : ∀ t : List (Int × Int), (pvL W Hh xs l t g).Pairwise befP := fun t => by
    unfold pvL; split
    · exact allL_strict
    · exact .nil
  refine eq_sorted (hs tc) (hs sc) fun c => ?_
  rw [mem_pv, mem_pv, hr]
  exact ⟨fun ⟨a, b, d, e, he, k⟩ => ⟨a, b, d, e, (h e).1 he, k⟩, fun ⟨a, b, d, e, he, k⟩ => ⟨a, b, d, e, (h e).2 he, k⟩⟩
theorem pvL_nodup : (pvL W Hh xs l sc g).Nodup := by
  have hs : (pvL W Hh xs l sc g).Pairwise befP := by
    unfold pvL; split
    · exact allL_strict
    · exact .nil
  exact hs.imp fun {a b} h e => by rw [e] at h; exact befP_irr h
/-- Each cell is proven by a part of the beams. -/
theorem pv_part (hE : pvE W Hh xs l sc g = 0) (k : Nat) : pvE W Hh xs l (sc.take k) g = 0 ∧ pvE W Hh xs l (sc.drop k) g = 0 ∧ (∀ c ∈ pvL W Hh xs l sc g, c ∈ pvL W Hh xs l (sc.take k) g ∨ c ∈ pvL W Hh xs l (sc.drop k) g) ∧ (pvL W Hh xs l sc g).length ≤ (pvL W Hh xs l (sc.take k) g).length + (pvL W Hh xs l (sc.drop k) g).length := by
  have hR := pvE_t hE
  obtain ⟨a1, a2, a3, a4, a5⟩ := rgtA_iff.1 hR
  have h4 := scnB_iff.1 a4
  have r1 : rgtA W Hh xs l (sc.take k) g = true := rgtA_iff.2 ⟨a1, a2, a3, scnB_iff.2 ⟨by rw [List.length_take]; omega, fun e he => h4.2 e (List.mem_of_mem_take he)⟩, a5⟩
  have r2 : rgtA W Hh xs l (sc.drop k) g = true := rgtA_iff.2 ⟨a1, a2, a3, scnB_iff.2 ⟨by rw [List.length_drop]; omega, fun e he => h4.2 e (List.mem_of_mem_drop he)⟩, a5⟩
  have hm : ∀ c ∈ pvL W Hh xs l sc g, c ∈ pvL W Hh xs l (sc.take k) g ∨ c ∈ pvL W Hh xs l (sc.drop k) g := fun c hc => by
    obtain ⟨q1, q2, q3, e, he, q4⟩ := mem_pv.1 hc
    rw [← List.take_append_drop k sc, List.mem_append] at he
    rcases he with he | he
    · exact .inl (mem_pv.2 ⟨r1, q2, q3, e, he, q4⟩)
    · exact .inr (mem_pv.2 ⟨r2, q2, q3, e, he, q4⟩)
  refine ⟨(pv_t r1).1, (pv_t r2).1, hm, ?_⟩
  have := ndp_len (m := pvL W Hh xs l (sc.take k) g ++ pvL W Hh xs l (sc.drop k) g) pvL_nodup (fun c hc => List.mem_append.2 (hm c hc))
  rwa [List.length_append] at this
theorem rev_s {j : Nat} (h : j < sc.length) : sc.reverse.take (j + 1) = sc.reverse.take j ++ [(g1 sc (sc.length - 1 - j), g2 sc (sc.length - 1 - j))] := by
  rw [List.take_succ_eq_append_getElem (by rw [List.length_reverse]; exact h), List.getElem_reverse, pr_eq (show sc.length - 1 - j < sc.length by omega)]
end
set_option linter.unusedSimpArgs false
set_option linter.unusedVariables false
open Go.RowKit
section
variable {P : Program} {f : FuncId} {H : AHeap}
/-- A part of a caller's row may be seen as a block of its own. -/
theorem Emb.view {E : Env} {w : World} {b o es m : Nat} {xs : List AV} (hE : Emb E H w) (hb : H[b]? = some (.cells false es xs)) : Emb (E.push ⟨(E.loc b).blk, (E.loc b).off + o, (E.loc b).sz - o, (E.loc b).es⟩) (H ++ [.cells false es ((xs.drop o).take m)]) w := by
  have hn := hE.n
  have hle := E.le_push ⟨(E.loc b).blk, (E.loc b).off + o, (E.loc b).sz - o, (E.loc b).es⟩
  have e1 : (E.push ⟨(E.loc b).blk, (E.loc b).off + o, (E.loc b).sz - o, (E.loc b).es⟩).loc H.length = ⟨(E.loc b).blk, (E.loc b).off + o, (E.loc b).sz - o, (E.loc b).es⟩ := by rw [← hn]; exact Env.push_new _ _
  have hB : BlkOk E w (E.loc b) (.cells false es xs) := hE.blk b _ hb
  refine ⟨by simp [Env.push, hn], hE.below, hE.base, fun c x hcx => ?_, fun c d x y hcx hdy ox oy hcd => ?_⟩
  · by_cases hcl : c < H.length
    · rw [List.getElem?_append_left hcl] at hcx
      rw [Env.push_old _ _ (by omega)]
      exact (hE.blk c x hcx).mono hle (Nat.le_refl _) (fun _ => rfl) (fun _ => rfl)
    · have hce : c = H.length := by have := getElem?_lt hcx; simp at this; omega
      subst hce
      rw [List.getElem?_append_right (Nat.le_refl _), Nat.sub_self] at hcx
      simp at hcx; subst hcx
      rw [e1]
      refine ⟨fun j x hj => ?_, (fun h => by cases h), fun _ h0 => hB.2.2.1 rfl ?_, hB.2.2.2⟩
      · rw [List.getElem?_take] at hj
        split at hj
        · rw [List.getElem?_drop] at hj
          obtain ⟨k1, v, k2, k3⟩ := hB.1 (o + j) x hj
          exact ⟨k1, v, by rw [Nat.add_assoc]; exact k2, k3.mono hle⟩
        · cases hj
      · have : 0 < ((xs.drop o).take m).length := h0
        rw [List.length_take, List.length_drop] at this; omega
  · have hd : ∀ {c : Nat} {x : ABlk}, (H ++ [ABlk.cells false es ((xs.drop o).take m)])[c]? = some x → x.owned = true → c < H.length ∧ H[c]? = some x := fun {c x} hcx ox => by
      by_cases hcl : c < H.length
      · rw [List.getElem?_append_left hcl] at hcx; exact ⟨hcl, hcx⟩
      · have hce : c = H.length := by have := getElem?_lt hcx; simp at this; omega
        subst hce
        rw [List.getElem?_append_right (Nat.le_refl _), Nat.sub_self] at hcx
        simp at hcx; subst hcx; cases ox
    obtain ⟨c1, c2⟩ := hd hcx ox
    obtain ⟨d1, d2⟩ := hd hdy oy
    rw [Env.push_old _ _ (by omega), Env.push_old _ _ (by omega)]
    exact hE.inj c d x y c2 d2 ox oy hcd
theorem Rel.view {E : Env} {b o n m : Nat} {cap : Option Nat} {v : Value} (hn : E.n = m) (h : Rel E (.sl (some (b, o)) n cap) v) : Rel (E.push ⟨(E.loc b).blk, (E.loc b).off + o, (E.loc b).sz - o, (E.loc b).es⟩) (.sl (some (m, 0)) n none) v := by
  have e1 : (E.push ⟨(E.loc b).blk, (E.loc b).off + o, (E.loc b).sz - o, (E.loc b).es⟩).loc m = ⟨(E.loc b).blk, (E.loc b).off + o, (E.loc b).sz - o, (E.loc b).es⟩ := by rw [← hn]; exact Env.push_new _ _
  cases h with
  | nils _ _ hb hc => exact .nils m none (by simp [Env.push, hn]) (.inl rfl)
  | sl _ _ _ _ c a hb q1 q2 q3 q4 q5 =>
    refine .sl m 0 n none c a (by simp [Env.push, hn]) q1 q2 (.inl rfl) ?_ ?_
    · rw [e1]; exact q4
    · rw [e1]; show 0 + c * (E.loc b).es ≤ (E.loc b).sz - o; omega
/-- A call at a part of a caller's row. -/
theorem ACalls.view {b o n es m : Nat} {cap : Option Nat} {xs : List AV} {x x2 a1 a2 a4 : AV} {l1 l2 : AHeap} (hb : H[b]? = some (.cells false es xs))
    (h3 : ACalls P f [a1, a2, .sl (some (H.length, 0)) n none, a4] (H ++ [.cells false es ((xs.drop o).take m)]) fun y H1 => y = x ∧ H1 = H ++ l1) (G : AHeap) (hG : G.all phant = true) (sel : List Nat) (hnd : sel.Nodup)
    (hw : W (H.length + (l1 ++ G).length) x (x2.mv (sig H.length (l1 ++ G).length sel)) ∧ absH (H.length + (l1 ++ G).length) (sig H.length (l1 ++ G).length sel) (l1 ++ G) sel l2) :
    ACalls P f [a1, a2, .sl (some (b, o)) n cap, a4] H fun y H1 => y = x2 ∧ H1 = H ++ l2 := fun E w vs hE hv => by
  have hn := hE.n
  obtain ⟨v1, r1, rfl, k1, hv1⟩ := rels_cons hv
  obtain ⟨v2, r2, rfl, k2, hv2⟩ := rels_cons hv1
  obtain ⟨v3, r3, rfl, k3, hv3⟩ := rels_cons hv2
  obtain ⟨v4, r4, rfl, k4, hv4⟩ := rels_cons hv3
  obtain rfl := rels_nil hv4
  have hle := E.le_push ⟨(E.loc b).blk, (E.loc b).off + o, (E.loc b).sz - o, (E.loc b).es⟩
  refine (h3 _ w _ (hE.view (o := o) (m := m) hb) (.cons (k1.mono hle) (.cons (k2.mono hle) (.cons (k3.view hn) (.cons (k4.mono hle) (.nil _)))))).mono ?_
  rintro e w' ⟨E', v, H', x', he, ⟨rfl, rfl⟩, hle', hr, hemb⟩
  have hab := Abs.of (n := H.length) (H0 := H) (l1 := l1) (l2 := l2) (F1 := [(0, x')]) (F2 := [(0, x2)]) G hG rfl hE.bel sel hnd (fun p hp => by simp at hp; subst hp; exact hw.1) (absH_get hw.2).1 (absH_get hw.2).2
  obtain ⟨E2, l, f2, e2⟩ := hab.emb (a := ⟨#[v], []⟩) (by rw [hemb.n]; simp) (fun t => by
    unfold look
    cases t with
    | zero => simpa using hr
    | succ t => simp [look]; exact .any _) hemb
  have hle2 := hle.trans hle'
  exact ⟨E2, v, _, x2, he, ⟨rfl, rfl⟩, ⟨l.B.trans hle2.B, l.w0.trans hle2.w0, by rw [hn]; exact l.n, fun b hb => (l.loc b (by rw [← hn]; exact hb)).trans (hle2.loc b hb)⟩, by have := f2 0; simpa [look] using this, e2⟩
end
theorem prs_dropX (l : List (Int × Int)) (k : Nat) : List.drop (k * 2) (prs l) = prs (l.drop k) := by
  induction l generalizing k with
  | nil => simp [prs_nil]
  | cons a l ih =>
    cases k with
    | zero => simp
    | succ k => rw [prs_cons, show (k + 1) * 2 = k * 2 + 1 + 1 by omega, List.drop_succ_cons, List.drop_succ_cons, List.drop_succ_cons, ih]
set_option linter.unusedSimpArgs false
set_option linter.unusedVariables false
open Go.RowKit
set_option maxHeartbeats 4000000
set_option maxRecDepth 100000
theorem pview_c (H : AHeap) (W Hh : Int) (pp : AV) (xs : List Int) (s : AV) (l : List T6) (b : Nat) (sc : List (Int × Int)) (k m n : Nat) (cap : Option Nat) (g : Int) (hpp : Sl H 1 pp xs.length (ints .u8 xs)) (hs : Sl H 6 s l.length (r6 l)) (hb : H[b]? = some (.cells false 2 (prs sc))) (hn : n = ((sc.drop k).take m).length) (hl : l.length ≤ 1000000000) (hsc : sc.length ≤ 1000000000) :
    ACalls Tryz.prog 23 [.agg [.int .i64 W, .int .i64 Hh, pp], s, .sl (some (b, k * 2)) n cap, .int .i64 g] H (fun v H' => v = .tup [.sl (some (H.length, 0)) (pvL W Hh xs l ((sc.drop k).take m) g).length none, .int .i64 (pvE W Hh xs l ((sc.drop k).take m) g)] ∧ H' = H ++ [.cells (ownG (pvR W Hh xs l ((sc.drop k).take m) g).length) 2 (prs (pvL W Hh xs l ((sc.drop k).take m) g))]) := by
  have hv : ((prs sc).drop (k * 2)).take (m * 2) = prs ((sc.drop k).take m) := by rw [prs_dropX, prs_take]
  have hlen : ((sc.drop k).take m).length ≤ 1000000000 := by rw [List.length_take, List.length_drop]; omega
  have key := kProven_c (H ++ [.cells false 2 (prs ((sc.drop k).take m))]) W Hh pp xs s l (.sl (some (H.length, 0)) n none) ((sc.drop k).take m) g (hpp.app _) (hs.app _) ⟨H.length, false, none, by rw [hn], by rw [get_new0]; rfl⟩ hl hlen
  rw [← hv] at key
  refine ACalls.view (o := k * 2) (m := m * 2) (es := 2) (xs := prs sc) (x := .tup [.sl (some (H.length + 1, 0)) (pvL W Hh xs l ((sc.drop k).take m) g).length none, .int .i64 (pvE W Hh xs l ((sc.drop k).take m) g)]) (l1 := [.cells false 2 (((prs sc).drop (k * 2)).take (m * 2)), .cells (ownG (pvR W Hh xs l ((sc.drop k).take m) g).length) 2 (prs (pvL W Hh xs l ((sc.drop k).take m) g))]) hb ?_ [] rfl [1] (by decide) ?_
  · simpa only [List.append_assoc, List.cons_append, List.nil_append, List.length_append, List.length_cons, List.length_nil, Nat.zero_add] using key
  · exact absW
theorem pviewT_c (H : AHeap) (W Hh : Int) (pp : AV) (xs : List Int) (s : AV) (l : List T6) (b : Nat) (sc : List (Int × Int)) (m : Nat) (cap : Option Nat) (g : Int) (hpp : Sl H 1 pp xs.length (ints .u8 xs)) (hs : Sl H 6 s l.length (r6 l)) (hb : H[b]? = some (.cells false 2 (prs sc))) (hm : m ≤ sc.length) (hl : l.length ≤ 1000000000) (hsc : sc.length ≤ 1000000000) :
    ACalls Tryz.prog 23 [.agg [.int .i64 W, .int .i64 Hh, pp], s, .sl (some (b, 0)) m cap, .int .i64 g] H (fun v H' => v = .tup [.sl (some (H.length, 0)) (pvL W Hh xs l (sc.take m) g).length none, .int .i64 (pvE W Hh xs l (sc.take m) g)] ∧ H' = H ++ [.cells (ownG (pvR W Hh xs l (sc.take m) g).length) 2 (prs (pvL W Hh xs l (sc.take m) g))]) := by
  have h := pview_c H W Hh pp xs s l b sc 0 m m cap g hpp hs hb (by rw [List.drop_zero, List.length_take]; omega) hl hsc
  simpa only [List.drop_zero, Nat.zero_mul] using h
theorem pviewD_c (H : AHeap) (W Hh : Int) (pp : AV) (xs : List Int) (s : AV) (l : List T6) (b : Nat) (sc : List (Int × Int)) (k : Nat) (cap : Option Nat) (g : Int) (hpp : Sl H 1 pp xs.length (ints .u8 xs)) (hs : Sl H 6 s l.length (r6 l)) (hb : H[b]? = some (.cells false 2 (prs sc))) (hl : l.length ≤ 1000000000) (hsc : sc.length ≤ 1000000000) :
    ACalls Tryz.prog 23 [.agg [.int .i64 W, .int .i64 Hh, pp], s, .sl (some (b, k * 2)) (sc.length - k) cap, .int .i64 g] H (fun v H' => v = .tup [.sl (some (H.length, 0)) (pvL W Hh xs l (sc.drop k) g).length none, .int .i64 (pvE W Hh xs l (sc.drop k) g)] ∧ H' = H ++ [.cells (ownG (pvR W Hh xs l (sc.drop k) g).length) 2 (prs (pvL W Hh xs l (sc.drop k) g))]) := by
  have e : (sc.drop k).take (sc.length - k) = sc.drop k := List.take_of_length_le (by rw [List.length_drop]; omega)
  have h := pview_c H W Hh pp xs s l b sc k (sc.length - k) (sc.length - k) cap g hpp hs hb (by rw [e, List.length_drop]) hl hsc
  rw [e] at h
  exact h
theorem quo_nat2 (a : Nat) : Int.tdiv (a : Int) 2 = ((a / 2 : Nat) : Int) := rfl
theorem LTy.pairsW {P : Program} {H : AHeap} {n : Nat} {t e u v : TypeId} {x : AV} (ht : P.underlying t = some (.slice e)) (hu : P.underlying u = some (.int .i64)) (hv : P.underlying v = some (.int .i64)) (hl : leafs P (n + 1) e = some [u, v]) (h : LTy P H (n + 2) t x) :
    ∃ l : List (Int × Int), SlP H x l ∧ l.length ≤ maxLen ∧ (∀ p ∈ l, (Lit.int .i64 p.1).wf = true ∧ (Lit.int .i64 p.2).wf = true) ∧ ∀ (b : Nat) (own : Bool) (cap : Option Nat), x = .sl (some (b, 0)) l.length cap → H[b]? = some (.cells own 2 (prs l)) → own = false := by
  obtain ⟨b, rows, rfl, h1, h2, h3⟩ := h.slice ht hl
  obtain ⟨l, k1, k2, k3⟩ := rows_prs hu hv rows h3
  refine ⟨l, ⟨b, false, none, by rw [k1], by rw [← k2]; exact h2⟩, by omega, k3, fun b' own cap e hb => ?_⟩
  injection e with e1 e2 e3
  injection e1 with e1
  injection e1 with e1 e4
  subst e1
  rw [h2] at hb
  injection hb with hb
  injection hb with hb1 hb2 hb3
  exact hb1.symm
theorem lord_c (H : AHeap) (W : Int) (Hh : Int) (pp : AV) (xs : List Int) (s : AV) (l : List T6) (q : AV) (sc : List (Int × Int)) (hpp : Sl H 1 pp xs.length (ints .u8 xs)) (hs : Sl H 6 s l.length (r6 l)) (hq : Sl H 2 q sc.length (prs sc)) (hqf : ∀ (b : Nat) (own : Bool) (cap : Option Nat), q = .sl (some (b, 0)) sc.length cap → H[b]? = some (.cells own 2 (prs sc)) → own = false) : ACalls Tryz.prog 4 [.agg [.int .i64 W, .int .i64 Hh, pp], s, q] H (fun v H' => v = .bool true ∧ H' = H) := by
  obtain ⟨bpp, opp, cpp, rfl, hbpp⟩ := hpp
  have hblpp := getElem?_lt hbpp
  have hb0pp := fun l => get_app (l := l) hbpp
  obtain ⟨bs, os, cs, rfl, hbs⟩ := hs
  have hbls := getElem?_lt hbs
  have hb0s := fun l => get_app (l := l) hbs
  obtain ⟨bq, oq, cq, rfl, hbq⟩ := hq
  have hblq := getElem?_lt hbq
  have hb0q := fun l => get_app (l := l) hbq
  obtain rfl := hqf _ _ _ rfl hbq
  have hrl : sc.reverse.length = sc.length := List.length_reverse
  have hrv := pv_rev (W := W) (Hh := Hh) (xs := xs) (l := l) (sc := sc) (tc := sc.reverse) (g := 7) (fun e => List.mem_reverse) hrl
  have hdc : decide (pvL W Hh xs l sc 7 = pvL W Hh xs l sc.reverse 7) = true := decide_eq_true hrv.2.symm
  have hle1 := pvL_le (W := W) (Hh := Hh) (xs := xs) (l := l) (sc := sc) (g := 7)
  have hle2 := pvL_le (W := W) (Hh := Hh) (xs := xs) (l := l) (sc := sc.take (sc.length / 2)) (g := 7)
  have hle3 := pvL_le (W := W) (Hh := Hh) (xs := xs) (l := l) (sc := sc.drop (sc.length / 2)) (g := 7)
  refine AcT false Tryz.func4 ?_; intro hbel Q hQ
  have g'1 := (jn @hbpp (jn @hb0pp (jn @hbs (jn @hb0s (jn @hbq (jn @hb0q (jn @quo_nat2 (jn @Nat.sub_zero @hdc))))))))
  refine runTf g'1 ?_
  refine call_v (by kernel_rfl) (awake_c _) ?_
  refine runTf g'1 ?_
  refine call_v (by kernel_rfl) (rfew_c _ W Hh _ xs _ l _ sc ⟨_, _, _, rfl, by first | exact hb0pp _ | exact hbpp⟩ ⟨_, _, _, rfl, by first | exact hb0s _ | exact hbs⟩ ⟨_, _, _, rfl, by first | exact hb0q _ | exact hbq⟩) ?_
  refine runTf g'1 ?_
  refine cond_split (fun h1 => ?_) (fun h1 => ?_)
  · have h1d := bsT h1
    have g'2 := (jn @h1 (jn @h1d g'1))
    refine runTf g'2 ?_
    refine call_v (by kernel_rfl) (awake_c _) ?_
    refine runTf g'2 ?_
    exact hQ _ _ (end_plain (.inl rfl) hbel (x := .bool true) (resT Tryz.results4) rfl ⟨by first | rfl | exact congrArg AV.bool (decide_eq_true (by omega)), rfl⟩)
  · have h1d := bsT h1
    have hfl := fewK_len h1d
    have g'3 := (jn @h1 (jn @h1d g'1))
    refine runTf g'3 ?_
    refine go_loop try_mixed (by kernel_rfl) (fun k F Hx => ∃ j : Nat, j + k = sc.length ∧ F = [(1, .sl (some (bs, 0)) l.length cs), (2, .sl (some (bq, 0)) sc.length cq), (3, .ptr (some (H.length, 0))), (7, .sl (some (H.length + 1, 0)) ((sc.reverse.take j).length) (capG (sc.reverse.take j).length)), (8, .int .i64 (((sc.length : Nat) : Int) - 1 - ((j : Nat) : Int)))] ∧ Hx = H ++ [.cells true 0 [.int .i64 W, .int .i64 Hh, .sl (some (bpp, 0)) xs.length cpp], .cells (ownG (sc.reverse.take j).length) 2 (prs (sc.reverse.take j))]) (sc.length) ?_ ?_
    · refine ⟨_, _, _, ⟨0, by omega, rfl, rfl⟩, Abs.byG hbel [.cells false 2 []] rfl [0, 1] (by decide) ?_⟩
      exact absRf (jn @List.take_zero.{0} (jn @Int.natCast_zero @Int.sub_zero))
    · rintro k0 F Hx ⟨j, hm0, rfl, rfl⟩ J0 hJ0
      have g'4 := (jn @prs_len (jn @prs_one g'3))
      refine runTf g'4 ?_
      refine cond_split (fun h2 => ?_) (fun h2 => ?_)
      · have h2d := bsT h2
        have hjt : j < sc.length := by omega
        have hst : sc.reverse.take (j + 1) = sc.reverse.take j ++ [(g1 sc (((sc.length : Nat) : Int) - 1 - ((j : Nat) : Int)).toNat, g2 sc (((sc.length : Nat) : Int) - 1 - ((j : Nat) : Int)).toNat)] := by rw [show (((sc.length : Nat) : Int) - 1 - ((j : Nat) : Int)).toNat = sc.length - 1 - j by omega]; exact rev_s hjt
        have htl : (sc.reverse.take j).length = j := by rw [List.length_take]; omega
        have q3 := prs_load (l := sc) (j := (((sc.length : Nat) : Int) - 1 - ((j : Nat) : Int)).toNat) (by omega)
        have g'5 := (jn @h2 (jn @h2d (jn @q3 (jn @capG_s g'4))))
        refine runTf g'5 ?_
        refine hJ0 _ _ ⟨k0 - 1, by omega, _, _, _, ⟨j + 1, by omega, rfl, rfl⟩, Abs.byG hbel [] rfl [0, 3] (by decide) ?_⟩
        exact absRf (jn @hst (jn @Int.natCast_add (jn @Int.natCast_one (jn @Int.sub_sub @Int.add_assoc))))
      · have h2d := bsT h2
        obtain rfl : j = sc.length := by omega
        have hsft : sc.reverse.take sc.length = sc.reverse := List.take_of_length_le (by omega)
        have g'6 := (jn @h2 (jn @h2d (jn @hsft g'4)))
        refine runTf g'6 ?_
        refine call_v (by kernel_rfl) (kProven_c _ W Hh _ xs _ l _ sc 7 ⟨_, _, _, rfl, by first | exact hb0pp _ | exact hbpp⟩ ⟨_, _, _, rfl, by first | exact hb0s _ | exact hbs⟩ ⟨_, _, _, rfl, by first | exact hb0q _ | exact hbq⟩ (by first | omega | simp) (by first | omega | simp)) ?_
        refine runTf g'6 ?_
        refine call_v (by kernel_rfl) (kProven_c _ W Hh _ xs _ l _ sc.reverse 7 ⟨_, _, _, rfl, by first | exact hb0pp _ | exact hbpp⟩ ⟨_, _, _, rfl, by first | exact hb0s _ | exact hbs⟩ ⟨_, _, _, by first | rfl | (rw [List.length_append]; done) | (rw [List.length_append]; rfl), by first | rfl | (rw [get_newk]; rfl) | (rw [get_new0]; rfl) | (rw [get_newk, prs_append]; rfl) | (rw [get_new0, prs_append]; rfl)⟩ (by first | omega | simp) (by first | omega | simp)) ?_
        refine runTf g'6 ?_
        refine call_x (by kernel_rfl) (by simp) (pviewT_c _ W Hh _ xs _ l bq sc (sc.length / 2) _ 7 ⟨_, _, _, rfl, by first | exact hb0pp _ | exact hbpp⟩ ⟨_, _, _, rfl, by first | exact hb0s _ | exact hbs⟩ (by first | exact hb0q _ | exact hbq) (by omega) (by omega) (by omega)) ?_
        refine runTf g'6 ?_
        refine call_x (by kernel_rfl) (by simp) (pviewD_c _ W Hh _ xs _ l bq sc (sc.length / 2) _ 7 ⟨_, _, _, rfl, by first | exact hb0pp _ | exact hbpp⟩ ⟨_, _, _, rfl, by first | exact hb0s _ | exact hbs⟩ (by first | exact hb0q _ | exact hbq) (by omega) (by omega)) ?_
        refine runTf g'6 ?_
        refine call_v (by kernel_rfl) (bcells_c _ _ (pvL W Hh xs l sc 7) _ (pvL W Hh xs l sc.reverse 7) ⟨_, _, _, by first | rfl | (rw [List.length_append]; done) | (rw [List.length_append]; rfl), by first | rfl | (rw [get_newk]; rfl) | (rw [get_new0]; rfl) | (rw [get_newk, prs_append]; rfl) | (rw [get_new0, prs_append]; rfl)⟩ ⟨_, _, _, by first | rfl | (rw [List.length_append]; done) | (rw [List.length_append]; rfl), by first | rfl | (rw [get_newk]; rfl) | (rw [get_new0]; rfl) | (rw [get_newk, prs_append]; rfl) | (rw [get_new0, prs_append]; rfl)⟩ (by first | exact pvL_le | exact ssL_le | simp | omega) (by first | exact pvL_le | exact ssL_le | simp | omega)) ?_
        refine runTf g'6 ?_
        refine cond_split (fun h4 => ?_) (fun h4 => ?_)
        · have h4d := bsT h4
          have h4n := bnT h4
          first | exact absurd hrv.1.symm h4d | (rw [hrv.1] at h4d; simp at h4d)
        · have h4d := bsT h4
          have h4n := bnT h4
          have g'7 := (jn @h4 (jn @h4n (jn @int_bne (jn @int_beq g'6))))
          refine runTf g'7 ?_
          refine cond_split (fun h5 => ?_) (fun h5 => ?_)
          · have h5d := bsT h5
            have h5n := bnT h5
            have g'8 := (jn @h5 (jn @h5n g'7))
            refine runTf g'8 ?_
            exact hQ _ _ (end_plain (.inl rfl) hbel (x := .bool true) (resT Tryz.results4) rfl ⟨by first | rfl | exact congrArg AV.bool (decide_eq_true (by omega)), rfl⟩)
          · have h5d := bsT h5
            have h5n := bnT h5
            have hE0 : pvE W Hh xs l sc 7 = 0 := by first | exact h5d | simpa using h5d
            obtain ⟨hpa, hpb, hpc, hpd⟩ := pv_part hE0 (sc.length / 2)
            have g'9 := (jn @h5 (jn @h5n g'7))
            refine runTf g'9 ?_
            refine go_loop try_mixed (by kernel_rfl) (fun k F Hx => ∃ i : Nat, i + k = (pvL W Hh xs l sc 7).length ∧ F = [(9, .sl (some (H.length, 0)) ((pvL W Hh xs l sc 7).length) none), (13, .sl (some (H.length + 1, 0)) ((pvL W Hh xs l (sc.take (sc.length / 2)) 7).length) none), (14, .int .i64 (pvE W Hh xs l (sc.take (sc.length / 2)) 7)), (15, .sl (some (H.length + 2, 0)) ((pvL W Hh xs l (sc.drop (sc.length / 2)) 7).length) none), (16, .int .i64 (pvE W Hh xs l (sc.drop (sc.length / 2)) 7)), (17, .int .i64 ((i : Nat) : Int))] ∧ Hx = H ++ [.cells (ownG (pvR W Hh xs l sc 7).length) 2 (prs (pvL W Hh xs l sc 7)), .cells (ownG (pvR W Hh xs l (sc.take (sc.length / 2)) 7).length) 2 (prs (pvL W Hh xs l (sc.take (sc.length / 2)) 7)), .cells (ownG (pvR W Hh xs l (sc.drop (sc.length / 2)) 7).length) 2 (prs (pvL W Hh xs l (sc.drop (sc.length / 2)) 7))]) ((pvL W Hh xs l sc 7).length) ?_ ?_
            · refine ⟨_, _, _, ⟨0, by omega, rfl, rfl⟩, Abs.byG hbel [] rfl [2, 4, 5] (by decide) ?_⟩
              exact absR
            · rintro k1 F Hx ⟨i, hm1, rfl, rfl⟩ J1 hJ1
              refine runTf g'9 ?_
              refine cond_split (fun h6 => ?_) (fun h6 => ?_)
              · have h6d := bsT h6
                have hlt : i < (pvL W Hh xs l sc 7).length := by omega
                have q7 := prs_load (l := pvL W Hh xs l sc 7) (j := i) (by omega)
                have g'10 := (jn @h6 (jn @h6d (jn @q7 g'9)))
                refine runTf g'10 ?_
                refine call_v (by kernel_rfl) (in_c _ _ (pvL W Hh xs l (sc.take (sc.length / 2)) 7) (g1 (pvL W Hh xs l sc 7) i) (g2 (pvL W Hh xs l sc 7) i) ⟨_, _, _, by first | rfl | (rw [List.length_append]; done) | (rw [List.length_append]; rfl), by first | rfl | (rw [get_newk]; rfl) | (rw [get_new0]; rfl) | (rw [get_newk, prs_append]; rfl) | (rw [get_new0, prs_append]; rfl)⟩ (by first | exact pvL_le | omega)) ?_
                refine runTf g'10 ?_
                refine gd_split (fun h8 => ?_) (fun h8 => ?_)
                · have h8d := bsT h8
                  have hia := h8d
                  have q9 := prs_load (l := pvL W Hh xs l sc 7) (j := i) (by omega)
                  have g'11 := (jn @h8 (jn @h8d (jn @q9 g'10)))
                  refine runTf g'11 ?_
                  refine call_v (by kernel_rfl) (in_c _ _ (pvL W Hh xs l (sc.drop (sc.length / 2)) 7) (g1 (pvL W Hh xs l sc 7) i) (g2 (pvL W Hh xs l sc 7) i) ⟨_, _, _, by first | rfl | (rw [List.length_append]; done) | (rw [List.length_append]; rfl), by first | rfl | (rw [get_newk]; rfl) | (rw [get_new0]; rfl) | (rw [get_newk, prs_append]; rfl) | (rw [get_new0, prs_append]; rfl)⟩ (by first | exact pvL_le | omega)) ?_
                  refine runTf g'11 ?_
                  refine cond_split (fun h10 => ?_) (fun h10 => ?_)
                  · have h10d := bsT h10
                    exact absurd (hpc _ (List.getElem_mem hlt)) (by rw [← pr_eq hlt]; exact fun q => q.elim (of_decide_eq_false hia) (of_decide_eq_false h10d))
                  · have h10d := bsT h10
                    have g'12 := (jn @h10 (jn @h10d g'11))
                    refine runTf g'12 ?_
                    refine hJ1 _ _ ⟨k1 - 1, by omega, _, _, _, ⟨i + 1, by omega, rfl, rfl⟩, Abs.byG hbel [] rfl [0, 1, 2] (by decide) ?_⟩
                    exact absR
                · have h8d := bsT h8
                  have g'13 := (jn @h8 (jn @h8d g'10))
                  refine runTf g'13 ?_
                  refine hJ1 _ _ ⟨k1 - 1, by omega, _, _, _, ⟨i + 1, by omega, rfl, rfl⟩, Abs.byG hbel [] rfl [0, 1, 2] (by decide) ?_⟩
                  exact absR
              · have h6d := bsT h6
                have g'14 := (jn @h6 (jn @h6d g'9))
                refine runTf g'14 ?_
                refine gd_split (fun h11 => ?_) (fun h11 => ?_)
                · have h11d := bsT h11
                  have h11n := bnT h11
                  have g'15 := (jn @h11 (jn @h11n g'14))
                  refine runTf g'15 ?_
                  refine gd_split (fun h12 => ?_) (fun h12 => ?_)
                  · have h12d := bsT h12
                    have h12n := bnT h12
                    have g'16 := (jn @h12 (jn @h12n g'15))
                    refine runTf g'16 ?_
                    exact hQ _ _ (end_plain (.inl rfl) hbel (x := .bool (decide ((((pvL W Hh xs l sc 7).length : Nat) : Int) ≤ ((((pvL W Hh xs l (sc.take (sc.length / 2)) 7).length : Nat) : Int) + (((pvL W Hh xs l (sc.drop (sc.length / 2)) 7).length : Nat) : Int))))) (resT Tryz.results4) rfl ⟨by first | rfl | exact congrArg AV.bool (decide_eq_true (by omega)), rfl⟩)
                  · have h12d := bsT h12
                    have h12n := bnT h12
                    exact absurd hpb (by first | exact h12d | simpa using h12d)
                · have h11d := bsT h11
                  have h11n := bnT h11
                  exact absurd hpa (by first | exact h11d | simpa using h11d)
open Go.RowKit
set_option maxRecDepth 100000 in
theorem knownOrder_top (H : AHeap) (xs : List AV) (hn : xs.length = 3) (hy : ∀ (j : Nat) (t : TypeId) (x : AV), [24, 47, 38][j]? = some t → xs[j]? = some x → ATy Tryz.prog H 9 t x) : ACalls Tryz.prog 4 xs H (fun v H' => v = .bool true ∧ H' = H) := by
  match xs, hn, hy with
  | [a0, a1, a2], _, hy =>
    obtain ⟨ys0, e0, r0_0⟩ := (hy 0 _ a0 rfl rfl).agg (ls := [3, 3, 22]) (by kernel_rfl) (by kernel_rfl)
    obtain ⟨y0_0, q0_0, rfl, t0_0, r0_1⟩ := r0_0.cons
    obtain ⟨z1, rfl, w1⟩ := t0_0.int (k := .i64) (by kernel_rfl)
    obtain ⟨y0_1, q0_1, rfl, t0_1, r0_2⟩ := r0_1.cons
    obtain ⟨z2, rfl, w2⟩ := t0_1.int (k := .i64) (by kernel_rfl)
    obtain ⟨y0_2, q0_2, rfl, t0_2, r0_3⟩ := r0_2.cons
    obtain ⟨l3, s3, m3, w3⟩ := t0_2.intsU (n := 7) (t := 22) (e := 5) (by kernel_rfl) (by kernel_rfl) (by kernel_rfl)
    obtain rfl := r0_3.nil
    subst e0
    have t1 := (hy 1 _ a1 rfl rfl).one (by kernel_rfl) (by kernel_rfl)
    obtain ⟨l4, s4, m4, w4⟩ := t1.rec6 (n := 7) (t := 47) (e := 45) (t1 := 3) (t2 := 3) (t3 := 3) (t4 := 3) (t5 := 3) (t6 := 3) (by kernel_rfl) (by kernel_rfl) (by kernel_rfl) (by kernel_rfl) (by kernel_rfl) (by kernel_rfl) (by kernel_rfl) (by kernel_rfl)
    have t2 := (hy 2 _ a2 rfl rfl).one (by kernel_rfl) (by kernel_rfl)
    obtain ⟨l5, s5, m5, w5, u5⟩ := t2.pairsW (n := 7) (t := 38) (e := 51) (u := 3) (v := 3) (by kernel_rfl) (by kernel_rfl) (by kernel_rfl) (by kernel_rfl)
    exact lord_c H z1 z2 _ l3 _ l4 _ l5 s3 s4 s5 u5
section
open Go.ChangeShapes Go.WideShapes Go.ChangeAt Go.RowKit Go.Joins
open Go.ChangeMaps (open_string shut_string)
set_option maxRecDepth 100000 in
theorem knownOrder_lifted (os : Os) (started : os.Started) (H : Type) (enc : TypeId × Value → H) :
    ReturnsInHanded {} Tryz.checked os 4 .any (Rows.knownOrderSpec.pre6 enc Tryz.prog Tryz.f4 Rows.knownOrderRow.domain false) (Rows.knownOrderSpec.post enc Tryz.prog Tryz.f4 false true false false) := by
  refine returnsInHanded_of_change (C := Tryz.checked) own started (by kernel_rfl) Tryz.func4
    (ChangeSpec.witness6 (enc := enc) (C := Tryz.checked) false ⟨#[], #[.agg #[.int .i64 0, .int .i64 0, .slice none 0 0], .slice none 0 0, .slice none 0 0], []⟩ 8 (by kernel_rfl) (by kernel_rfl) (by kernel_rfl) (by kernel_rfl)) ?_
  intro W base args ds gs before hval0 hW hcnd _
  have hval : ∀ (j : Nat) t v, Tryz.f4.params[j]? = some t → args[j]? = some v → Value.okWide Tryz.prog W .any base t v := hval0
  have hW' := hW
  obtain ⟨p, q, hA0, hV, rfl, hfz, hnd⟩ := hW
  have hA : DataW.TrodAll enc Tryz.prog W 0 (fun _ => true) true Tryz.f4.params.toList args.toList ds p := hA0
  rw [Tryz.params4] at hA hval
  have hwalk := calls_top (n := 9) (f := 4) hA (fun j t v a b => hval j t v (by simpa using a) (by simpa using b)) (by kernel_rfl) (fun H xs hn hy => knownOrder_top H xs hn hy)
  rw [Array.toArray_toList] at hwalk
  obtain ⟨v0, vs0, d0, ds0, p0, q0, hargs, rfl, rfl, h0, r0⟩ := trodAll_cons hA
  obtain ⟨v1, vs1, d1, ds1, p1, q1, rfl, rfl, rfl, h1, r1⟩ := trodAll_cons r0
  obtain ⟨v2, vs2, d2, ds2, p2, q2, rfl, rfl, rfl, h2, r2⟩ := trodAll_cons r1
  obtain ⟨rfl, rfl, rfl⟩ := trodAll_nil r2
  obtain rfl : args = #[v0, v1, v2] := by cases args; simp_all
  obtain ⟨rfl, rfl⟩ := trodVars_none hV
  have k0 := h0
  have lt0 : ∀ x ∈ p0, x.block < W.heap.size := by obtain ⟨m, hm⟩ := k0; exact DataW.trod_lt m _ _ _ hm
  have k1 := h1
  have lt1 : ∀ x ∈ p1, x.block < W.heap.size := by obtain ⟨m, hm⟩ := k1; exact DataW.trod_lt m _ _ _ hm
  have k2 := h2
  have lt2 : ∀ x ∈ p2, x.block < W.heap.size := by obtain ⟨m, hm⟩ := k2; exact DataW.trod_lt m _ _ _ hm
  clear hA0 hval0
  refine hwalk.mono fun e W' ⟨he, bel⟩ => ?_
  subst he
  exact ⟨_, rfl, _, _, _, [], _, [], hW', trodAll_mk1 (shut_bool Tryz.underlying4 _), (trodAll_cons_mk (Below.trod laidOut (by kernel_rfl) (of_decide_eq_true (by kernel_rfl)) k0 bel lt0) (trodAll_cons_mk (Below.trod laidOut (by kernel_rfl) (of_decide_eq_true (by kernel_rfl)) k1 bel lt1) (trodAll_cons_mk (Below.trod laidOut (by kernel_rfl) (of_decide_eq_true (by kernel_rfl)) k2 bel lt2) trodAll_mk0))), rfl, bel.frame _, fun h => by cases h⟩
theorem and_t {a b : Bool} (h : a = true) (k : b = true) : (a && b) = true := by rw [h, k]; rfl
theorem knownOrder_h0 : (Rows.knownOrderRow.inPlace == Tryz.pinned.checked.prog.inPlace 4) = true := by kernel_rfl
theorem knownOrder_h1 : (Rows.knownOrderRow.unfollowed == Tryz.pinned.checked.prog.unfollowed 4) = true := by kernel_rfl
theorem knownOrder_h2 : (Rows.knownOrderRow.recurses == Tryz.pinned.checked.prog.recurses 4) = true := by kernel_rfl
theorem knownOrder_h3 : (Rows.knownOrderRow.named == Tryz.pinned.checked.prog.varsNamed 4) = true := by kernel_rfl
theorem knownOrder_h4 : Tryz.pinned.checked.prog.stopsHeard = true := by kernel_rfl
theorem knownOrder_h5 : Tryz.pinned.checked.prog.mayEnter = true := by kernel_rfl
theorem knownOrder_h6 : (Rows.knownOrderRow.lifted == Tryz.pinned.checked.prog.liftsFinal) = true := by kernel_rfl
theorem knownOrder_closed : joinedFacts Tryz.pinned.checked.prog 4 Tryz.f4 Rows.knownOrderSpec Rows.knownOrderRow = true := by
  unfold joinedFacts
  exact (and_t (and_t (and_t (and_t (and_t (and_t (and_t (and_t (and_t (and_t (and_t (and_t (and_t (and_t (and_t (and_t (and_t (and_t (and_t (and_t (and_t (and_t (and_t (and_t (and_t (and_t (and_t (and_t (and_t (and_t (and_t (by kernel_rfl) laidOut) (by kernel_rfl)) (by kernel_rfl)) (by kernel_rfl)) (by kernel_rfl)) (by kernel_rfl)) (by kernel_rfl)) (by kernel_rfl)) knownOrder_h0) knownOrder_h1) knownOrder_h2) knownOrder_h3) (by kernel_rfl)) (by kernel_rfl)) (by kernel_rfl)) (by kernel_rfl)) (by kernel_rfl)) (by kernel_rfl)) (by kernel_rfl)) (by kernel_rfl)) (by kernel_rfl)) (by kernel_rfl)) (by kernel_rfl)) knownOrder_h4) knownOrder_h5) knownOrder_h6) (by kernel_rfl)) (by kernel_rfl)) (by kernel_rfl)) (by kernel_rfl)) (by kernel_rfl))
theorem knownOrder_over : Rows.knownOrderRow.holds Tryz.pinned (OpenSpec.ofChange Rows.knownOrderSpec) :=
  OpenClaim.holds_of_wide 4 Tryz.f4 rfl rfl rfl rfl rfl rfl rfl ⟨rfl, rfl, rfl, rfl, rfl⟩ rfl rfl rfl rfl rfl (by kernel_rfl) Tryz.func4 knownOrder_closed
    (of_decide_eq_true (by kernel_rfl)) (by unfold Func.isWrapper; rw [if_neg (by decide +kernel)]; exact ⟨rfl, rfl⟩)
    (fun os started H enc _ => knownOrder_lifted os started H enc)
/-- The given statement. -/
theorem knownOrder_proved : Rows.KnownOrderSaid := knownOrder_over
end
end Go.Proofs.YtcokgigjmjlmnaaGreat
