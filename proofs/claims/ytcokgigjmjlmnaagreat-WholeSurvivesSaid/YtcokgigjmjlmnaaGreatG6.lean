/- Proved: the law WholeSurvives returns true on every input, and its arguments read afterwards as before. Conditions: none beyond the given row's. -/
import Derived.Test.YtcokgigjmjlmnaaGreatG5
import Derived.Test.YtcokgigjmjlmnaaGreatG3
import Derived.Test.YtcokgigjmjlmnaaGreatG4
import Derived.Deep.RegionHeld3
namespace Go.Proofs.YtcokgigjmjlmnaaGreat
set_option linter.unusedSimpArgs false
set_option linter.unusedVariables false
open Go.RowKit
set_option maxHeartbeats 4000000
set_option maxRecDepth 100000
theorem proven_c (H : AHeap) (W : Int) (Hh : Int) (pp : AV) (xs : List Int) (s : AV) (l : List T6) (m : Int) (r : Int) (g : Int) (hpp : Sl H 1 pp xs.length (ints .u8 xs)) (hs : Sl H 6 s l.length (r6 l)) (hV : vldB W Hh xs = true) (hS : setB l = true) (hl0 : 0 < l.length) (hr : -1 ≤ r ∧ r ≤ 1024) (hg : 1 ≤ g ∧ g ≤ 32) : ACalls Tryz.prog 168 [.agg [.int .i64 W, .int .i64 Hh, pp], s, .agg [.int .i64 m, .int .i64 r], .int .i64 g] H (fun v H' => v = .sl (some (H.length, 0)) ((prvL W Hh l m r g).length) (capG (prvL W Hh l m r g).length) ∧ H' = H ++ [.cells (ownG (prvL W Hh l m r g).length) 2 (prs (prvL W Hh l m r g))]) := by
  obtain ⟨bpp, opp, cpp, rfl, hbpp⟩ := hpp
  have hblpp := getElem?_lt hbpp
  have hb0pp := fun l => get_app (l := l) hbpp
  obtain ⟨bs, os, cs, rfl, hbs⟩ := hs
  have hbls := getElem?_lt hbs
  have hb0s := fun l => get_app (l := l) hbs
  have hvl := vld_iff.1 hV
  have hWb : 1 ≤ W ∧ W ≤ 64 ∧ 1 ≤ Hh ∧ Hh ≤ 64 := by obtain ⟨a, b, c, d, -⟩ := hvl; omega
  have hda := dirA_len hS m
  have hpair : ∀ j', j' < (dirA l m).length → bxB (g91 (dirA l m) j') (g92 (dirA l m) j') (g93 (dirA l m) j') (g94 (dirA l m) j') (g95 (dirA l m) j') (g96 (dirA l m) j') = true := fun j' hj' => by
    have k := dirA_ok hS (g9_mem hj')
    unfold pairB at k; rw [Bool.and_eq_true] at k; exact k.1
  have hp0 := hpair 0 (by omega)
  have hfl := fstL_len l m (farF r g)
  (refine ACalls_pieces Tryz.func168 _ rfl (Nat.le_of_ble_eq_true (by kernel_rfl)) rfl ?_; intro hbel Q hQ hQ' c hc; unfold Tryz.f168 at hc; simp only [Option.some.injEq] at hc; subst hc; clear hQ')
  refine AW_seqQ fun Q1 hn1 hr1 he1 => ?_
  have hQ1 := fun F H' h => hr1 F H' (hQ F H' h)
  refine AW_fin false try_mixed (by kernel_rfl) ?_
  have g'1 := (jn @hbpp (jn @hb0pp (jn @hbs @hb0s)))
  refine runTf g'1 ?_
  refine hn1 _ _ ?_
  refine AW_seqQ fun Q2 hn2 hr2 he2 => ?_
  have hQ2 := fun F H' h => hr2 F H' (hQ F H' h)
  refine AW_fin false try_mixed (by kernel_rfl) ?_
  refine runTf g'1 ?_
  refine hn2 _ _ ?_
  refine AW_seqQ fun Q3 hn3 hr3 he3 => ?_
  have hQ3 := fun F H' h => hr3 F H' (hQ F H' h)
  refine AW_fin false try_mixed (by kernel_rfl) ?_
  refine runTf g'1 ?_
  refine cond_split (fun h1 => ?_) (fun h1 => ?_)
  · have h1d := bsT h1
    have h1n := bnT h1
    have hr1 : r = -1 := by simpa using h1d
    have hsf1 : 1024 - g = farF r g := (if_pos hr1).symm
    have g'2 := (jn @h1 (jn @h1n (jn @int_bne (jn @int_beq (jn @hsf1 g'1)))))
    refine runTf g'2 ?_
    refine hn3 _ _ ?_
    refine AW_seqQ fun Q4 hn4 hr4 he4 => ?_
    have hQ4 := fun F H' h => hr4 F H' (hQ F H' h)
    refine AW_fin false try_mixed (by kernel_rfl) ?_
    refine runTf g'2 ?_
    refine cond_split (fun h2 => ?_) (fun h2 => ?_)
    · have h2d := bsT h2
      have hfinL : prvL W Hh l m r g = [] := if_pos h2d
      have g'3 := (jn @h2 (jn @h2d g'2))
      refine runTf g'3 ?_
      refine hQ4 _ _ (end_byG (.inl rfl) hbel (x1 := .sl none 0 (some 0)) (l2 := [.cells false 2 []]) (.sl (some (H.length, 0)) 0 (some 0)) (resT Tryz.results168) [.cells false 2 []] rfl [3] (by decide) ⟨by first | (rw [hfinL]; done) | (rw [hfinL]; rfl), by first | (rw [hfinL]; done) | (rw [hfinL]; rfl)⟩ ?_)
      exact absW
    · have h2d := bsT h2
      have hfar := h2d
      have g'4 := (jn @h2 (jn @h2d g'2))
      refine runTf g'4 ?_
      refine hn4 _ _ ?_
      refine AW_seqQ fun Q5 hn5 hr5 he5 => ?_
      have hQ5 := fun F H' h => hr5 F H' (hQ F H' h)
      refine AW_fin false try_mixed (by kernel_rfl) ?_
      refine runTf g'4 ?_
      refine call_v (by kernel_rfl) (directed_c _ _ l m r ⟨_, _, _, rfl, by first | exact hb0s _ | exact hbs⟩ (by assumption)) ?_
      refine runTf g'4 ?_
      refine hn5 _ _ ?_
      refine AW_specialZ false try_mixed [[0, 1, 2, 3, 4, 5, 6, 7, 8, 9, 10, 11, 12, 13, 14, 15, 16, 17], [0, 1, 2, 3, 7, 8, 9, 11, 4, 5, 6, 10, 12, 13, 14, 15, 16, 17], [0, 1, 2, 3, 7, 8, 9, 10, 4, 5, 6, 11, 12, 13, 14, 15, 16, 17], [0, 1, 2, 3, 7, 8, 9, 10, 11, 4, 5, 6, 12, 13, 14, 15, 16, 17]] (by kernel_rfl) (fun F2 H2 => F2 = [(4, .ptr (some (H.length, 0))), (8, .sl none 0 (some 0)), (9, .ptr (some (H.length + 1, 0))), (10, .sl (some (H.length + 2, 0)) ((dirA l m).length) (capG (dirA l m).length)), (11, .sl (some (H.length + 3, 0)) ((fstL l m (farF r g)).length) (capG (fstL l m (farF r g)).length))] ∧ H2 = H ++ [.cells true 0 [.int .i64 W, .int .i64 Hh, .sl (some (bpp, 0)) xs.length cpp], .cells true 0 [.int .i64 (farF r g)], .cells (ownG (dirA l m).length) 9 (r9 (dirA l m)), .cells (ownG (fstL l m (farF r g)).length) 2 (prs (fstL l m (farF r g)))]) ?_ ?_
      · refine reps_cons ?_ (reps_cons ?_ (reps_cons ?_ (reps_cons ?_ (reps_nil)))) <;> intro J hJ
        · skip
          have q3 := r9_q0 (l := dirA l m) (by omega)
          have g'5 := (jn @r9_len (jn @q3 g'4))
          refine runDf g'5 ?_
          refine call_x (by kernel_rfl) (by simp) (corners_c _ (g91 (dirA l m) 0) (g92 (dirA l m) 0) (g93 (dirA l m) 0) (g94 (dirA l m) 0) (g95 (dirA l m) 0) (g96 (dirA l m) 0) (by assumption)) ?_
          have q4 := r9_q6 (l := dirA l m) (by omega)
          have g'6 := (jn @q4 g'5)
          refine runDf g'6 ?_
          refine call_x (by kernel_rfl) (by simp) (tracedf_c _ l m (farF r g)) ?_
          refine runDf g'6 ?_
          refine inv_of (hJ _ _ ⟨_, _, _, ⟨rfl, rfl⟩, Abs.byG hbel [] rfl [0, 2, 3, 5] (by decide) ?_⟩)
          exact absRf (jn @r9_append (jn @r9_cons (jn @r9_nil @mvs_r9)))
        · skip
          have q5 := r9_q0 (l := dirA l m) (by omega)
          have g'7 := (jn @r9_len (jn @q5 g'4))
          refine runDf g'7 ?_
          refine call_x (by kernel_rfl) (by simp) (corners_c _ (g91 (dirA l m) 0) (g92 (dirA l m) 0) (g93 (dirA l m) 0) (g94 (dirA l m) 0) (g95 (dirA l m) 0) (g96 (dirA l m) 0) (by assumption)) ?_
          have q6 := r9_q6 (l := dirA l m) (by omega)
          have g'8 := (jn @q6 g'7)
          refine runDf g'8 ?_
          refine call_x (by kernel_rfl) (by simp) (tracedf_c _ l m (farF r g)) ?_
          refine runDf g'8 ?_
          refine inv_of (hJ _ _ ⟨_, _, _, ⟨rfl, rfl⟩, Abs.byG hbel [] rfl [0, 2, 3, 5] (by decide) ?_⟩)
          exact absRf (jn @r9_append (jn @r9_cons (jn @r9_nil @mvs_r9)))
        · skip
          have q7 := r9_q0 (l := dirA l m) (by omega)
          have q8 := r9_q6 (l := dirA l m) (by omega)
          have g'9 := (jn @r9_len (jn @q7 (jn @q8 g'4)))
          refine runDf g'9 ?_
          refine call_x (by kernel_rfl) (by simp) (corners_c _ (g91 (dirA l m) 0) (g92 (dirA l m) 0) (g93 (dirA l m) 0) (g94 (dirA l m) 0) (g95 (dirA l m) 0) (g96 (dirA l m) 0) (by assumption)) ?_
          refine runDf g'9 ?_
          refine call_x (by kernel_rfl) (by simp) (tracedf_c _ l m (farF r g)) ?_
          refine runDf g'9 ?_
          refine inv_of (hJ _ _ ⟨_, _, _, ⟨rfl, rfl⟩, Abs.byG hbel [] rfl [0, 2, 3, 5] (by decide) ?_⟩)
          exact absRf (jn @r9_append (jn @r9_cons (jn @r9_nil @mvs_r9)))
        · skip
          have q9 := r9_q0 (l := dirA l m) (by omega)
          have q10 := r9_q6 (l := dirA l m) (by omega)
          have g'10 := (jn @r9_len (jn @q9 (jn @q10 g'4)))
          refine runDf g'10 ?_
          refine call_x (by kernel_rfl) (by simp) (corners_c _ (g91 (dirA l m) 0) (g92 (dirA l m) 0) (g93 (dirA l m) 0) (g94 (dirA l m) 0) (g95 (dirA l m) 0) (g96 (dirA l m) 0) (by assumption)) ?_
          refine runDf g'10 ?_
          refine call_x (by kernel_rfl) (by simp) (tracedf_c _ l m (farF r g)) ?_
          refine runDf g'10 ?_
          refine inv_of (hJ _ _ ⟨_, _, _, ⟨rfl, rfl⟩, Abs.byG hbel [] rfl [0, 2, 3, 5] (by decide) ?_⟩)
          exact absRf (jn @r9_append (jn @r9_cons (jn @r9_nil @mvs_r9)))
      rintro F2 H2 ⟨rfl, rfl⟩
      refine AW_fin false try_mixed (by kernel_rfl) ?_
      have g'11 := (jn @r9_len (jn @r9_one (jn @prs_len (jn @prs_one g'4))))
      refine runTf g'11 ?_
      refine go_loop try_mixed (by kernel_rfl) (fun k F Hx => ∃ j : Nat, j + k = (fstL l m (farF r g)).length ∧ F = [(4, .ptr (some (H.length, 0))), (9, .ptr (some (H.length + 1, 0))), (10, .sl (some (H.length + 2, 0)) ((dirA l m).length) (capG (dirA l m).length)), (13, .sl (some (H.length + 4, 0)) ((((fstL l m (farF r g)).take j).filter (okcB W Hh l m (farF r g))).length) (capG (((fstL l m (farF r g)).take j).filter (okcB W Hh l m (farF r g))).length)), (49, .sl (some (H.length + 3, 0)) ((fstL l m (farF r g)).length) (capG (fstL l m (farF r g)).length)), (50, .int .i64 (((fstL l m (farF r g)).length : Nat) : Int)), (51, .int .i64 ((j : Nat) : Int))] ∧ Hx = H ++ [.cells true 0 [.int .i64 W, .int .i64 Hh, .sl (some (bpp, 0)) xs.length cpp], .cells true 0 [.int .i64 (farF r g)], .cells (ownG (dirA l m).length) 9 (r9 (dirA l m)), .cells (ownG (fstL l m (farF r g)).length) 2 (prs (fstL l m (farF r g))), .cells (ownG (((fstL l m (farF r g)).take j).filter (okcB W Hh l m (farF r g))).length) 2 (prs (((fstL l m (farF r g)).take j).filter (okcB W Hh l m (farF r g))))]) ((fstL l m (farF r g)).length) ?_ ?_
      · refine ⟨_, _, _, ⟨0, by omega, rfl, rfl⟩, Abs.byG hbel [.cells false 2 []] rfl [0, 1, 2, 3, 4] (by decide) ?_⟩
        exact absRf (jn @List.take_zero.{0} (jn @List.filter_nil.{0} (jn @r9_append (jn @r9_cons (jn @r9_nil @mvs_r9)))))
      · rintro k0 F Hx ⟨j, hm0, rfl, rfl⟩ J0 hJ0
        refine runTf g'11 ?_
        refine cond_split (fun h11 => ?_) (fun h11 => ?_)
        · have h11d := bsT h11
          have hlt : j < (fstL l m (farF r g)).length := by omega
          have hpr := (pr_eq hlt).symm
          have hst := flt_step (p := (okcB W Hh l m (farF r g))) hlt
          have hfln := flt_len (p := (okcB W Hh l m (farF r g))) (l := (fstL l m (farF r g))) (j := j)
          have q12 := prs_load (l := fstL l m (farF r g)) (j := j) (by omega)
          have g'12 := (jn @h11 (jn @h11d (jn @q12 g'11)))
          refine runTf g'12 ?_
          rcases Bool.eq_false_or_eq_true (sqO (g1 (fstL l m (farF r g)) j) (g2 (fstL l m (farF r g)) j)) with h13 | h13
          · have h13d := h13
            have hsq := h13d
            refine call_v (by kernel_rfl) (psqr_t _ (g1 (fstL l m (farF r g)) j) (g2 (fstL l m (farF r g)) j) (by assumption)) ?_
            have g'13 := (jn @h13 (jn @h13d g'12))
            refine runTf g'13 ?_
            refine call_v (by kernel_rfl) (kwithin_c _ (g1 (fstL l m (farF r g)) j) 0 (W - 1)) ?_
            refine runTf g'13 ?_
            refine gd_split (fun h14 => ?_) (fun h14 => ?_)
            · have h14d := bsT h14
              have hbx := h14d
              have g'14 := (jn @h14 (jn @h14d g'13))
              refine runTf g'14 ?_
              refine call_v (by kernel_rfl) (kwithin_c _ (g2 (fstL l m (farF r g)) j) 0 (Hh - 1)) ?_
              refine runTf g'14 ?_
              refine gd_split (fun h15 => ?_) (fun h15 => ?_)
              · have h15d := bsT h15
                have hby := h15d
                have g'15 := (jn @h15 (jn @h15d g'14))
                refine runTf g'15 ?_
                refine call_v (by kernel_rfl) (has_r _ _ (dirA l m) ⟨_, _, _, by first | rfl | (rw [List.length_append]; done) | (rw [List.length_append]; rfl), by first | rfl | (rw [get_newk]; rfl) | (rw [get_new0]; rfl) | (rw [get_newk, prs_append]; rfl) | (rw [get_new0, prs_append]; rfl)⟩ (by omega) _ [.ptr (some (H.length + 6, 0)), .ptr (some (H.length + 1, 0))] (by kernel_rfl) (by simp [AV.bels, AV.bel]) (fun e => !psC e (farF r g) (g1 (fstL l m (farF r g)) j, g2 (fstL l m (farF r g)) j)) (fun j' hj' => kprv1_c _ _ _ _ _ _ _ _ _ _ _ _ _ _ _ _ _ ⟨_, by first | (rw [get_newk]; rfl) | (rw [get_new0]; rfl)⟩ ⟨_, by first | (rw [get_newk]; rfl) | (rw [get_new0]; rfl)⟩ (hpair _ hj'))) ?_
                refine runTf g'15 ?_
                refine cond_split (fun h16 => ?_) (fun h16 => ?_)
                · have h16d := bsT h16
                  have hok : okcB W Hh l m (farF r g) (g1 (fstL l m (farF r g)) j, g2 (fstL l m (farF r g)) j) = true := by unfold okcB prvB; rw [hbx, hby, List.all_eq_not_any_not, h16d]; rfl
                  rw [hpr, if_pos hok] at hst
                  have g'16 := (jn @h16 (jn @h16d (jn @capG_s g'15)))
                  refine runTf g'16 ?_
                  refine hJ0 _ _ ⟨k0 - 1, by omega, _, _, _, ⟨j + 1, by omega, rfl, rfl⟩, Abs.byG hbel [] rfl [0, 1, 2, 3, 8] (by decide) ?_⟩
                  exact absRf (jn @hst (jn @r9_append (jn @r9_cons (jn @r9_nil @mvs_r9))))
                · have h16d := bsT h16
                  have hok : okcB W Hh l m (farF r g) (g1 (fstL l m (farF r g)) j, g2 (fstL l m (farF r g)) j) = false := by unfold okcB prvB; rw [hbx, hby, List.all_eq_not_any_not, h16d]; rfl
                  rw [hpr, if_neg (by rw [hok]; decide), List.append_nil] at hst
                  have g'17 := (jn @h16 (jn @h16d g'15))
                  refine runTf g'17 ?_
                  refine hJ0 _ _ ⟨k0 - 1, by omega, _, _, _, ⟨j + 1, by omega, rfl, rfl⟩, Abs.byG hbel [] rfl [0, 1, 2, 3, 4] (by decide) ?_⟩
                  exact absRf (jn @hst (jn @r9_append (jn @r9_cons (jn @r9_nil @mvs_r9))))
              · have h15d := bsT h15
                have hok : okcB W Hh l m (farF r g) (g1 (fstL l m (farF r g)) j, g2 (fstL l m (farF r g)) j) = false := by unfold okcB; rw [hbx, h15d]; rfl
                rw [hpr, if_neg (by rw [hok]; decide), List.append_nil] at hst
                have g'18 := (jn @h15 (jn @h15d g'14))
                refine runTf g'18 ?_
                refine hJ0 _ _ ⟨k0 - 1, by omega, _, _, _, ⟨j + 1, by omega, rfl, rfl⟩, Abs.byG hbel [] rfl [0, 1, 2, 3, 4] (by decide) ?_⟩
                exact absRf (jn @hst (jn @r9_append (jn @r9_cons (jn @r9_nil @mvs_r9))))
            · have h14d := bsT h14
              have hok : okcB W Hh l m (farF r g) (g1 (fstL l m (farF r g)) j, g2 (fstL l m (farF r g)) j) = false := by unfold okcB; rw [h14d]; rfl
              rw [hpr, if_neg (by rw [hok]; decide), List.append_nil] at hst
              have g'19 := (jn @h14 (jn @h14d g'13))
              refine runTf g'19 ?_
              refine hJ0 _ _ ⟨k0 - 1, by omega, _, _, _, ⟨j + 1, by omega, rfl, rfl⟩, Abs.byG hbel [] rfl [0, 1, 2, 3, 4] (by decide) ?_⟩
              exact absRf (jn @hst (jn @r9_append (jn @r9_cons (jn @r9_nil @mvs_r9))))
          · have h13d := h13
            have hsq := h13d
            refine call_v (by kernel_rfl) (psqr_f _ (g1 (fstL l m (farF r g)) j) (g2 (fstL l m (farF r g)) j) (by assumption)) ?_
            have g'20 := (jn @h13 (jn @h13d g'12))
            refine runTf g'20 ?_
            refine call_v (by kernel_rfl) (kwithin_c _ (g1 (fstL l m (farF r g)) j) 0 (W - 1)) ?_
            refine runTf g'20 ?_
            refine gd_split (fun h17 => ?_) (fun h17 => ?_)
            · have h17d := bsT h17
              have hbx := h17d
              have g'21 := (jn @h17 (jn @h17d g'20))
              refine runTf g'21 ?_
              refine call_v (by kernel_rfl) (kwithin_c _ (g2 (fstL l m (farF r g)) j) 0 (Hh - 1)) ?_
              refine runTf g'21 ?_
              refine gd_split (fun h18 => ?_) (fun h18 => ?_)
              · have h18d := bsT h18
                have hby := h18d
                have hq1 := btw_iff.1 hbx
                have hq2 := btw_iff.1 hby
                exact absurd (show sqO (g1 (fstL l m (farF r g)) j) (g2 (fstL l m (farF r g)) j) = true by unfold sqO; rw [Bool.and_eq_true, within_iff, within_iff]; omega) (by rw [hsq]; decide)
              · have h18d := bsT h18
                have hok : okcB W Hh l m (farF r g) (g1 (fstL l m (farF r g)) j, g2 (fstL l m (farF r g)) j) = false := by unfold okcB; rw [hbx, h18d]; rfl
                rw [hpr, if_neg (by rw [hok]; decide), List.append_nil] at hst
                have g'22 := (jn @h18 (jn @h18d g'21))
                refine runTf g'22 ?_
                refine hJ0 _ _ ⟨k0 - 1, by omega, _, _, _, ⟨j + 1, by omega, rfl, rfl⟩, Abs.byG hbel [] rfl [0, 1, 2, 3, 4] (by decide) ?_⟩
                exact absRf (jn @hst (jn @r9_append (jn @r9_cons (jn @r9_nil @mvs_r9))))
            · have h17d := bsT h17
              have hok : okcB W Hh l m (farF r g) (g1 (fstL l m (farF r g)) j, g2 (fstL l m (farF r g)) j) = false := by unfold okcB; rw [h17d]; rfl
              rw [hpr, if_neg (by rw [hok]; decide), List.append_nil] at hst
              have g'23 := (jn @h17 (jn @h17d g'20))
              refine runTf g'23 ?_
              refine hJ0 _ _ ⟨k0 - 1, by omega, _, _, _, ⟨j + 1, by omega, rfl, rfl⟩, Abs.byG hbel [] rfl [0, 1, 2, 3, 4] (by decide) ?_⟩
              exact absRf (jn @hst (jn @r9_append (jn @r9_cons (jn @r9_nil @mvs_r9))))
        · have h11d := bsT h11
          obtain rfl : j = (fstL l m (farF r g)).length := by omega
          have hfinL : ((fstL l m (farF r g)).take (fstL l m (farF r g)).length).filter (okcB W Hh l m (farF r g)) = prvL W Hh l m r g := by rw [List.take_length]; exact (if_neg hfar).symm
          have g'24 := (jn @h11 (jn @h11d g'11))
          refine runTf g'24 ?_
          refine hQ _ _ (end_byG (.inl rfl) hbel (x1 := .sl (some (H.length + 4, 0)) ((((fstL l m (farF r g)).take (fstL l m (farF r g)).length).filter (okcB W Hh l m (farF r g))).length) (capG (((fstL l m (farF r g)).take (fstL l m (farF r g)).length).filter (okcB W Hh l m (farF r g))).length)) (l2 := [.cells (ownG (((fstL l m (farF r g)).take (fstL l m (farF r g)).length).filter (okcB W Hh l m (farF r g))).length) 2 (prs (((fstL l m (farF r g)).take (fstL l m (farF r g)).length).filter (okcB W Hh l m (farF r g))))]) (.sl (some (H.length, 0)) ((((fstL l m (farF r g)).take (fstL l m (farF r g)).length).filter (okcB W Hh l m (farF r g))).length) (capG (((fstL l m (farF r g)).take (fstL l m (farF r g)).length).filter (okcB W Hh l m (farF r g))).length)) (resT Tryz.results168) [] rfl [4] (by decide) ⟨by first | (rw [hfinL]; done) | (rw [hfinL]; rfl), by first | (rw [hfinL]; done) | (rw [hfinL]; rfl)⟩ ?_)
          exact absW
  · have h1d := bsT h1
    have h1n := bnT h1
    have hr1 : ¬ r = -1 := by simpa using h1d
    have hsf1 : r - g = farF r g := (if_neg hr1).symm
    have g'25 := (jn @h1 (jn @h1n (jn @int_bne (jn @int_beq (jn @hsf1 g'1)))))
    refine runTf g'25 ?_
    refine hn3 _ _ ?_
    refine AW_seqQ fun Q6 hn6 hr6 he6 => ?_
    have hQ6 := fun F H' h => hr6 F H' (hQ F H' h)
    refine AW_fin false try_mixed (by kernel_rfl) ?_
    refine runTf g'25 ?_
    refine cond_split (fun h19 => ?_) (fun h19 => ?_)
    · have h19d := bsT h19
      have hfinL : prvL W Hh l m r g = [] := if_pos h19d
      have g'26 := (jn @h19 (jn @h19d g'25))
      refine runTf g'26 ?_
      refine hQ6 _ _ (end_byG (.inl rfl) hbel (x1 := .sl none 0 (some 0)) (l2 := [.cells false 2 []]) (.sl (some (H.length, 0)) 0 (some 0)) (resT Tryz.results168) [.cells false 2 []] rfl [3] (by decide) ⟨by first | (rw [hfinL]; done) | (rw [hfinL]; rfl), by first | (rw [hfinL]; done) | (rw [hfinL]; rfl)⟩ ?_)
      exact absW
    · have h19d := bsT h19
      have hfar := h19d
      have g'27 := (jn @h19 (jn @h19d g'25))
      refine runTf g'27 ?_
      refine hn6 _ _ ?_
      refine AW_seqQ fun Q7 hn7 hr7 he7 => ?_
      have hQ7 := fun F H' h => hr7 F H' (hQ F H' h)
      refine AW_fin false try_mixed (by kernel_rfl) ?_
      refine runTf g'27 ?_
      refine call_v (by kernel_rfl) (directed_c _ _ l m r ⟨_, _, _, rfl, by first | exact hb0s _ | exact hbs⟩ (by assumption)) ?_
      refine runTf g'27 ?_
      refine hn7 _ _ ?_
      refine AW_specialZ false try_mixed [[0, 1, 2, 3, 4, 5, 6, 7, 8, 9, 10, 11, 12, 13, 14, 15, 16, 17], [0, 1, 2, 3, 7, 8, 9, 11, 4, 5, 6, 10, 12, 13, 14, 15, 16, 17], [0, 1, 2, 3, 7, 8, 9, 10, 4, 5, 6, 11, 12, 13, 14, 15, 16, 17], [0, 1, 2, 3, 7, 8, 9, 10, 11, 4, 5, 6, 12, 13, 14, 15, 16, 17]] (by kernel_rfl) (fun F2 H2 => F2 = [(4, .ptr (some (H.length, 0))), (8, .sl none 0 (some 0)), (9, .ptr (some (H.length + 1, 0))), (10, .sl (some (H.length + 2, 0)) ((dirA l m).length) (capG (dirA l m).length)), (11, .sl (some (H.length + 3, 0)) ((fstL l m (farF r g)).length) (capG (fstL l m (farF r g)).length))] ∧ H2 = H ++ [.cells true 0 [.int .i64 W, .int .i64 Hh, .sl (some (bpp, 0)) xs.length cpp], .cells true 0 [.int .i64 (farF r g)], .cells (ownG (dirA l m).length) 9 (r9 (dirA l m)), .cells (ownG (fstL l m (farF r g)).length) 2 (prs (fstL l m (farF r g)))]) ?_ ?_
      · refine reps_cons ?_ (reps_cons ?_ (reps_cons ?_ (reps_cons ?_ (reps_nil)))) <;> intro J hJ
        · skip
          have q20 := r9_q0 (l := dirA l m) (by omega)
          have g'28 := (jn @r9_len (jn @q20 g'27))
          refine runDf g'28 ?_
          refine call_x (by kernel_rfl) (by simp) (corners_c _ (g91 (dirA l m) 0) (g92 (dirA l m) 0) (g93 (dirA l m) 0) (g94 (dirA l m) 0) (g95 (dirA l m) 0) (g96 (dirA l m) 0) (by assumption)) ?_
          have q21 := r9_q6 (l := dirA l m) (by omega)
          have g'29 := (jn @q21 g'28)
          refine runDf g'29 ?_
          refine call_x (by kernel_rfl) (by simp) (tracedf_c _ l m (farF r g)) ?_
          refine runDf g'29 ?_
          refine inv_of (hJ _ _ ⟨_, _, _, ⟨rfl, rfl⟩, Abs.byG hbel [] rfl [0, 2, 3, 5] (by decide) ?_⟩)
          exact absRf (jn @r9_append (jn @r9_cons (jn @r9_nil @mvs_r9)))
        · skip
          have q22 := r9_q0 (l := dirA l m) (by omega)
          have g'30 := (jn @r9_len (jn @q22 g'27))
          refine runDf g'30 ?_
          refine call_x (by kernel_rfl) (by simp) (corners_c _ (g91 (dirA l m) 0) (g92 (dirA l m) 0) (g93 (dirA l m) 0) (g94 (dirA l m) 0) (g95 (dirA l m) 0) (g96 (dirA l m) 0) (by assumption)) ?_
          have q23 := r9_q6 (l := dirA l m) (by omega)
          have g'31 := (jn @q23 g'30)
          refine runDf g'31 ?_
          refine call_x (by kernel_rfl) (by simp) (tracedf_c _ l m (farF r g)) ?_
          refine runDf g'31 ?_
          refine inv_of (hJ _ _ ⟨_, _, _, ⟨rfl, rfl⟩, Abs.byG hbel [] rfl [0, 2, 3, 5] (by decide) ?_⟩)
          exact absRf (jn @r9_append (jn @r9_cons (jn @r9_nil @mvs_r9)))
        · skip
          have q24 := r9_q0 (l := dirA l m) (by omega)
          have q25 := r9_q6 (l := dirA l m) (by omega)
          have g'32 := (jn @r9_len (jn @q24 (jn @q25 g'27)))
          refine runDf g'32 ?_
          refine call_x (by kernel_rfl) (by simp) (corners_c _ (g91 (dirA l m) 0) (g92 (dirA l m) 0) (g93 (dirA l m) 0) (g94 (dirA l m) 0) (g95 (dirA l m) 0) (g96 (dirA l m) 0) (by assumption)) ?_
          refine runDf g'32 ?_
          refine call_x (by kernel_rfl) (by simp) (tracedf_c _ l m (farF r g)) ?_
          refine runDf g'32 ?_
          refine inv_of (hJ _ _ ⟨_, _, _, ⟨rfl, rfl⟩, Abs.byG hbel [] rfl [0, 2, 3, 5] (by decide) ?_⟩)
          exact absRf (jn @r9_append (jn @r9_cons (jn @r9_nil @mvs_r9)))
        · skip
          have q26 := r9_q0 (l := dirA l m) (by omega)
          have q27 := r9_q6 (l := dirA l m) (by omega)
          have g'33 := (jn @r9_len (jn @q26 (jn @q27 g'27)))
          refine runDf g'33 ?_
          refine call_x (by kernel_rfl) (by simp) (corners_c _ (g91 (dirA l m) 0) (g92 (dirA l m) 0) (g93 (dirA l m) 0) (g94 (dirA l m) 0) (g95 (dirA l m) 0) (g96 (dirA l m) 0) (by assumption)) ?_
          refine runDf g'33 ?_
          refine call_x (by kernel_rfl) (by simp) (tracedf_c _ l m (farF r g)) ?_
          refine runDf g'33 ?_
          refine inv_of (hJ _ _ ⟨_, _, _, ⟨rfl, rfl⟩, Abs.byG hbel [] rfl [0, 2, 3, 5] (by decide) ?_⟩)
          exact absRf (jn @r9_append (jn @r9_cons (jn @r9_nil @mvs_r9)))
      rintro F2 H2 ⟨rfl, rfl⟩
      refine AW_fin false try_mixed (by kernel_rfl) ?_
      have g'34 := (jn @r9_len (jn @r9_one (jn @prs_len (jn @prs_one g'27))))
      refine runTf g'34 ?_
      refine go_loop try_mixed (by kernel_rfl) (fun k F Hx => ∃ j : Nat, j + k = (fstL l m (farF r g)).length ∧ F = [(4, .ptr (some (H.length, 0))), (9, .ptr (some (H.length + 1, 0))), (10, .sl (some (H.length + 2, 0)) ((dirA l m).length) (capG (dirA l m).length)), (13, .sl (some (H.length + 4, 0)) ((((fstL l m (farF r g)).take j).filter (okcB W Hh l m (farF r g))).length) (capG (((fstL l m (farF r g)).take j).filter (okcB W Hh l m (farF r g))).length)), (49, .sl (some (H.length + 3, 0)) ((fstL l m (farF r g)).length) (capG (fstL l m (farF r g)).length)), (50, .int .i64 (((fstL l m (farF r g)).length : Nat) : Int)), (51, .int .i64 ((j : Nat) : Int))] ∧ Hx = H ++ [.cells true 0 [.int .i64 W, .int .i64 Hh, .sl (some (bpp, 0)) xs.length cpp], .cells true 0 [.int .i64 (farF r g)], .cells (ownG (dirA l m).length) 9 (r9 (dirA l m)), .cells (ownG (fstL l m (farF r g)).length) 2 (prs (fstL l m (farF r g))), .cells (ownG (((fstL l m (farF r g)).take j).filter (okcB W Hh l m (farF r g))).length) 2 (prs (((fstL l m (farF r g)).take j).filter (okcB W Hh l m (farF r g))))]) ((fstL l m (farF r g)).length) ?_ ?_
      · refine ⟨_, _, _, ⟨0, by omega, rfl, rfl⟩, Abs.byG hbel [.cells false 2 []] rfl [0, 1, 2, 3, 4] (by decide) ?_⟩
        exact absRf (jn @List.take_zero.{0} (jn @List.filter_nil.{0} (jn @r9_append (jn @r9_cons (jn @r9_nil @mvs_r9)))))
      · rintro k0 F Hx ⟨j, hm0, rfl, rfl⟩ J0 hJ0
        refine runTf g'34 ?_
        refine cond_split (fun h28 => ?_) (fun h28 => ?_)
        · have h28d := bsT h28
          have hlt : j < (fstL l m (farF r g)).length := by omega
          have hpr := (pr_eq hlt).symm
          have hst := flt_step (p := (okcB W Hh l m (farF r g))) hlt
          have hfln := flt_len (p := (okcB W Hh l m (farF r g))) (l := (fstL l m (farF r g))) (j := j)
          have q29 := prs_load (l := fstL l m (farF r g)) (j := j) (by omega)
          have g'35 := (jn @h28 (jn @h28d (jn @q29 g'34)))
          refine runTf g'35 ?_
          rcases Bool.eq_false_or_eq_true (sqO (g1 (fstL l m (farF r g)) j) (g2 (fstL l m (farF r g)) j)) with h30 | h30
          · have h30d := h30
            have hsq := h30d
            refine call_v (by kernel_rfl) (psqr_t _ (g1 (fstL l m (farF r g)) j) (g2 (fstL l m (farF r g)) j) (by assumption)) ?_
            have g'36 := (jn @h30 (jn @h30d g'35))
            refine runTf g'36 ?_
            refine call_v (by kernel_rfl) (kwithin_c _ (g1 (fstL l m (farF r g)) j) 0 (W - 1)) ?_
            refine runTf g'36 ?_
            refine gd_split (fun h31 => ?_) (fun h31 => ?_)
            · have h31d := bsT h31
              have hbx := h31d
              have g'37 := (jn @h31 (jn @h31d g'36))
              refine runTf g'37 ?_
              refine call_v (by kernel_rfl) (kwithin_c _ (g2 (fstL l m (farF r g)) j) 0 (Hh - 1)) ?_
              refine runTf g'37 ?_
              refine gd_split (fun h32 => ?_) (fun h32 => ?_)
              · have h32d := bsT h32
                have hby := h32d
                have g'38 := (jn @h32 (jn @h32d g'37))
                refine runTf g'38 ?_
                refine call_v (by kernel_rfl) (has_r _ _ (dirA l m) ⟨_, _, _, by first | rfl | (rw [List.length_append]; done) | (rw [List.length_append]; rfl), by first | rfl | (rw [get_newk]; rfl) | (rw [get_new0]; rfl) | (rw [get_newk, prs_append]; rfl) | (rw [get_new0, prs_append]; rfl)⟩ (by omega) _ [.ptr (some (H.length + 6, 0)), .ptr (some (H.length + 1, 0))] (by kernel_rfl) (by simp [AV.bels, AV.bel]) (fun e => !psC e (farF r g) (g1 (fstL l m (farF r g)) j, g2 (fstL l m (farF r g)) j)) (fun j' hj' => kprv1_c _ _ _ _ _ _ _ _ _ _ _ _ _ _ _ _ _ ⟨_, by first | (rw [get_newk]; rfl) | (rw [get_new0]; rfl)⟩ ⟨_, by first | (rw [get_newk]; rfl) | (rw [get_new0]; rfl)⟩ (hpair _ hj'))) ?_
                refine runTf g'38 ?_
                refine cond_split (fun h33 => ?_) (fun h33 => ?_)
                · have h33d := bsT h33
                  have hok : okcB W Hh l m (farF r g) (g1 (fstL l m (farF r g)) j, g2 (fstL l m (farF r g)) j) = true := by unfold okcB prvB; rw [hbx, hby, List.all_eq_not_any_not, h33d]; rfl
                  rw [hpr, if_pos hok] at hst
                  have g'39 := (jn @h33 (jn @h33d (jn @capG_s g'38)))
                  refine runTf g'39 ?_
                  refine hJ0 _ _ ⟨k0 - 1, by omega, _, _, _, ⟨j + 1, by omega, rfl, rfl⟩, Abs.byG hbel [] rfl [0, 1, 2, 3, 8] (by decide) ?_⟩
                  exact absRf (jn @hst (jn @r9_append (jn @r9_cons (jn @r9_nil @mvs_r9))))
                · have h33d := bsT h33
                  have hok : okcB W Hh l m (farF r g) (g1 (fstL l m (farF r g)) j, g2 (fstL l m (farF r g)) j) = false := by unfold okcB prvB; rw [hbx, hby, List.all_eq_not_any_not, h33d]; rfl
                  rw [hpr, if_neg (by rw [hok]; decide), List.append_nil] at hst
                  have g'40 := (jn @h33 (jn @h33d g'38))
                  refine runTf g'40 ?_
                  refine hJ0 _ _ ⟨k0 - 1, by omega, _, _, _, ⟨j + 1, by omega, rfl, rfl⟩, Abs.byG hbel [] rfl [0, 1, 2, 3, 4] (by decide) ?_⟩
                  exact absRf (jn @hst (jn @r9_append (jn @r9_cons (jn @r9_nil @mvs_r9))))
              · have h32d := bsT h32
                have hok : okcB W Hh l m (farF r g) (g1 (fstL l m (farF r g)) j, g2 (fstL l m (farF r g)) j) = false := by unfold okcB; rw [hbx, h32d]; rfl
                rw [hpr, if_neg (by rw [hok]; decide), List.append_nil] at hst
                have g'41 := (jn @h32 (jn @h32d g'37))
                refine runTf g'41 ?_
                refine hJ0 _ _ ⟨k0 - 1, by omega, _, _, _, ⟨j + 1, by omega, rfl, rfl⟩, Abs.byG hbel [] rfl [0, 1, 2, 3, 4] (by decide) ?_⟩
                exact absRf (jn @hst (jn @r9_append (jn @r9_cons (jn @r9_nil @mvs_r9))))
            · have h31d := bsT h31
              have hok : okcB W Hh l m (farF r g) (g1 (fstL l m (farF r g)) j, g2 (fstL l m (farF r g)) j) = false := by unfold okcB; rw [h31d]; rfl
              rw [hpr, if_neg (by rw [hok]; decide), List.append_nil] at hst
              have g'42 := (jn @h31 (jn @h31d g'36))
              refine runTf g'42 ?_
              refine hJ0 _ _ ⟨k0 - 1, by omega, _, _, _, ⟨j + 1, by omega, rfl, rfl⟩, Abs.byG hbel [] rfl [0, 1, 2, 3, 4] (by decide) ?_⟩
              exact absRf (jn @hst (jn @r9_append (jn @r9_cons (jn @r9_nil @mvs_r9))))
          · have h30d := h30
            have hsq := h30d
            refine call_v (by kernel_rfl) (psqr_f _ (g1 (fstL l m (farF r g)) j) (g2 (fstL l m (farF r g)) j) (by assumption)) ?_
            have g'43 := (jn @h30 (jn @h30d g'35))
            refine runTf g'43 ?_
            refine call_v (by kernel_rfl) (kwithin_c _ (g1 (fstL l m (farF r g)) j) 0 (W - 1)) ?_
            refine runTf g'43 ?_
            refine gd_split (fun h34 => ?_) (fun h34 => ?_)
            · have h34d := bsT h34
              have hbx := h34d
              have g'44 := (jn @h34 (jn @h34d g'43))
              refine runTf g'44 ?_
              refine call_v (by kernel_rfl) (kwithin_c _ (g2 (fstL l m (farF r g)) j) 0 (Hh - 1)) ?_
              refine runTf g'44 ?_
              refine gd_split (fun h35 => ?_) (fun h35 => ?_)
              · have h35d := bsT h35
                have hby := h35d
                have hq1 := btw_iff.1 hbx
                have hq2 := btw_iff.1 hby
                exact absurd (show sqO (g1 (fstL l m (farF r g)) j) (g2 (fstL l m (farF r g)) j) = true by unfold sqO; rw [Bool.and_eq_true, within_iff, within_iff]; omega) (by rw [hsq]; decide)
              · have h35d := bsT h35
                have hok : okcB W Hh l m (farF r g) (g1 (fstL l m (farF r g)) j, g2 (fstL l m (farF r g)) j) = false := by unfold okcB; rw [hbx, h35d]; rfl
                rw [hpr, if_neg (by rw [hok]; decide), List.append_nil] at hst
                have g'45 := (jn @h35 (jn @h35d g'44))
                refine runTf g'45 ?_
                refine hJ0 _ _ ⟨k0 - 1, by omega, _, _, _, ⟨j + 1, by omega, rfl, rfl⟩, Abs.byG hbel [] rfl [0, 1, 2, 3, 4] (by decide) ?_⟩
                exact absRf (jn @hst (jn @r9_append (jn @r9_cons (jn @r9_nil @mvs_r9))))
            · have h34d := bsT h34
              have hok : okcB W Hh l m (farF r g) (g1 (fstL l m (farF r g)) j, g2 (fstL l m (farF r g)) j) = false := by unfold okcB; rw [h34d]; rfl
              rw [hpr, if_neg (by rw [hok]; decide), List.append_nil] at hst
              have g'46 := (jn @h34 (jn @h34d g'43))
              refine runTf g'46 ?_
              refine hJ0 _ _ ⟨k0 - 1, by omega, _, _, _, ⟨j + 1, by omega, rfl, rfl⟩, Abs.byG hbel [] rfl [0, 1, 2, 3, 4] (by decide) ?_⟩
              exact absRf (jn @hst (jn @r9_append (jn @r9_cons (jn @r9_nil @mvs_r9))))
        · have h28d := bsT h28
          obtain rfl : j = (fstL l m (farF r g)).length := by omega
          have hfinL : ((fstL l m (farF r g)).take (fstL l m (farF r g)).length).filter (okcB W Hh l m (farF r g)) = prvL W Hh l m r g := by rw [List.take_length]; exact (if_neg hfar).symm
          have g'47 := (jn @h28 (jn @h28d g'34))
          refine runTf g'47 ?_
          refine hQ _ _ (end_byG (.inl rfl) hbel (x1 := .sl (some (H.length + 4, 0)) ((((fstL l m (farF r g)).take (fstL l m (farF r g)).length).filter (okcB W Hh l m (farF r g))).length) (capG (((fstL l m (farF r g)).take (fstL l m (farF r g)).length).filter (okcB W Hh l m (farF r g))).length)) (l2 := [.cells (ownG (((fstL l m (farF r g)).take (fstL l m (farF r g)).length).filter (okcB W Hh l m (farF r g))).length) 2 (prs (((fstL l m (farF r g)).take (fstL l m (farF r g)).length).filter (okcB W Hh l m (farF r g))))]) (.sl (some (H.length, 0)) ((((fstL l m (farF r g)).take (fstL l m (farF r g)).length).filter (okcB W Hh l m (farF r g))).length) (capG (((fstL l m (farF r g)).take (fstL l m (farF r g)).length).filter (okcB W Hh l m (farF r g))).length)) (resT Tryz.results168) [] rfl [4] (by decide) ⟨by first | (rw [hfinL]; done) | (rw [hfinL]; rfl), by first | (rw [hfinL]; done) | (rw [hfinL]; rfl)⟩ ?_)
          exact absW
open Go.RowKit Go.Sort
set_option maxRecDepth 100000 in
theorem sortc_f {α : Type} [Inhabited α] (val : α → Int × Int) (cf : α → α → Int) (hO : SWO (ltOf cf)) (g : FuncId) (eg : ∀ args w, (callFunc g args).run Tryz.prog w = .ok (.enter g args) w)
    (hcmp : ∀ (x y : α) (W : World), Calls Tryz.prog g #[.agg #[.int .i64 (val x).1, .int .i64 (val x).2], .agg #[.int .i64 (val y).1, .int .i64 (val y).2]] W fun e w' => e = .returned (.int .i64 (cf x y)) ∧ ∃ q os', w' = grow (W.drewN q) os')
    {H : AHeap} {b n : Nat} {cap : Option Nat} {zs : List α} (hg : H[b]? = some (.cells true 2 (prs (zs.map val)))) (hn : n = zs.length) (h0 : 0 < n) (h1 : n ≤ 1000000) :
    ACalls Tryz.prog 169 [.sl (some (b, 0)) n cap, .fn g []] H
      (fun v H' => v = .tup [] ∧ ∃ ys : List α, ys.Perm zs ∧ ys.Pairwise (fun x y => ltOf cf y x = false) ∧ H' = H.set b (.cells true 2 (prs (ys.map val)))) := fun E w vs hE hv => by
  obtain ⟨v1, l1, rfl, k1, h1'⟩ := rels_cons hv
  obtain ⟨v2, l2, rfl, k2, h2'⟩ := rels_cons h1'
  obtain rfl := rels_nil h2'
  have hf : v2 = .func (.func g) #[] #[] := by
    cases k2 with
    | fn _ _ cs hl _ =>
      have : cs = #[] := by
        have : cs.size = 0 := hl.symm
        exact Array.eq_empty_of_size_eq_zero this
      rw [this]
  subst hf
  cases k1 with
  | nils _ _ _ _ => exact absurd h0 (Nat.lt_irrefl 0)
  | sl _ _ _ _ c a hb h2 h3 h4 h5 h6 =>
  have hc : c ≠ 0 := by omega
  obtain rfl := h5.resolve_left hc
  obtain ⟨m1, m2, -, -⟩ := hE.blk b _ hg
  obtain ⟨o1, o2, o3, o4, o5⟩ := m2 rfl
  have hpl : (prs (zs.map val)).length = zs.length * 2 := by rw [prs_len]; simp
  have hH : HoldsK (encP val) 2 w (E.loc b).blk (E.loc b).off zs.toArray := by
    show Holds id w _ _ (flatK (encP val) 2 zs.toArray)
    rw [flat_list]
    intro j hj
    have hj' : j < zs.length * 2 := by simpa [enc2_len] using hj
    refine ⟨?_, (o5 j (by omega)).2⟩
    have hx : (prs (zs.map val))[j]? = some (prs (zs.map val))[j] := List.getElem?_eq_getElem (by omega)
    obtain ⟨-, v, hv, hr⟩ := m1 j _ hx
    rw [hv]
    obtain ⟨u, hu, hru⟩ := (rels_prs (E := E) (zs.map val)).get hx
    have : ∀ (k : Nat) (l : List (Int × Int)) (y : AV) (v u : Value), (prs l)[k]? = some y → Rel E y v → (enc2 l)[k]? = some u → v = u := by
      intro k l
      induction l generalizing k with
      | nil => intro y v u h; simp [prs] at h
      | cons p l ih =>
        intro y v u h1 h2 h3
        match k with
        | 0 => simp [prs_cons, enc2] at h1 h3; subst h1 h3; exact rel_int h2
        | 1 => simp [prs_cons, enc2] at h1 h3; subst h1 h3; exact rel_int h2
        | k + 2 =>
          refine ih k y v u (by simpa [prs_cons] using h1) h2 ?_
          simpa [enc2] using h3
    have e := this j _ _ v u hx hr hu
    subst e
    simp [List.getElem!_eq_getElem?_getD, hu]
  have hcon := AnyQ.slices_SortFunc Tryz.sort169 2 Tryz.isAgg58 Tryz.sizeOf58 (encP val) (fun _ => rfl) (fun x v hv => by simp [encP] at hv; rcases hv with rfl | rfl <;> rfl) cf hO g #[] (E.loc b).blk (E.loc b).off c zs.toArray w eg
    (fun _ _ _ _ x y => by simpa [encP] using hcmp x y _) hH o2 (by simp; omega)
  change Calls Tryz.prog 169 _ _ _ at hcon
  have hsz : zs.toArray.size = n := by simp [hn]
  rw [hsz] at hcon
  refine hcon.mono fun e w' ⟨he, d', q, os, hp, hs, hw⟩ => ?_
  subst hw
  obtain ⟨p1, -, p3⟩ := hp
  have hperm : d'.toList.Perm zs := by
    have a1 : d'.extract 0 n = d' := by rw [← hsz, ← p1]; simp
    have a2 : zs.toArray.extract 0 n = zs.toArray := by rw [← hsz]; simp
    rw [a1, a2] at p3
    simpa using p3
  have hl : (d'.toList.map val).length = (zs.map val).length := by simp [hperm.length_eq]
  refine ⟨E, _, _, .tup [], he, ⟨rfl, d'.toList, hperm, ?_, rfl⟩, .refl E, .tup [] #[] rfl (fun i x v h => by simp at h), ?_⟩
  · rw [List.pairwise_iff_getElem]
    intro i j hi hj hij
    have := hs i j (Nat.zero_le _) hij (by have := hperm.length_eq; simp at hj this; omega)
    simp at hi hj
    simpa [hi, hj] using this
  · have hd : d' = d'.toList.toArray := by simp
    have e1 : sortWorldK (encP val) 2 w (E.loc b).blk (E.loc b).off q d' os = grow ((w.drewN q).setCells (E.loc b).blk (E.loc b).off (enc2 (d'.toList.map val))) os := by
      unfold sortWorldK
      congr 1
      show putRow id (Sort.ahead w q) _ _ (flatK (encP val) 2 d') = _
      rw [hd, flat_list]
      have := Lib.putRow_eq_setCells id w (E.loc b).blk (E.loc b).off (flatK (encP val) 2 zs.toArray) (enc2 (d'.toList.map val)) q hH (by rw [enc2_len, hl]; simp)
      simpa using this
    rw [e1]
    exact hE.putP hg hl os
open Go.RowKit Go.Sort
theorem or_h (a b : Int) (w : World) (blk off c : Nat) (h0 : w.cell? ⟨blk, off, none⟩ = some (.int .i64 a)) (h1 : w.cell? ⟨blk, off + 1, none⟩ = some (.int .i64 b)) :
    Calls Tryz.prog 255 #[.slice (some ⟨blk, off, none⟩) 2 c] w fun e w' => e = .returned (.int .i64 (if a = 0 then b else a)) ∧ w' = w := by
  have g0 : w.cell? ⟨blk, off + 0, none⟩ = some (.int .i64 a) := h0
  go_enter Tryz.func255, Tryz.ntmps255
  go_wp2
  go_loop [8] (fun i => ∃ k : Nat, k ≤ 2 ∧ i = .int .i64 k ∧ Hid ((1 ≤ k → a = 0) ∧ (2 ≤ k → b = 0))) (fun i => 2 - (intOf i).toNat)
  case atStart => exact ⟨0, by omega, rfl, ⟨fun h => by omega, fun h => by omega⟩⟩
  case round =>
    obtain ⟨k, hk, rfl, HK⟩ := hrel
    rcases (by omega : k = 0 ∨ k = 1 ∨ k = 2) with rfl | rfl | rfl
    · by_cases ha : a = 0
      · go_wp2
        go_round
        case rel => exact ⟨1, by omega, by go_num, ⟨fun _ => ha, fun h => by omega⟩⟩
        case measure => simp [intOf]
      · go_wp2
        go_ret
        exact ⟨ret_int (by first | rfl | (rw [if_neg ha])), rfl⟩
    · have ha := HK.out.1 (by omega)
      by_cases hb : b = 0
      · go_wp2
        go_round
        case rel => exact ⟨2, by omega, by go_num, ⟨fun _ => ha, fun h => hb⟩⟩
        case measure => simp [intOf]
      · go_wp2
        go_ret
        exact ⟨ret_int (by first | rfl | (rw [if_pos ha])), rfl⟩
    · have ha := HK.out.1 (by omega)
      have hb := HK.out.2 (by omega)
      go_wp2
      go_ret
      exact ⟨ret_int (by first | rfl | (rw [if_pos ha, hb])), rfl⟩
theorem cell_last (w : World) (cs : Array Value) (t B j : Nat) (hB : B = w.heap.size) : (w.alloc (.cells cs t)).cell? ⟨B, j, none⟩ = cs[j]? := by
  subst hB
  unfold World.cell?
  have : (w.alloc (.cells cs t)).heap[w.heap.size]? = some (.cells cs t) := by
    show (w.heap.push _)[w.heap.size]? = _
    rw [Array.getElem?_push, if_pos rfl]
  rw [this]; rfl
theorem cell_lastd (w : World) (cs : Array Value) (t B j : Nat) (hB : B = w.heap.size) : (w.alloc (.cells cs t)).drew.cell? ⟨B, j, none⟩ = cs[j]? := cell_last w cs t B j hB
/-- By (Y, X). -/
def cfC (a b : Pt) : Int := if cmpI a.2 b.2 = 0 then cmpI a.1 b.1 else cmpI a.2 b.2
set_option maxHeartbeats 20000000 in
theorem before_h (x y : Pt) (W : World) : Calls Tryz.prog 170 #[.agg #[.int .i64 x.1, .int .i64 x.2], .agg #[.int .i64 y.1, .int .i64 y.2]] W fun e w' => e = .returned (.int .i64 (cfC x y)) ∧ ∃ q os', w' = grow (W.drewN q) os' := by
  have hcon := compare_h
  have hcon2 : ∀ (w : World) (blk off c : Nat), w.cell? ⟨blk, off, none⟩ = some (.int .i64 (cmpI x.2 y.2)) → w.cell? ⟨blk, off + 1, none⟩ = some (.int .i64 (cmpI x.1 y.1)) →
    Calls Tryz.prog 255 #[.slice (some ⟨blk, off, none⟩) 2 c] w fun e w' => e = .returned (.int .i64 (cfC x y)) ∧ w' = w := by
    intro w blk off c h0 h1
    have k := or_h (cmpI x.2 y.2) (cmpI x.1 y.1) w blk off c h0 h1
    unfold cfC
    exact k
  go_enter Tryz.func170, Tryz.ntmps170
  go_wp2_with (first | (go_at_call 256; refine (hcon _ _ _).mono ?_; rintro e w' ⟨rfl, rfl⟩) | fail)
  go_region_held3 (fun w' => w'.cell? ⟨W.heap.size, 0, none⟩ = some (.int .i64 x.1) ∧ w'.cell? ⟨W.heap.size, 1, none⟩ = some (.int .i64 x.2) ∧ w'.cell? ⟨W.heap.size + 1, 0, none⟩ = some (.int .i64 y.1) ∧ w'.cell? ⟨W.heap.size + 1, 1, none⟩ = some (.int .i64 y.2)) (go_keep)
    (first
      | (go_at_call 256; refine (hcon _ _ _).mono ?_; rintro e w' ⟨rfl, rfl⟩)
      | (go_at_call 255; refine (hcon2 _ _ _ _ ?h1 ?h2).mono ?_; case h1 => first | exact (cell_last _ _ _ _ _ (by simp)).trans rfl | exact (cell_lastd _ _ _ _ _ (by simp)).trans rfl
         case h2 => first | exact (cell_last _ _ _ _ _ (by simp)).trans rfl | exact (cell_lastd _ _ _ _ _ (by simp)).trans rfl
         rintro e w' ⟨rfl, rfl⟩))
  go_wp2
  go_ret
  exact ⟨rfl, 1, _, by rw [alloc_eq_grow, alloc_eq_grow, alloc_eq_grow, grow_grow, grow_grow]; rfl⟩
theorem ltC_iff (x y : Pt) : ltOf cfC x y = decide (befP x y) := by
  rw [Bool.eq_iff_iff]
  unfold ltOf
  rw [decide_eq_true_eq, decide_eq_true_eq]
  unfold cfC cmpI befP
  repeat' split
  all_goals omega
theorem swoC : SWO (ltOf cfC) where
  irrefl x := by rw [ltC_iff, decide_eq_false_iff_not]; exact befP_irr
  trans x y z h1 h2 := by
    rw [ltC_iff, decide_eq_true_eq] at *
    exact befP_trans h1 h2
  ntrans x y z h1 h2 := by
    rw [ltC_iff, decide_eq_false_iff_not] at *
    unfold befP at *; omega
set_option maxRecDepth 100000 in
/-- Cells sorted by (Y, X). -/
theorem sortc_c (H : AHeap) (b : Nat) (cap : Option Nat) (l : List Pt) (hb : H[b]? = some (.cells true 2 (prs l))) (h0 : 0 < l.length) (h1 : l.length ≤ 1000000) :
    ACalls Tryz.prog 169 [.sl (some (b, 0)) l.length cap, .fn 170 []] H (fun v H' => v = .tup [] ∧ H' = H.set b (.cells true 2 (prs (srtC l)))) := by
  have eg : ∀ args w, (callFunc 170 args).run Tryz.prog w = .ok (.enter 170 args) w := enters_of Tryz.func170 (by kernel_rfl) rfl
  refine (sortc_f (α := Pt) id cfC swoC 170 eg (fun x y W => before_h x y W) (zs := l) (by rw [List.map_id]; exact hb) rfl h0 h1).mono ?_
  rintro v H' ⟨rfl, ys, hp, hs, rfl⟩
  have e : ys = srtC l := by
    refine sortP_eq (hp.trans (srtC_perm l).symm) (hs.imp fun {x y} h => ?_) (srtC_sorted l)
    rw [ltC_iff, decide_eq_false_iff_not] at h
    rcases leC_tot x y with k | k
    · exact k
    · unfold leC at k ⊢
      rcases k with k | k
      · exact .inl k.symm
      · exact absurd k h
  rw [List.map_id, e]
  exact ⟨rfl, rfl⟩
open Go.RowKit
theorem prs_load2 {l : List (Int × Int)} {i m : Nat} (h : i + m < l.length) : ((prs l).drop (i * 2 + m * 2)).take 2 = [.int .i64 (g1 l (i + m)), .int .i64 (g2 l (i + m))] := by
  rw [show i * 2 + m * 2 = (i + m) * 2 by omega]; exact prs_load h
/-- No two neighbours among the first i are equal. -/
def NoEq (l : List (Int × Int)) (i : Nat) : Prop := ∀ j : Nat, 1 ≤ j → (h : j < l.length) → j < i → l[j - 1]'(by omega) ≠ l[j]
theorem noeq_cpt {l : List (Int × Int)} : ∀ {i : Nat}, i ≤ l.length → NoEq l i → cptC (l.take i) = l.take i
  | 0, _, _ => rfl
  | 1, h, _ => cpt_1 (by rw [List.length_take]; omega)
  | i + 2, h, k => by
    rw [cpt_step (by omega) (by omega), noeq_cpt (i := i + 1) (by omega) (fun j h1 h2 h3 => k j h1 h2 (by omega)), if_neg (k (i + 1) (by omega) (by omega) (by omega)), ← List.take_succ_eq_append_getElem]
theorem padL_id (l : List (Int × Int)) : padL l.length l = l := by simp [padL]
set_option maxRecDepth 100000 in
theorem cpt_cell (H : AHeap) (b : Nat) (cap : Option Nat) (l : List (Int × Int)) (hb : H[b]? = some (.cells (ownG l.length) 2 (prs l))) (hl : l.length ≤ 1000000000) :
    ACalls Tryz.prog 171 [.sl (some (b, 0)) l.length cap] H (fun v H' => v = .sl (some (b, 0)) (cptC l).length none ∧ H' = H.set b (.cells (ownG l.length) 2 (prs (padL l.length (cptC l))))) := by
  have hbl := getElem?_lt hb
  have hset : ∀ X L, (H.set b X ++ L)[b]? = some X := fun X L => by rw [List.getElem?_append_left (by simpa using hbl), List.getElem?_set_self hbl]
  have hset0 : ∀ X, (H.set b X)[b]? = some X := fun X => List.getElem?_set_self hbl
  have hself : H.set b (.cells (ownG l.length) 2 (prs l)) = H := by
    refine List.ext_getElem? fun i => ?_
    rw [List.getElem?_set]
    split
    · rename_i e; subst e; first | exact hb.symm | (rw [if_pos hbl]; exact hb.symm)
    · rfl
  have hend : cptC l = l → H.set b (.cells (ownG l.length) 2 (prs (padL l.length (cptC l)))) = H := fun e => by rw [e, padL_id, hself]
  (refine ACalls_run try_mixed Tryz.func171 true _ rfl (Nat.le_of_ble_eq_true (by kernel_rfl)) (by kernel_rfl) ?_; intro hbel Q hQ hQ' c hc; unfold Tryz.f171 at hc; simp only [Option.some.injEq] at hc; subst hc; clear hQ')
  simp -implicitDefEqProofs (disch := omega) only [simprocAttr, amset, tyset, Function.comp_apply, one1, lenV, calleeOf, lateOk, belowV, aop, AV.ofValue, AV.ofCell, AV.cells, AV.flat, AV.one, arep, aBin, aAppend, aConv]
  refine cond_split (fun h1 => ?_) (fun h1 => ?_)
  · have h1d := of_decide_eq_true h1
    have e := cpt_1 (l := l) (by omega)
    simp -implicitDefEqProofs (disch := omega) only [h1, simprocAttr, amset, tyset, Function.comp_apply, one1, lenV, calleeOf, lateOk, belowV, aop, AV.ofValue, AV.ofCell, AV.cells, AV.flat, AV.one, arep, aBin, aAppend, aConv]
    exact hQ _ _ (end_byE (.inl rfl) hbel (x1 := .sl (some (b, 0)) l.length cap) (l2 := []) (.sl (some (b, 0)) (cptC l).length none) (resT Tryz.results171) [] rfl [] (by decide) ⟨rfl, by rw [List.append_nil, hend e]⟩ (by rw [e]; exact absW))
  · have h1d := of_decide_eq_false h1
    have hown : ownG l.length = true := ownG_p (by omega)
    rw [hown] at hb hself
    simp -implicitDefEqProofs (disch := omega) only [h1, simprocAttr, amset, tyset, Function.comp_apply, one1, lenV, calleeOf, lateOk, belowV, aop, AV.ofValue, AV.ofCell, AV.cells, AV.flat, AV.one, arep, aBin, aAppend, aConv]
    refine go_loop try_mixed (by kernel_rfl) (fun k F Hx => ∃ i : Nat, i + k = l.length ∧ 1 ≤ i ∧ NoEq l i ∧ F = [(0, .sl (some (b, 0)) l.length cap), (3, .int .i64 ((i : Nat) : Int))] ∧ H = Hx) (l.length - 1) ?_ ?_
    · refine ⟨_, _, _, ⟨1, by omega, by omega, fun j h2 h3 h4 => by omega, rfl, rfl⟩, Abs.by0 hbel ?_⟩
      exact absW
    · rintro k F Hx ⟨i, hik, hi1, hne, rfl, rfl⟩ J hJ
      by_cases hi : i < l.length
      · have hii : (i : Int) < (l.length : Int) := by omega
        have q1 := prs_load (l := l) (j := i) hi
        have q2 := prs_load (l := l) (j := i - 1) (by omega)
        have hsub : ((i : Int) - 1).toNat = i - 1 := by omega
        simp -implicitDefEqProofs (disch := omega) only [hii, hb, q1, q2, hsub, prs_len, prs_one, simprocAttr, amset, tyset, Function.comp_apply, one1, lenV, calleeOf, lateOk, belowV, aop, AV.ofValue, AV.ofCell, AV.cells, AV.flat, AV.one, arep, aBin, aAppend, aConv]
        repeat refine And.intro (by omega) ?_
        refine cond_split (fun h2 => ?_) (fun h2 => ?_)
        · have heq : l[i - 1]'(by omega) = l[i] := by
            simp only [Bool.and_eq_true, beq_iff_eq] at h2
            rw [← pr_eq hi, ← pr_eq (show i - 1 < l.length by omega), h2.1, h2.2]
          have hc0 : cptC (l.take (i + 1)) = l.take i := by rw [cpt_step hi1 hi, if_pos heq, List.append_nil, noeq_cpt (by omega) hne]
          have hcl : (cptC (l.take (i + 1))).length = i := by rw [hc0, List.length_take]; omega
          have hsl : ((i : Int) - 0).toNat = i := by omega
          simp -implicitDefEqProofs (disch := omega) only [h2, hb, prs_len, prs_one, simprocAttr, amset, tyset, Function.comp_apply, one1, lenV, calleeOf, lateOk, belowV, aop, AV.ofValue, AV.ofCell, AV.cells, AV.flat, AV.one, arep, aBin, aAppend, aConv]
          repeat refine And.intro (by omega) ?_
          refine go_loop try_mixed (by kernel_rfl) (fun k F Hx => ∃ (j c : Nat) (X : List (Int × Int)), j + k = l.length ∧ i + 1 ≤ j ∧ c = (cptC (l.take j)).length ∧ c < j ∧ X.length = l.length ∧ X.take c = cptC (l.take j) ∧ X.drop (j - 1) = l.drop (j - 1) ∧ F = [(0, .sl (some (b, 0)) l.length cap), (3, .int .i64 ((c : Nat) : Int)), (4, .sl (some (b, i * 2)) (l.length - i) none), (5, .int .i64 ((j - i : Nat) : Int))] ∧ Hx = H.set b (.cells true 2 (prs X))) (l.length - (i + 1)) ?_ ?_
          · refine ⟨_, _, _, ⟨i + 1, i, l, by omega, by omega, hcl.symm, by omega, rfl, hc0.symm, rfl, rfl, rfl⟩, Abs.by0e hself hbel ?_⟩
            have hi1' : ((i + 1 - i : Nat) : Int) = 1 := by omega
            exact absWf @hi1'
          · rintro k F Hx ⟨j, c, X, hjk, hij, hc, hcj, hXl, hXt, hXd, rfl, rfl⟩ J2 hJ2
            obtain ⟨G, hG⟩ : ∃ G, G = H.set b (.cells true 2 (prs X)) := ⟨_, rfl⟩
            have hGl : G.length = H.length := by rw [hG, List.length_set]
            have hG1 : ∀ L, (G ++ L)[b]? = some (.cells true 2 (prs X)) := fun L => by rw [hG]; exact hset _ _
            have hG0 : G[b]? = some (.cells true 2 (prs X)) := by rw [hG]; exact hset0 _
            have hbG : b < G.length := by omega
            have hGs0 : ∀ Y, G.set b Y = H.set b Y := fun Y => by rw [hG, List.set_set]
            have hGs : ∀ Y L, (G ++ L).set b Y = H.set b Y ++ L := fun Y L => by rw [List.set_append_left _ _ hbG, hG, List.set_set]
            rw [← hG]
            have hbelG : HBel H.length G := by rw [hG]; exact HBel.put hbel b bels_prs
            by_cases hj : j < l.length
            · have hjj : ((j - i : Nat) : Int) < ((l.length - i : Nat) : Int) := by omega
              have hXj : ∀ q, j - 1 ≤ q → (hq : q < l.length) → X[q]'(by omega) = l[q] := fun q h1 hq => by
                have := congrArg (fun m => m[q - (j - 1)]?) hXd
                simp only [List.getElem?_drop] at this
                rw [show j - 1 + (q - (j - 1)) = q by omega, List.getElem?_eq_getElem (by omega), List.getElem?_eq_getElem hq] at this
                exact Option.some.inj this
              have q3 := prs_load2 (l := X) (i := i) (m := j - i) (by omega)
              have q4 := prs_load2 (l := X) (i := i) (m := j - i - 1) (by omega)
              have hsub2 : (((j - i : Nat) : Int) - 1).toNat = j - i - 1 := by omega
              rw [show i + (j - i) = j by omega] at q3
              rw [show i + (j - i - 1) = j - 1 by omega] at q4
              simp -implicitDefEqProofs (disch := omega) only [hjj, hG1, hG0, q3, q4, hsub2, prs_len, prs_one, simprocAttr, amset, tyset, Function.comp_apply, one1, lenV, calleeOf, lateOk, belowV, aop, AV.ofValue, AV.ofCell, AV.cells, AV.flat, AV.one, arep, aBin, aAppend, aConv]
              repeat refine And.intro (by omega) ?_
              have hst := cpt_step (l := l) (j := j) (by omega) hj
              have hcX : c < X.length := by omega
              have hjj2 : ((j + 1 - i : Nat) : Int) = ((j - i : Nat) : Int) + 1 := by omega
              have hpj := pr_eq (l := X) (j := j) (by omega)
              have hpj1 := pr_eq (l := X) (j := j - 1) (by omega)
              have hp2 := prs_set2 (a := g1 X j) (b := g2 X j) hcX
              have hXd2 : X.drop j = l.drop j := by
                have := congrArg (fun m => m.drop 1) hXd
                simp only [List.drop_drop] at this
                rwa [show j - 1 + 1 = j by omega] at this
              refine cond_split (fun h3 => ?_) (fun h3 => ?_)
              · have hdif : ¬ l[j - 1]'(by omega) = l[j] := fun e => by
                  rw [← hXj (j - 1) (by omega) (by omega), ← hXj j (by omega) hj, ← hpj, ← hpj1] at e
                  simp only [Prod.mk.injEq] at e
                  rw [e.1, e.2] at h3
                  simp at h3
                rw [if_neg hdif] at hst
                have hl5 : (cptC (l.take (j + 1))).length = c + 1 := by rw [hst, List.length_append, hc]; rfl
                simp -implicitDefEqProofs (disch := omega) only [h3, hG1, hG0, hGs, hGs0, q3, hp2, prs_len, prs_one, simprocAttr, amset, tyset, Function.comp_apply, one1, lenV, calleeOf, lateOk, belowV, aop, AV.ofValue, AV.ofCell, AV.cells, AV.flat, AV.one, arep, aBin, aAppend, aConv]
                repeat refine And.intro (by omega) ?_
                refine hJ2 _ _ ⟨k - 1, by omega, _, _, _, ⟨j + 1, c + 1, X.set c (g1 X j, g2 X j), by omega, by omega, hl5.symm, by omega, by rw [List.length_set]; exact hXl, ?_, ?_, rfl, rfl⟩, Abs.byS0 (by rw [List.length_set]) (HBel.put hbel b bels_prs) ?_⟩
                · rw [hst, List.take_succ_eq_append_getElem (by rw [List.length_set]; exact hcX), List.getElem_set_self, List.take_set_of_le (Nat.le_refl _), hXt, hpj, hXj j (by omega) hj]
                · rw [show j + 1 - 1 = j by omega, List.drop_set_of_lt (by omega), hXd2]
                exact absWf (jn @hjj2 (jn @Int.natCast_add @Int.natCast_one))
              · have heq2 : l[j - 1]'(by omega) = l[j] := by
                  rw [← hXj (j - 1) (by omega) (by omega), ← hXj j (by omega) hj, ← hpj, ← hpj1]
                  simp only [Bool.not_eq_false', Bool.and_eq_true, beq_iff_eq] at h3
                  rw [h3.1, h3.2]
                rw [if_pos heq2, List.append_nil] at hst
                simp -implicitDefEqProofs (disch := omega) only [h3, simprocAttr, amset, tyset, Function.comp_apply, one1, lenV, calleeOf, lateOk, belowV, aop, AV.ofValue, AV.ofCell, AV.cells, AV.flat, AV.one, arep, aBin, aAppend, aConv]
                refine hJ2 _ _ ⟨k - 1, by omega, _, _, _, ⟨j + 1, c, X, by omega, by omega, by rw [hst]; exact hc, by omega, hXl, by rw [hst]; exact hXt, by rw [show j + 1 - 1 = j by omega]; exact hXd2, rfl, hG⟩, Abs.byS0 hGl hbelG ?_⟩
                exact absWf (jn @hjj2 (jn @Int.natCast_add @Int.natCast_one))
            · have hjj : ¬ ((j - i : Nat) : Int) < ((l.length - i : Nat) : Int) := by omega
              have hrep := (prs_rep (m := l.length - c)).symm
              have hne0 : (l.length - c == 0) = false := beq_eq_false_iff_ne.2 (by omega)
              have hspl := splice_prs (l := X) (ys := List.replicate (l.length - c) (0, 0)) (i := c) (by rw [List.length_replicate]; omega)
              rw [hXt] at hspl
              simp -implicitDefEqProofs (disch := omega) only [hjj, hG1, hG0, hrep, hne0, hspl, hGs0, prs_len, prs_one, List.length_replicate, hset0, simprocAttr, amset, tyset, Function.comp_apply, one1, lenV, calleeOf, lateOk, belowV, aop, AV.ofValue, AV.ofCell, AV.cells, AV.flat, AV.one, arep, aBin, aAppend, aConv]
              refine ⟨by omega, ⟨by omega, .inl (Nat.le_refl _)⟩, by omega, by omega, ⟨by omega, .inl (by omega)⟩, ?_⟩
              obtain rfl : j = l.length := by omega
              rw [List.take_length] at hc ⊢
              refine hQ _ _ (end_byS (by rw [List.length_set]) (.inl rfl) (HBel.put hbel b bels_prs) (x1 := .sl (some (b, 0)) (c - 0) (Option.map (fun x => x - 0) cap)) (.sl (some (b, 0)) (cptC l).length none) (resT Tryz.results171) ⟨rfl, by rw [hown, hc]; rfl⟩ ?_)
              exact absWf (jn @hc @Nat.sub_zero)
        · have hdif : ¬ l[i - 1]'(by omega) = l[i] := fun e => by
            rw [← pr_eq hi, ← pr_eq (show i - 1 < l.length by omega)] at e
            simp only [Prod.mk.injEq] at e
            rw [e.1, e.2] at h2
            simp at h2
          simp -implicitDefEqProofs (disch := omega) only [h2, simprocAttr, amset, tyset, Function.comp_apply, one1, lenV, calleeOf, lateOk, belowV, aop, AV.ofValue, AV.ofCell, AV.cells, AV.flat, AV.one, arep, aBin, aAppend, aConv]
          refine hJ _ _ ⟨k - 1, by omega, _, _, _, ⟨i + 1, by omega, by omega, fun j h3 h4 h5 => by
            rcases Nat.lt_or_ge j i with h6 | h6
            · exact hne j h3 h4 h6
            · obtain rfl : j = i := by omega
              exact hdif, rfl, rfl⟩, Abs.by0 hbel ?_⟩
          exact absWf (jn @Int.natCast_add @Int.natCast_one)
      · have hii : ¬ (i : Int) < (l.length : Int) := by omega
        obtain rfl : i = l.length := by omega
        have e : cptC l = l := by have := noeq_cpt (Nat.le_refl _) hne; rwa [List.take_length] at this
        simp -implicitDefEqProofs (disch := omega) only [hii, simprocAttr, amset, tyset, Function.comp_apply, one1, lenV, calleeOf, lateOk, belowV, aop, AV.ofValue, AV.ofCell, AV.cells, AV.flat, AV.one, arep, aBin, aAppend, aConv]
        exact hQ _ _ (end_byE (.inl rfl) hbel (x1 := .sl (some (b, 0)) l.length cap) (l2 := []) (.sl (some (b, 0)) (cptC l).length none) (resT Tryz.results171) [] rfl [] (by decide) ⟨rfl, by rw [List.append_nil, hend e]⟩ (by rw [e]; exact absW))
open Go.RowKit
theorem bits0_c (H : AHeap) : ACalls Tryz.prog 254 [.int .u64 0] H (fun v H' => v = .int .i64 0 ∧ H' = H) := by
  have h := ext_ok 254 [.int .u64 0] H (.int .i64 0) none (by kernel_rfl)
  exact h.2.2
theorem ins0_c (H : AHeap) (s : AV)   (g : FuncId) (hs : Sl H 2 s 0 []) : ACalls Tryz.prog 316 [s, .int .i64 0, .int .i64 0, .fn g []] H (fun v H' => v = .tup [] ∧ H' = H) := by
  obtain ⟨bs, os, cs, rfl, hbs⟩ := hs
  have hbls := getElem?_lt hbs
  have hb0s := fun l => get_app (l := l) hbs
  refine AcN true Tryz.func316 ?_; intro hbel Q hQ
  have g'1 := (jn @hbs @hb0s)
  refine runTf g'1 ?_
  refine go_loop try_mixed (by kernel_rfl) (fun k F Hx => ∃ z : Unit, k = 0 ∧ F = [(0, .sl (some (bs, 0)) 0 cs), (1, .int .i64 0), (2, .int .i64 0), (3, .fn g []), (8, .int .i64 1)] ∧ H = Hx) (0) ?_ ?_
  · refine ⟨_, _, _, ⟨(), by omega, rfl, rfl⟩, Abs.by0 hbel ?_⟩
    exact absW
  · rintro k0 F Hx ⟨z, hm0, rfl, rfl⟩ J0 hJ0
    refine runTf g'1 ?_
    exact hQ _ _ (end_plain0 (by first | exact .inl rfl | exact .inr rfl) hbel (x := .tup []) (resT Tryz.results316) rfl ⟨rfl, rfl⟩)
theorem pdq0_c (H : AHeap) (s : AV)   (m : Int) (g : FuncId) (hs : Sl H 2 s 0 []) : ACalls Tryz.prog 253 [s, .int .i64 0, .int .i64 0, .int .i64 m, .fn g []] H (fun v H' => v = .tup [] ∧ H' = H) := by
  obtain ⟨bs, os, cs, rfl, hbs⟩ := hs
  have hbls := getElem?_lt hbs
  have hb0s := fun l => get_app (l := l) hbs
  refine AcT true Tryz.func253 ?_; intro hbel Q hQ
  have g'2 := (jn @hbs @hb0s)
  refine runTf g'2 ?_
  refine go_loop try_mixed (by kernel_rfl) (fun k F Hx => ∃ z : Unit, k = 0 ∧ F = [(0, .sl (some (bs, 0)) 0 cs), (1, .int .i64 0), (2, .int .i64 0), (3, .int .i64 m), (4, .fn g []), (10, .bool true), (11, .bool true)] ∧ H = Hx) (0) ?_ ?_
  · refine ⟨_, _, _, ⟨(), by omega, rfl, rfl⟩, Abs.by0 hbel ?_⟩
    exact absW
  · rintro k0 F Hx ⟨z, hm0, rfl, rfl⟩ J0 hJ0
    refine runTf g'2 ?_
    refine call_v (by kernel_rfl) (ins0_c _ _ g ⟨_, _, _, rfl, by first | exact hb0s _ | exact hbs⟩) ?_
    refine runTf g'2 ?_
    exact hQ _ _ (end_plain0 (.inl rfl) hbel (x := .tup []) (resT Tryz.results253) rfl ⟨rfl, rfl⟩)
theorem srt0_c (H : AHeap) (s : AV) (g : FuncId) (hs : Sl H 2 s 0 []) : ACalls Tryz.prog 169 [s, .fn g []] H (fun v H' => v = .tup [] ∧ H' = H) := by
  obtain ⟨bs, os, cs, rfl, hbs⟩ := hs
  have hbls := getElem?_lt hbs
  have hb0s := fun l => get_app (l := l) hbs
  refine AcN true Tryz.func169 ?_; intro hbel Q hQ
  have g'3 := (jn @hbs @hb0s)
  refine runTf g'3 ?_
  refine call_v (by kernel_rfl) (bits0_c _) ?_
  refine runTf g'3 ?_
  refine call_v (by kernel_rfl) (pdq0_c _ _ 0 g ⟨_, _, _, rfl, by first | exact hb0s _ | exact hbs⟩) ?_
  refine runTf g'3 ?_
  exact hQ _ _ (end_plain0 (by first | exact .inl rfl | exact .inr rfl) hbel (x := .tup []) (resT Tryz.results169) rfl ⟨rfl, rfl⟩)
open Go.RowKit
theorem srtk_c (H : AHeap) (b : Nat) (cap : Option Nat) (l : List (Int × Int)) (hb : H[b]? = some (.cells (ownG l.length) 2 (prs l))) (h1 : l.length ≤ 1000000) :
    ACalls Tryz.prog 169 [.sl (some (b, 0)) l.length cap, .fn 170 []] H (fun v H' => v = .tup [] ∧ H' = H.set b (.cells (ownG l.length) 2 (prs (srtC l)))) := by
  rcases Nat.eq_zero_or_pos l.length with h0 | h0
  · obtain rfl := List.eq_nil_of_length_eq_zero h0
    rw [srtC_nil]
    have hself : H.set b (.cells (ownG ([] : List (Int × Int)).length) 2 (prs [])) = H := by
      refine List.ext_getElem? fun i => ?_
      rw [List.getElem?_set]
      split
      · rename_i e; subst e; first | exact hb.symm | (rw [if_pos (getElem?_lt hb)]; exact hb.symm)
      · rfl
    rw [hself]
    exact srt0_c H _ _ ⟨b, _, cap, rfl, hb⟩
  · rw [ownG_p h0] at hb ⊢
    exact sortc_c H b cap l hb h0 h1
theorem cptk_c (H : AHeap) (b : Nat) (cap : Option Nat) (l : List (Int × Int)) (hb : H[b]? = some (.cells (ownG l.length) 2 (prs (srtC l)))) (h1 : l.length ≤ 1000000) :
    ACalls Tryz.prog 171 [.sl (some (b, 0)) l.length cap] H (fun v H' => v = .sl (some (b, 0)) (cptC (srtC l)).length none ∧ H' = H.set b (.cells (ownG l.length) 2 (prs (padL (srtC l).length (cptC (srtC l)))))) := by
  have h := cpt_cell H b cap (srtC l) (by rw [srtC_len]; exact hb) (by rw [srtC_len]; omega)
  rw [srtC_len l] at h ⊢
  exact h
theorem kall_c (H : AHeap) (W : Int) (Hh : Int) (pp : AV) (xs : List Int) (s : AV) (l : List T6) (q : AV) (sc : List (Int × Int)) (g : Int) (hpp : Sl H 1 pp xs.length (ints .u8 xs)) (hs : Sl H 6 s l.length (r6 l)) (hq : Sl H 2 q sc.length (prs sc)) (hV : vldB W Hh xs = true) (hS : setB l = true) (hl0 : 0 < l.length) (hsB : scnB sc = true) (hg : 1 ≤ g ∧ g ≤ 32) : ACalls Tryz.prog 81 [.agg [.int .i64 W, .int .i64 Hh, pp], s, q, .int .i64 g] H (fun v H' => v = .sl (some (H.length, 0)) ((allL W Hh l sc g).length) none ∧ H' = H ++ [.cells (ownG (rowA W Hh l sc g).length) 2 (prs (allL W Hh l sc g))]) := by
  obtain ⟨bpp, opp, cpp, rfl, hbpp⟩ := hpp
  have hblpp := getElem?_lt hbpp
  have hb0pp := fun l => get_app (l := l) hbpp
  obtain ⟨bs, os, cs, rfl, hbs⟩ := hs
  have hbls := getElem?_lt hbs
  have hb0s := fun l => get_app (l := l) hbs
  obtain ⟨bq, oq, cq, rfl, hbq⟩ := hq
  have hblq := getElem?_lt hbq
  have hb0q := fun l => get_app (l := l) hbq
  have hsc := scnB_iff.1 hsB
  have hpl := prS_len W Hh l sc g sc.length
  refine AcT false Tryz.func81 ?_; intro hbel Q hQ
  have g'1 := (jn @hbpp (jn @hb0pp (jn @hbs (jn @hb0s (jn @hbq @hb0q)))))
  refine runTf g'1 ?_
  refine call_v (by kernel_rfl) (ktaught_c _ _ l ⟨_, _, _, rfl, by first | exact hb0s _ | exact hbs⟩ (by assumption)) ?_
  refine runTf g'1 ?_
  refine cond_split (fun h1 => ?_) (fun h1 => ?_)
  · have h1d := bsT h1
    have hfinA := allL_nil (W := W) (Hh := Hh) (sc := sc) (g := g) h1d
    have g'2 := (jn @h1 (jn @h1d g'1))
    refine runTf g'2 ?_
    refine hQ _ _ (end_byG (.inl rfl) hbel (x1 := .sl none 0 (some 0)) (l2 := [.cells false 2 []]) (.sl (some (H.length, 0)) 0 none) (resT Tryz.results81) [.cells false 2 []] rfl [1] (by decide) ⟨by first | (rw [hfinA.1]; done) | (rw [hfinA.1]; rfl) | rfl | (unfold allL; rw [hfinB]; done) | (unfold susL; rw [hfinB]; done) | skip, by first | (rw [hfinA.1, hfinA.2]; rfl) | (unfold allL; rw [hfinB]; rfl) | (unfold allL; rw [hfinB]; done) | skip⟩ ?_)
    exact absWf @prs_padL
  · have h1d := bsT h1
    have htau := h1d
    have hfinB : rowA W Hh l sc g = prS W Hh l sc g sc.length := if_pos htau
    have g'3 := (jn @h1 (jn @h1d g'1))
    refine runTf g'3 ?_
    refine go_loop try_mixed (by kernel_rfl) (fun k F Hx => ∃ i : Nat, i + k = sc.length ∧ F = [(1, .sl (some (bs, 0)) l.length cs), (3, .int .i64 g), (4, .ptr (some (H.length, 0))), (9, .sl (some (H.length + 1, 0)) ((prS W Hh l sc g i).length) (capG (prS W Hh l sc g i).length)), (15, .sl (some (bq, 0)) sc.length cq), (16, .int .i64 ((sc.length : Nat) : Int)), (17, .int .i64 ((i : Nat) : Int))] ∧ Hx = H ++ [.cells true 0 [.int .i64 W, .int .i64 Hh, .sl (some (bpp, 0)) xs.length cpp], .cells (ownG (prS W Hh l sc g i).length) 2 (prs (prS W Hh l sc g i))]) (sc.length) ?_ ?_
    · refine ⟨_, _, _, ⟨0, by omega, rfl, rfl⟩, Abs.byG hbel [.cells false 2 []] rfl [0, 1] (by decide) ?_⟩
      exact absRf @prS.eq_1
    · rintro k0 F Hx ⟨i, hm0, rfl, rfl⟩ J0 hJ0
      have g'4 := (jn @prs_len (jn @prs_one g'3))
      refine runTf g'4 ?_
      refine cond_split (fun h2 => ?_) (fun h2 => ?_)
      · have h2d := bsT h2
        have hlt : i < sc.length := by omega
        have hbi := beaB_iff.1 (hsc.2 _ (List.getElem_mem hlt))
        rw [← pr_eq hlt] at hbi
        have hpi := prS_len W Hh l sc g i
        have hvl := prvL_len W Hh l (g1 sc i) (g2 sc i) g
        have q3 := prs_load (l := sc) (j := i) (by omega)
        have g'5 := (jn @h2 (jn @h2d (jn @q3 g'4)))
        refine runTf g'5 ?_
        refine call_v (by kernel_rfl) (proven_c _ W Hh _ xs _ l (g1 sc i) (g2 sc i) g ⟨_, _, _, rfl, by first | exact hb0pp _ | exact hbpp⟩ ⟨_, _, _, rfl, by first | exact hb0s _ | exact hbs⟩ hV hS hl0 (by omega) (by omega)) ?_
        rcases Nat.eq_zero_or_pos ((prvL W Hh l (g1 sc i) (g2 sc i) g).length) with h4 | h4
        · have h4e : prvL W Hh l (g1 sc i) (g2 sc i) g = [] := List.eq_nil_of_length_eq_zero h4
          rcases Nat.eq_zero_or_pos ((prS W Hh l sc g i).length) with h5 | h5
          · have h5e : prS W Hh l sc g i = [] := List.eq_nil_of_length_eq_zero h5
            have g'6 := (jn @h4 (jn @h5 (jn @capG_0 (jn @ownG_0 g'5))))
            refine runTf g'6 ?_
            refine hJ0 _ _ ⟨k0 - 1, by omega, _, _, _, ⟨i + 1, by omega, rfl, rfl⟩, Abs.byG hbel [] rfl [0, 1] (by decide) ?_⟩
            exact absRf (jn @prS.eq_2 (jn @List.append_nil.{0} (jn @h4e @h5e)))
          · have h5c := capG_p h5
            have h5o := ownG_p h5
            have h5z : ((prS W Hh l sc g i).length == 0) = false := beq_eq_false_iff_ne.2 (by omega)
            have g'7 := (jn @h4 (jn @h5c (jn @h5o (jn @h5z (jn @prs_all g'5)))))
            refine runTf g'7 ?_
            refine hJ0 _ _ ⟨k0 - 1, by omega, _, _, _, ⟨i + 1, by omega, rfl, rfl⟩, Abs.byG hbel [] rfl [0, 4] (by decide) ?_⟩
            exact absRf (jn @prS.eq_2 (jn @List.append_nil.{0} (jn @h4e (jn @h5c (jn @h5o @Nat.add_zero)))))
        · have h4z : decide (0 < (prvL W Hh l (g1 sc i) (g2 sc i) g).length) = true := decide_eq_true h4
          have h4c := capG_p (n := (prS W Hh l sc g i).length + (prvL W Hh l (g1 sc i) (g2 sc i) g).length) (by omega)
          have h4o := ownG_p (n := (prS W Hh l sc g i).length + (prvL W Hh l (g1 sc i) (g2 sc i) g).length) (by omega)
          have g'8 := (jn @h4 (jn @h4z (jn @prs_all g'5)))
          refine runTf g'8 ?_
          refine hJ0 _ _ ⟨k0 - 1, by omega, _, _, _, ⟨i + 1, by omega, rfl, rfl⟩, Abs.byG hbel [] rfl [0, 4] (by decide) ?_⟩
          exact absRf (jn @prS.eq_2 (jn @List.append_nil.{0} (jn @h4c @h4o)))
      · have h2d := bsT h2
        obtain rfl : i = sc.length := by omega
        have g'9 := (jn @h2 (jn @h2d g'4))
        refine runTf g'9 ?_
        refine call_v (by kernel_rfl) (srtk_c _ _ _ (prS W Hh l sc g sc.length) (by first | (rw [get_newk]; rfl) | (rw [get_new0]; rfl) | rfl) (by omega)) ?_
        refine runTf g'9 ?_
        refine call_v (by kernel_rfl) (cptk_c _ _ _ (prS W Hh l sc g sc.length) (by first | (rw [get_newk]; rfl) | (rw [get_new0]; rfl) | rfl) (by omega)) ?_
        refine runTf g'9 ?_
        refine hQ _ _ (end_byG (.inl rfl) hbel (x1 := .sl (some (H.length + 1, 0)) ((cptC (srtC (prS W Hh l sc g sc.length))).length) none) (l2 := [.cells (ownG (prS W Hh l sc g sc.length).length) 2 (prs (cptC (srtC (prS W Hh l sc g sc.length))))]) (.sl (some (H.length, 0)) ((cptC (srtC (prS W Hh l sc g sc.length))).length) none) (resT Tryz.results81) [] rfl [1] (by decide) ⟨by first | (rw [hfinA.1]; done) | (rw [hfinA.1]; rfl) | rfl | (unfold allL; rw [hfinB]; done) | (unfold susL; rw [hfinB]; done) | skip, by first | (rw [hfinA.1, hfinA.2]; rfl) | (unfold allL; rw [hfinB]; rfl) | (unfold allL; rw [hfinB]; done) | skip⟩ ?_)
        exact absWf @prs_padL
open Go.RowKit
theorem ksus_c (H : AHeap) (s : AV) (l : List T6) (m : Int) (r : Int) (g : Int) (hs : Sl H 6 s l.length (r6 l)) (hS : setB l = true) (hr : -1 ≤ r ∧ r ≤ 1024) (hg : 1 ≤ g ∧ g ≤ 32) : ACalls Tryz.prog 83 [s, .agg [.int .i64 m, .int .i64 r], .int .i64 g] H (fun v H' => v = .sl (some (H.length, 0)) ((susL l m r g).length) none ∧ H' = H ++ [.cells (ownG (rowU l m r g).length) 2 (prs (susL l m r g))]) := by
  obtain ⟨bs, os, cs, rfl, hbs⟩ := hs
  have hbls := getElem?_lt hbs
  have hb0s := fun l => get_app (l := l) hbs
  have hda := dirA_len hS m
  have hsl := swS_len (dirA l m) r g (dirA l m).length
  have hpair : ∀ j', j' < (dirA l m).length → bxB (g91 (dirA l m) j') (g92 (dirA l m) j') (g93 (dirA l m) j') (g94 (dirA l m) j') (g95 (dirA l m) j') (g96 (dirA l m) j') = true := fun j' hj' => by
    have k := dirA_ok hS (g9_mem hj')
    unfold pairB at k; rw [Bool.and_eq_true] at k; exact k.1
  refine AcT false Tryz.func83 ?_; intro hbel Q hQ
  have g'1 := (jn @hbs @hb0s)
  refine runTf g'1 ?_
  refine gd_split (fun h1 => ?_) (fun h1 => ?_)
  · have h1d := bsT h1
    have h1n := bnT h1
    have hr1 : ¬ r = -1 := by simpa using h1d
    have g'2 := (jn @h1 (jn @h1n (jn @int_bne (jn @int_beq g'1))))
    refine runTf g'2 ?_
    refine call_v (by kernel_rfl) (ktaught_c _ _ l ⟨_, _, _, rfl, by first | exact hb0s _ | exact hbs⟩ (by assumption)) ?_
    refine runTf g'2 ?_
    refine cond_split (fun h2 => ?_) (fun h2 => ?_)
    · have h2d := bsT h2
      have hfinA := susL_nil (l := l) (m := m) (r := r) (g := g) (.inr h2d)
      have g'3 := (jn @h2 (jn @h2d g'2))
      refine runTf g'3 ?_
      refine hQ _ _ (end_byG (.inl rfl) hbel (x1 := .sl none 0 (some 0)) (l2 := [.cells false 2 []]) (.sl (some (H.length, 0)) 0 none) (resT Tryz.results83) [.cells false 2 []] rfl [1] (by decide) ⟨by first | (rw [hfinA.1]; done) | (rw [hfinA.1]; rfl) | (unfold susL; rw [hfinB]; done) | skip, by first | (rw [hfinA.1, hfinA.2]; rfl) | (unfold susL; rw [hfinB]; rfl) | (unfold susL; rw [hfinB]; done) | skip⟩ ?_)
      exact absWf @prs_padL
    · have h2d := bsT h2
      have htau := h2d
      have hdt := dirA_tau hS htau m
      have hfinB : rowU l m r g = swS (dirA l m) r g (dirA l m).length := by unfold rowU; rw [decide_eq_false hr1, htau]; rfl
      have g'4 := (jn @h2 (jn @h2d g'2))
      refine runTf g'4 ?_
      refine call_v (by kernel_rfl) (directed_c _ _ l m r ⟨_, _, _, rfl, by first | exact hb0s _ | exact hbs⟩ (by assumption)) ?_
      refine runTf g'4 ?_
      refine go_loop try_mixed (by kernel_rfl) (fun k F Hx => ∃ i : Nat, i + k = (dirA l m).length ∧ F = [(2, .int .i64 g), (4, .ptr (some (H.length, 0))), (7, .sl (some (H.length + 2, 0)) ((swS (dirA l m) r g i).length) (capG (swS (dirA l m) r g i).length)), (22, .sl (some (H.length + 1, 0)) ((dirA l m).length) (capG (dirA l m).length)), (23, .int .i64 (((dirA l m).length : Nat) : Int)), (24, .int .i64 ((i : Nat) : Int))] ∧ Hx = H ++ [.cells true 0 [.int .i64 m, .int .i64 r], .cells (ownG (dirA l m).length) 9 (r9 (dirA l m)), .cells (ownG (swS (dirA l m) r g i).length) 2 (prs (swS (dirA l m) r g i))]) ((dirA l m).length) ?_ ?_
      · refine ⟨_, _, _, ⟨0, by omega, rfl, rfl⟩, Abs.byG hbel [.cells false 2 []] rfl [0, 1, 2] (by decide) ?_⟩
        exact absRf (jn @swS.eq_1 (jn @r9_append (jn @r9_cons (jn @r9_nil @mvs_r9))))
      · rintro k0 F Hx ⟨i, hm0, rfl, rfl⟩ J0 hJ0
        have g'5 := (jn @r9_len (jn @r9_one (jn @prs_len (jn @prs_one g'4))))
        refine runTf g'5 ?_
        refine cond_split (fun h3 => ?_) (fun h3 => ?_)
        · have h3d := bsT h3
          have hpi := hpair i (by omega)
          have hsi := swS_len (dirA l m) r g i
          have hvl := sptL_len (g91 (dirA l m) i) (g92 (dirA l m) i) (g93 (dirA l m) i) (g94 (dirA l m) i) (g97 (dirA l m) i) (g98 (dirA l m) i) (g99 (dirA l m) i) (if 0 < r - g then r - g else 0) (r + g)
          have q4 := r9_load (l := dirA l m) (j := i) (by omega)
          have g'6 := (jn @h3 (jn @h3d (jn @q4 g'5)))
          refine runTf g'6 ?_
          refine call_d (by kernel_rfl) (rect_c _ (g91 (dirA l m) i) (g92 (dirA l m) i) (g93 (dirA l m) i) (g94 (dirA l m) i) (g95 (dirA l m) i) (g96 (dirA l m) i) hpi) ?_
          refine runTf g'6 ?_
          refine call_x (by kernel_rfl) (by simp) (swept_c _ (g91 (dirA l m) i) (g92 (dirA l m) i) (g93 (dirA l m) i) (g94 (dirA l m) i) (g97 (dirA l m) i) (g98 (dirA l m) i) (g99 (dirA l m) i) (if 0 < (r - g) then (r - g) else 0) (r + g)) ?_
          rcases Nat.eq_zero_or_pos ((sptL (g91 (dirA l m) i) (g92 (dirA l m) i) (g93 (dirA l m) i) (g94 (dirA l m) i) (g97 (dirA l m) i) (g98 (dirA l m) i) (g99 (dirA l m) i) (if 0 < (r - g) then (r - g) else 0) (r + g)).length) with h5 | h5
          · have h5e : sptL (g91 (dirA l m) i) (g92 (dirA l m) i) (g93 (dirA l m) i) (g94 (dirA l m) i) (g97 (dirA l m) i) (g98 (dirA l m) i) (g99 (dirA l m) i) (if 0 < (r - g) then (r - g) else 0) (r + g) = [] := List.eq_nil_of_length_eq_zero h5
            rcases Nat.eq_zero_or_pos ((swS (dirA l m) r g i).length) with h6 | h6
            · have h6e : swS (dirA l m) r g i = [] := List.eq_nil_of_length_eq_zero h6
              have g'7 := (jn @h5 (jn @h6 (jn @capG_0 (jn @ownG_0 g'6))))
              refine runTf g'7 ?_
              refine hJ0 _ _ ⟨k0 - 1, by omega, _, _, _, ⟨i + 1, by omega, rfl, rfl⟩, Abs.byG hbel [] rfl [0, 1, 2] (by decide) ?_⟩
              exact absRf (jn @swS.eq_2 (jn @List.append_nil.{0} (jn @h5e (jn @h6e (jn @r9_append (jn @r9_cons (jn @r9_nil @mvs_r9)))))))
            · have h6c := capG_p h6
              have h6o := ownG_p h6
              have h6z : ((swS (dirA l m) r g i).length == 0) = false := beq_eq_false_iff_ne.2 (by omega)
              have g'8 := (jn @h5 (jn @h6c (jn @h6o (jn @h6z (jn @prs_all g'6)))))
              refine runTf g'8 ?_
              refine hJ0 _ _ ⟨k0 - 1, by omega, _, _, _, ⟨i + 1, by omega, rfl, rfl⟩, Abs.byG hbel [] rfl [0, 1, 5] (by decide) ?_⟩
              exact absRf (jn @swS.eq_2 (jn @List.append_nil.{0} (jn @h5e (jn @h6c (jn @h6o (jn @Nat.add_zero (jn @r9_append (jn @r9_cons (jn @r9_nil @mvs_r9)))))))))
          · have h5z : decide (0 < (sptL (g91 (dirA l m) i) (g92 (dirA l m) i) (g93 (dirA l m) i) (g94 (dirA l m) i) (g97 (dirA l m) i) (g98 (dirA l m) i) (g99 (dirA l m) i) (if 0 < (r - g) then (r - g) else 0) (r + g)).length) = true := decide_eq_true h5
            have h5c := capG_p (n := (swS (dirA l m) r g i).length + (sptL (g91 (dirA l m) i) (g92 (dirA l m) i) (g93 (dirA l m) i) (g94 (dirA l m) i) (g97 (dirA l m) i) (g98 (dirA l m) i) (g99 (dirA l m) i) (if 0 < (r - g) then (r - g) else 0) (r + g)).length) (by omega)
            have h5o := ownG_p (n := (swS (dirA l m) r g i).length + (sptL (g91 (dirA l m) i) (g92 (dirA l m) i) (g93 (dirA l m) i) (g94 (dirA l m) i) (g97 (dirA l m) i) (g98 (dirA l m) i) (g99 (dirA l m) i) (if 0 < (r - g) then (r - g) else 0) (r + g)).length) (by omega)
            have g'9 := (jn @h5 (jn @h5z (jn @prs_all g'6)))
            refine runTf g'9 ?_
            refine hJ0 _ _ ⟨k0 - 1, by omega, _, _, _, ⟨i + 1, by omega, rfl, rfl⟩, Abs.byG hbel [] rfl [0, 1, 5] (by decide) ?_⟩
            exact absRf (jn @swS.eq_2 (jn @List.append_nil.{0} (jn @h5c (jn @h5o (jn @r9_append (jn @r9_cons (jn @r9_nil @mvs_r9)))))))
        · have h3d := bsT h3
          obtain rfl : i = (dirA l m).length := by omega
          have g'10 := (jn @h3 (jn @h3d g'5))
          refine runTf g'10 ?_
          refine call_v (by kernel_rfl) (srtk_c _ _ _ (swS (dirA l m) r g (dirA l m).length) (by first | (rw [get_newk]; rfl) | (rw [get_new0]; rfl) | rfl) (by omega)) ?_
          refine runTf g'10 ?_
          refine call_v (by kernel_rfl) (cptk_c _ _ _ (swS (dirA l m) r g (dirA l m).length) (by first | (rw [get_newk]; rfl) | (rw [get_new0]; rfl) | rfl) (by omega)) ?_
          refine runTf g'10 ?_
          refine hQ _ _ (end_byG (.inl rfl) hbel (x1 := .sl (some (H.length + 2, 0)) ((cptC (srtC (swS (dirA l m) r g (dirA l m).length))).length) none) (l2 := [.cells (ownG (swS (dirA l m) r g (dirA l m).length).length) 2 (prs (cptC (srtC (swS (dirA l m) r g (dirA l m).length))))]) (.sl (some (H.length, 0)) ((cptC (srtC (swS (dirA l m) r g (dirA l m).length))).length) none) (resT Tryz.results83) [] rfl [2] (by decide) ⟨by first | (rw [hfinA.1]; done) | (rw [hfinA.1]; rfl) | (unfold susL; rw [hfinB]; done) | skip, by first | (rw [hfinA.1, hfinA.2]; rfl) | (unfold susL; rw [hfinB]; rfl) | (unfold susL; rw [hfinB]; done) | skip⟩ ?_)
          exact absWf @prs_padL
  · have h1d := bsT h1
    have h1n := bnT h1
    have hr1 : r = -1 := by simpa using h1d
    have hfinA := susL_nil (l := l) (m := m) (g := g) (.inl hr1)
    have g'11 := (jn @h1 (jn @h1n (jn @int_bne (jn @int_beq g'1))))
    refine runTf g'11 ?_
    refine hQ _ _ (end_byG (.inl rfl) hbel (x1 := .sl none 0 (some 0)) (l2 := [.cells false 2 []]) (.sl (some (H.length, 0)) 0 none) (resT Tryz.results83) [.cells false 2 []] rfl [1] (by decide) ⟨by first | (rw [hfinA.1]; done) | (rw [hfinA.1]; rfl) | (unfold susL; rw [hfinB]; done) | skip, by first | (rw [hfinA.1, hfinA.2]; rfl) | (unfold susL; rw [hfinB]; rfl) | (unfold susL; rw [hfinB]; done) | skip⟩ ?_)
    exact absWf @prs_padL
open Go.RowKit
open Go.RowKit
set_option maxRecDepth 100000 in
theorem cloneb_c (H : AHeap) (s : AV) (xs : List Int) (hs : Sl H 1 s xs.length (ints .u8 xs)) (hl : xs.length ≤ 1000000) (h0 : 0 < xs.length) : ACalls Tryz.prog 79 [s] H (fun v H' => v = .sl (some (H.length, 0)) xs.length none ∧ H' = H ++ [.cells true 1 (ints .u8 xs)]) := by
  obtain ⟨b, own, cap, rfl, hb⟩ := hs
  have hbl := getElem?_lt hb
  have hb0 := fun l => get_app (l := l) hb
  generalize hm : xs.length = m at *
  refine AcT true Tryz.func79 ?_; intro hbel Q hQ
  have htk : List.take m (ints .u8 xs) = ints .u8 xs := List.take_of_length_le (by rw [ints_len]; omega)
  have htk1 : List.take (m * 1) (ints .u8 xs) = ints .u8 xs := List.take_of_length_le (by rw [ints_len]; omega)
  have hm0 : (m == 0) = false := beq_eq_false_iff_ne.2 (by omega)
  have hm1 : (m != 0) = true := bne_iff_ne.2 (by omega)
  simp -implicitDefEqProofs (disch := omega) only [hb, hb0, Option.isNone_some, hm0, h0, htk, htk1, nilKnown, hm1, simprocAttr, amset, tyset, Function.comp_apply, one1, lenV, calleeOf, lateOk, belowV, aop, AV.ofValue, AV.ofCell, AV.cells, AV.flat, AV.one, arep, aBin, aAppend, aConv]
  repeat refine And.intro (by omega) ?_
  refine hQ _ _ (end_by (.inl rfl) hbel (x1 := .sl (some (H.length + 1, 0)) m none) (.sl (some (H.length, 0)) m none) (resT Tryz.results79) [1] (by decide) ⟨rfl, rfl⟩ ?_)
  exact absT
theorem susL_own {l : List T6} {m r g : Int} : ownG (rowU l m r g).length = ownG (susL l m r g).length := by
  unfold susL
  have h := srtC_len (rowU l m r g)
  generalize srtC (rowU l m r g) = s at *
  match s, h with
  | [], h => rw [← h]; rfl
  | a :: t, h =>
    have h2 : a ∈ cptC (a :: t) := cptC_mem.2 (List.mem_cons_self ..)
    rw [ownG_p (by rw [← h]; simp), ownG_p (List.length_pos_of_mem h2)]
theorem ksus2_c (H : AHeap) (s : AV) (l : List T6) (m : Int) (r : Int) (g : Int) (hs : Sl H 6 s l.length (r6 l)) (hS : setB l = true) (hr : -1 ≤ r ∧ r ≤ 1024) (hg : 1 ≤ g ∧ g ≤ 32) : ACalls Tryz.prog 83 [s, .agg [.int .i64 m, .int .i64 r], .int .i64 g] H (fun v H' => v = .sl (some (H.length, 0)) (susL l m r g).length none ∧ H' = H ++ [.cells (ownG (susL l m r g).length) 2 (prs (susL l m r g))]) := by
  have h := ksus_c H s l m r g hs hS hr hg
  rw [susL_own] at h
  exact h
theorem learn1_c (H : AHeap) (c1 : Int) (c2 : Int) (W : Int) (Hh : Int) (pp : AV) (xs : List Int) (bz : Nat) (hpp : Sl H 1 pp xs.length (ints .u8 xs)) (hz : ∃ o, H[bz]? = some (.cells o 0 [.int .i64 W, .int .i64 Hh, pp])) (hV : vldB W Hh xs = true) : ACalls Tryz.prog 84 [.agg [.int .i64 c1, .int .i64 c2], .ptr (some (bz, 0))] H (fun v H' => v = .bool (frP W Hh xs (c1, c2)) ∧ H' = H) := by
  obtain ⟨bpp, opp, cpp, rfl, hbpp⟩ := hpp
  have hblpp := getElem?_lt hbpp
  have hb0pp := fun l => get_app (l := l) hbpp
  obtain ⟨oz, hbz⟩ := hz
  have hblz := getElem?_lt hbz
  have hb0z := fun l => get_app (l := l) hbz
  refine AcT true Tryz.func84 ?_; intro hbel Q hQ
  have g'1 := (jn @hbpp (jn @hb0pp (jn @hbz @hb0z)))
  refine runTf g'1 ?_
  refine call_v (by kernel_rfl) (pat_c _ W Hh _ xs c1 c2 ⟨_, _, _, rfl, by first | exact hb0pp _ | exact hbpp⟩ hV) ?_
  refine runTf g'1 ?_
  exact hQ _ _ (end_plain (.inl rfl) hbel (x := .bool ((atI W Hh xs c1 c2) == 1)) (resT Tryz.results84) rfl ⟨rfl, rfl⟩)
theorem learn_c (H : AHeap) (W : Int) (Hh : Int) (pp : AV) (xs : List Int) (s : AV) (l : List T6) (q : AV) (sc : List (Int × Int)) (g : Int) (hpp : Sl H 1 pp xs.length (ints .u8 xs)) (hs : Sl H 6 s l.length (r6 l)) (hq : Sl H 2 q sc.length (prs sc)) (hl : l.length ≤ 1000000000) (hsc : sc.length ≤ 1000000000) : ACalls Tryz.prog 20 [.agg [.int .i64 W, .int .i64 Hh, pp], s, q, .int .i64 g] H (fun v H' => v = .tup [.agg [.int .i64 (lnZ W Hh xs l sc g W), .int .i64 (lnZ W Hh xs l sc g Hh), .sl (some (H.length, 0)) ((lnX W Hh xs l sc g).length) none], .int .i64 (lnE W Hh xs l sc g)] ∧ H' = H ++ [.cells (ownG (lnX W Hh xs l sc g).length) 1 (ints .u8 (lnX W Hh xs l sc g))]) := by
  obtain ⟨bpp, opp, cpp, rfl, hbpp⟩ := hpp
  have hblpp := getElem?_lt hbpp
  have hb0pp := fun l => get_app (l := l) hbpp
  obtain ⟨bs, os, cs, rfl, hbs⟩ := hs
  have hbls := getElem?_lt hbs
  have hb0s := fun l => get_app (l := l) hbs
  obtain ⟨bq, oq, cq, rfl, hbq⟩ := hq
  have hblq := getElem?_lt hbq
  have hb0q := fun l => get_app (l := l) hbq
  (refine ACalls_pieces Tryz.func20 _ rfl (Nat.le_of_ble_eq_true (by kernel_rfl)) rfl ?_; intro hbel Q hQ hQ' c hc; unfold Tryz.f20 at hc; simp only [Option.some.injEq] at hc; subst hc; clear hQ')
  refine AW_step false try_mixed (by kernel_rfl) (fun F Hx => look F 1 = .sl (some (bs, 0)) l.length cs ∧ look F 2 = .sl (some (bq, 0)) sc.length cq ∧ look F 3 = .int .i64 g ∧ look F 4 = .ptr (some (H.length, 0)) ∧ look F 8 = .ptr (some (H.length + 1, 0)) ∧ look F 9 = .int .i64 0 ∧ Hx = H ++ [.cells true 0 [.int .i64 W, .int .i64 Hh, .sl (some (bpp, 0)) xs.length cpp], .cells true 0 [.int .i64 0, .int .i64 0, .sl none 0 (some 0)]]) ?_ ?_
  · skip
    have g'2 := (jn @hbpp (jn @hb0pp (jn @hbs (jn @hb0s (jn @hbq @hb0q)))))
    refine runTf g'2 ?_
    refine inv_of ?_
    exact absT
  rintro F Hx ⟨f1, f2, f3, f4, f5, f6, rfl⟩
  refine AW_step false try_mixed (by kernel_rfl) (fun F Hx => rgtA W Hh xs l sc g = true ∧ look F 1 = .sl (some (bs, 0)) l.length cs ∧ look F 2 = .sl (some (bq, 0)) sc.length cq ∧ look F 3 = .int .i64 g ∧ look F 4 = .ptr (some (H.length, 0)) ∧ look F 8 = .ptr (some (H.length + 1, 0)) ∧ look F 9 = .int .i64 0 ∧ Hx = H ++ [.cells true 0 [.int .i64 W, .int .i64 Hh, .sl (some (bpp, 0)) xs.length cpp], .cells true 0 [.int .i64 0, .int .i64 0, .sl none 0 (some 0)]]) ?_ ?_
  · skip
    have g'3 := (jn @hbpp (jn @hb0pp (jn @hbs (jn @hb0s (jn @hbq (jn @hb0q (jn @f1 (jn @f2 (jn @f3 (jn @f4 (jn @f5 @f6)))))))))))
    refine runTf g'3 ?_
    refine call_v (by kernel_rfl) (kright_c _ W Hh _ xs _ l _ sc g ⟨_, _, _, rfl, by first | exact hb0pp _ | exact hbpp⟩ ⟨_, _, _, rfl, by first | exact hb0s _ | exact hbs⟩ ⟨_, _, _, rfl, by first | exact hb0q _ | exact hbq⟩ (by first | omega | simp) (by first | omega | simp)) ?_
    refine runTf g'3 ?_
    refine cond_split (fun h7 => ?_) (fun h7 => ?_)
    · have h7d := bsT h7
      have hfinP := ln_1 h7d
      have g'4 := (jn @h7 (jn @h7d g'3))
      refine runTf g'4 ?_
      refine hQ _ _ (end_byG (.inl rfl) hbel (x1 := .tup [.agg [.int .i64 0, .int .i64 0, .sl none 0 (some 0)], .int .i64 1]) (l2 := [.cells false 1 []]) (.tup [.agg [.int .i64 0, .int .i64 0, .sl (some (H.length, 0)) 0 none], .int .i64 1]) (resTf (jn @f1 (jn @f2 (jn @f3 (jn @f4 (jn @f5 @f6))))) Tryz.results20) [.cells false 1 []] rfl [2] (by decide) ⟨by first | (rw [hfinP.1, hfinP.2.1, hfinP.2.2.1, hfinP.2.2.2]; done) | (rw [hfinP.1, hfinP.2.1, hfinP.2.2.1, hfinP.2.2.2]; rfl) | skip, by first | (rw [hfinP.2.1, hfinO]; done) | (rw [hfinP.2.1, hfinO]; rfl) | (rw [hfinP.2.1]; done) | (rw [hfinP.2.1]; rfl) | skip⟩ ?_)
      exact absW
    · have h7d := bsT h7
      have g'5 := (jn @h7 (jn @h7d g'3))
      refine runTf g'5 ?_
      refine inv_of ?_
      exact absTf (jn @f1 (jn @f2 (jn @f3 (jn @f4 (jn @f5 @f6)))))
  rintro F Hx ⟨h8d, f9, f10, f11, f12, f13, f14, rfl⟩
  have hR := h8d
  obtain ⟨hV, hl0, hS, hsB, hg⟩ := rgtA_iff.1 hR
  have hVV := vld_iff.1 hV
  have hpp2 := hVV.pos
  have hWb : 1 ≤ W ∧ W ≤ 64 := ⟨hVV.w0, hVV.w1⟩
  have hHb : 1 ≤ Hh ∧ Hh ≤ 64 := ⟨hVV.h0, hVV.h1⟩
  have hx00 := (hVV.idx (show inB W Hh 0 0 = true from inB_iff.2 (by have := hVV.w0; have := hVV.h0; omega))).2.2.2.2.1
  have hx0 : 0 < xs.length := by omega
  have hx6 : xs.length ≤ 1000000 := by have h4 := hVV.len; have := Int.mul_le_mul hVV.w1 hVV.h1 (by have := hVV.h0; omega) (by decide); omega
  have hsc2 := scnB_iff.1 hsB
  have hAl := allL_len (W := W) (Hh := Hh) (l := l) (sc := sc) (g := g)
  have hA : ∀ c ∈ (allL W Hh l sc g), inB W Hh c.1 c.2 = true := fun c hc => allL_in hc
  refine AW_special false try_mixed [[0, 1, 2, 3, 4, 5, 6, 7, 8, 9], [0, 1, 2, 3, 4, 5, 8, 6, 7, 9]] (by kernel_rfl) (fun F2 H2 => F2 = [(1, .sl (some (bs, 0)) l.length cs), (2, .sl (some (bq, 0)) sc.length cq), (3, .int .i64 g), (4, .ptr (some (H.length, 0))), (8, .ptr (some (H.length + 1, 0))), (9, .int .i64 0), (10, .ptr (some (H.length + 3, 0)))] ∧ H2 = H ++ [.cells true 0 [.int .i64 W, .int .i64 Hh, .sl (some (bpp, 0)) xs.length cpp], .cells true 0 [.int .i64 0, .int .i64 0, .sl none 0 (some 0)], .cells true 1 (ints .u8 xs), .cells true 0 [.int .i64 W, .int .i64 Hh, .sl (some (H.length + 2, 0)) xs.length none]]) ?_ ?_
  · refine reps_cons ?_ (reps_cons ?_ (reps_nil)) <;> intro J hJ
    · skip
      have g'6 := (jn @hbpp (jn @hb0pp (jn @hbs (jn @hb0s (jn @hbq (jn @hb0q (jn @f1 (jn @f2 (jn @f3 (jn @f4 (jn @f5 (jn @f6 (jn @f9 (jn @f10 (jn @f11 (jn @f12 (jn @f13 (jn @f14 @h8d))))))))))))))))))
      refine runDf g'6 ?_
      refine call_x (by kernel_rfl) (by simp) (cloneb_c _ _ xs ⟨_, _, _, rfl, by first | exact hb0pp _ | exact hbpp⟩ hx6 hx0) ?_
      refine runDf g'6 ?_
      refine inv_of (hJ _ _ ⟨_, _, _, ⟨rfl, rfl⟩, Abs.byG hbel [] rfl [0, 1, 2, 3] (by decide) ?_⟩)
      exact absRf (jn @f1 (jn @f2 (jn @f3 (jn @f4 (jn @f5 (jn @f6 (jn @f9 (jn @f10 (jn @f11 (jn @f12 (jn @f13 @f14)))))))))))
    · skip
      have g'7 := (jn @hbpp (jn @hb0pp (jn @hbs (jn @hb0s (jn @hbq (jn @hb0q (jn @f1 (jn @f2 (jn @f3 (jn @f4 (jn @f5 (jn @f6 (jn @f9 (jn @f10 (jn @f11 (jn @f12 (jn @f13 (jn @f14 @h8d))))))))))))))))))
      refine runDf g'7 ?_
      refine call_x (by kernel_rfl) (by simp) (cloneb_c _ _ xs ⟨_, _, _, rfl, by first | exact hb0pp _ | exact hbpp⟩ hx6 hx0) ?_
      refine runDf g'7 ?_
      refine inv_of (hJ _ _ ⟨_, _, _, ⟨rfl, rfl⟩, Abs.byG hbel [] rfl [0, 1, 3, 2] (by decide) ?_⟩)
      exact absRf (jn @f1 (jn @f2 (jn @f3 (jn @f4 (jn @f5 (jn @f6 (jn @f9 (jn @f10 (jn @f11 (jn @f12 (jn @f13 @f14)))))))))))
  rintro F2 H2 ⟨rfl, rfl⟩
  refine AW_fin false try_mixed (by kernel_rfl) ?_
  have g'8 := (jn @hbpp (jn @hb0pp (jn @hbs (jn @hb0s (jn @hbq (jn @hb0q (jn @h8d (jn @ints_len @ints_ones))))))))
  refine runTf g'8 ?_
  refine call_v (by kernel_rfl) (ktaught_c _ _ l ⟨_, _, _, rfl, by first | exact hb0s _ | exact hbs⟩ (by assumption)) ?_
  refine runTf g'8 ?_
  refine cond_split (fun h15 => ?_) (fun h15 => ?_)
  · have h15d := bsT h15
    have hfinP := ln_0 hR (if_neg (by rw [h15d]; decide))
    have hfinO := ownG_p hx0
    have g'9 := (jn @h15 (jn @h15d g'8))
    refine runTf g'9 ?_
    refine hQ _ _ (end_byG (.inl rfl) hbel (x1 := .tup [.agg [.int .i64 W, .int .i64 Hh, .sl (some (H.length + 2, 0)) xs.length none], .int .i64 0]) (l2 := [.cells true 1 (ints .u8 xs)]) (.tup [.agg [.int .i64 W, .int .i64 Hh, .sl (some (H.length, 0)) xs.length none], .int .i64 0]) (resT Tryz.results20) [] rfl [2] (by decide) ⟨by first | (rw [hfinP.1, hfinP.2.1, hfinP.2.2.1, hfinP.2.2.2]; done) | (rw [hfinP.1, hfinP.2.1, hfinP.2.2.1, hfinP.2.2.2]; rfl) | skip, by first | (rw [hfinP.2.1, hfinO]; done) | (rw [hfinP.2.1, hfinO]; rfl) | (rw [hfinP.2.1]; done) | (rw [hfinP.2.1]; rfl) | skip⟩ ?_)
    exact absW
  · have h15d := bsT h15
    have htau := h15d
    have g'10 := (jn @h15 (jn @h15d g'8))
    refine runTf g'10 ?_
    refine call_v (by kernel_rfl) (kall_c _ W Hh _ xs _ l _ sc g ⟨_, _, _, rfl, by first | exact hb0pp _ | exact hbpp⟩ ⟨_, _, _, rfl, by first | exact hb0s _ | exact hbs⟩ ⟨_, _, _, rfl, by first | exact hb0q _ | exact hbq⟩ hV hS hl0 hsB (by omega)) ?_
    refine runTf g'10 ?_
    refine go_loop try_mixed (by kernel_rfl) (fun k F Hx => ∃ i : Nat, i + k = (allL W Hh l sc g).length ∧ lrnF W Hh (allL W Hh l sc g) xs = lrnF W Hh ((allL W Hh l sc g).drop i) (lfS W (allL W Hh l sc g) xs i) ∧ F = [(1, .sl (some (bs, 0)) l.length cs), (2, .sl (some (bq, 0)) sc.length cq), (3, .int .i64 g), (4, .ptr (some (H.length, 0))), (8, .ptr (some (H.length + 1, 0))), (10, .ptr (some (H.length + 3, 0))), (41, .sl (some (H.length + 4, 0)) ((allL W Hh l sc g).length) none), (42, .int .i64 (((allL W Hh l sc g).length : Nat) : Int)), (43, .int .i64 ((i : Nat) : Int))] ∧ Hx = H ++ [.cells true 0 [.int .i64 W, .int .i64 Hh, .sl (some (bpp, 0)) xs.length cpp], .cells true 0 [.int .i64 0, .int .i64 0, .sl none 0 (some 0)], .cells true 1 (ints .u8 (lfS W (allL W Hh l sc g) xs i)), .cells true 0 [.int .i64 W, .int .i64 Hh, .sl (some (H.length + 2, 0)) ((lfS W (allL W Hh l sc g) xs i).length) none], .cells (ownG (rowA W Hh l sc g).length) 2 (prs (allL W Hh l sc g))]) ((allL W Hh l sc g).length) ?_ ?_
    · refine ⟨_, _, _, ⟨0, by omega, rfl, rfl, rfl⟩, Abs.byG hbel [] rfl [0, 1, 2, 3, 4] (by decide) ?_⟩
      exact absRf @lfS.eq_1
    · rintro k0 F Hx ⟨i, hm0, hrem, rfl, rfl⟩ J0 hJ0
      have g'11 := (jn @prs_len (jn @prs_one g'10))
      refine runTf g'11 ?_
      refine cond_split (fun h16 => ?_) (fun h16 => ?_)
      · have h16d := bsT h16
        have hlt : i < (allL W Hh l sc g).length := by omega
        have hfv := lfS_vld (W := W) (A := (allL W Hh l sc g)) hV i
        obtain ⟨j1, j2, j3, j4, j5, -⟩ := (vld_iff.1 hfv).idx (gin_mem hlt hA)
        have q17 := prs_load (l := allL W Hh l sc g) (j := i) (by omega)
        have q18 := ints_get (k := .u8) (xs := lfS W (allL W Hh l sc g) xs i) (j := (((g2 (allL W Hh l sc g) i) * W) + (g1 (allL W Hh l sc g) i)).toNat) (by omega)
        have g'12 := (jn @h16 (jn @h16d (jn @q17 (jn @q18 g'11))))
        refine runTf g'12 ?_
        refine cond_split (fun h19 => ?_) (fun h19 => ?_)
        · have h19d := bsT h19
          have h19n := bnT h19
          have hfinP := ln_11 hR (by unfold lnO; rw [if_pos htau, hrem, lrnF_step hlt hA, if_pos (by simpa using h19d)]; rfl)
          have g'13 := (jn @h19 (jn @h19n (jn @int_bne (jn @int_beq g'12))))
          refine runTf g'13 ?_
          refine hQ _ _ (end_byG (.inl rfl) hbel (x1 := .tup [.agg [.int .i64 0, .int .i64 0, .sl none 0 (some 0)], .int .i64 11]) (l2 := [.cells false 1 []]) (.tup [.agg [.int .i64 0, .int .i64 0, .sl (some (H.length, 0)) 0 none], .int .i64 11]) (resT Tryz.results20) [.cells false 1 []] rfl [6] (by decide) ⟨by first | (rw [hfinP.1, hfinP.2.1, hfinP.2.2.1, hfinP.2.2.2]; done) | (rw [hfinP.1, hfinP.2.1, hfinP.2.2.1, hfinP.2.2.2]; rfl) | skip, by first | (rw [hfinP.2.1, hfinO]; done) | (rw [hfinP.2.1, hfinO]; rfl) | (rw [hfinP.2.1]; done) | (rw [hfinP.2.1]; rfl) | skip⟩ ?_)
          exact absW
        · have h19d := bsT h19
          have h19n := bnT h19
          have hne : ¬ gi (lfS W (allL W Hh l sc g) xs i) (((g2 (allL W Hh l sc g) i) * W) + (g1 (allL W Hh l sc g) i)).toNat = 2 := by simpa using h19d
          have g'14 := (jn @h19 (jn @h19n (jn @int_bne (jn @int_beq (jn @ints_set1 (jn @List.length_set.{0} g'12))))))
          refine runTf g'14 ?_
          refine hJ0 _ _ ⟨k0 - 1, by omega, _, _, _, ⟨i + 1, by omega, hrem.trans ((lrnF_step hlt hA).trans (if_neg hne)), rfl, rfl⟩, Abs.byG hbel [] rfl [0, 1, 2, 3, 4] (by decide) ?_⟩
          exact absRf (jn @lfS.eq_2 @List.length_set.{0})
      · have h16d := bsT h16
        obtain rfl : i = (allL W Hh l sc g).length := by omega
        rw [List.drop_length] at hrem
        have g'15 := (jn @h16 (jn @h16d g'11))
        refine runTf g'15 ?_
        refine go_loop try_mixed (by kernel_rfl) (fun k F Hx => ∃ i : Nat, i + k = sc.length ∧ lnO W Hh xs l sc g = lrnW W Hh (echL l (sc.drop i) g) (lwS W Hh l sc g (lfS W (allL W Hh l sc g) xs (allL W Hh l sc g).length) i) ∧ F = [(1, .sl (some (bs, 0)) l.length cs), (3, .int .i64 g), (4, .ptr (some (H.length, 0))), (8, .ptr (some (H.length + 1, 0))), (10, .ptr (some (H.length + 3, 0))), (66, .sl (some (bq, 0)) sc.length cq), (67, .int .i64 ((sc.length : Nat) : Int)), (68, .int .i64 ((i : Nat) : Int))] ∧ Hx = H ++ [.cells true 0 [.int .i64 W, .int .i64 Hh, .sl (some (bpp, 0)) xs.length cpp], .cells true 0 [.int .i64 0, .int .i64 0, .sl none 0 (some 0)], .cells true 1 (ints .u8 (lwS W Hh l sc g (lfS W (allL W Hh l sc g) xs (allL W Hh l sc g).length) i)), .cells true 0 [.int .i64 W, .int .i64 Hh, .sl (some (H.length + 2, 0)) ((lwS W Hh l sc g (lfS W (allL W Hh l sc g) xs (allL W Hh l sc g).length) i).length) none]]) (sc.length) ?_ ?_
        · refine ⟨_, _, _, ⟨0, by omega, by unfold lnO; rw [if_pos htau, hrem]; rfl, rfl, rfl⟩, Abs.byG hbel [] rfl [0, 1, 2, 3] (by decide) ?_⟩
          exact absRf @lwS.eq_1
        · rintro k1 F Hx ⟨i, hm1, hrem2, rfl, rfl⟩ J1 hJ1
          refine runTf g'15 ?_
          refine cond_split (fun h20 => ?_) (fun h20 => ?_)
          · have h20d := bsT h20
            have hlt : i < sc.length := by omega
            have hbi := beaB_iff.1 (hsc2.2 _ (List.getElem_mem hlt))
            rw [← pr_eq hlt] at hbi
            have hwv := lwS_vld (W := W) (Hh := Hh) (l := l) (sc := sc) (g := g) (lfS_vld (W := W) (A := (allL W Hh l sc g)) hV (allL W Hh l sc g).length) i
            have hsl := susL_len (l := l) (m := g1 sc i) (r := g2 sc i) (g := g) hS
            have q21 := prs_load (l := sc) (j := i) (by omega)
            have g'16 := (jn @h20 (jn @h20d (jn @q21 g'15)))
            refine runTf g'16 ?_
            refine cond_split (fun h22 => ?_) (fun h22 => ?_)
            · have h22d := bsT h22
              have h22n := bnT h22
              have hr1 : g2 sc i = -1 := by simpa using h22d
              have hst := lwS_skip (W := W) (Hh := Hh) (l := l) (g := g) (o := (lfS W (allL W Hh l sc g) xs (allL W Hh l sc g).length)) hr1
              have hnx := lwS_next (W := W) (Hh := Hh) (l := l) (g := g) (o := (lfS W (allL W Hh l sc g) xs (allL W Hh l sc g).length)) hlt (.inl hr1)
              have g'17 := (jn @h22 (jn @h22n (jn @int_bne (jn @int_beq g'16))))
              refine runTf g'17 ?_
              refine hJ1 _ _ ⟨k1 - 1, by omega, _, _, _, ⟨i + 1, by omega, hrem2.trans hnx, rfl, rfl⟩, Abs.byG hbel [] rfl [0, 1, 2, 3] (by decide) ?_⟩
              exact absRf (jn @hst @List.length_set.{0})
            · have h22d := bsT h22
              have h22n := bnT h22
              have hr1 : ¬ g2 sc i = -1 := by simpa using h22d
              have g'18 := (jn @h22 (jn @h22n (jn @int_bne (jn @int_beq g'16))))
              refine runTf g'18 ?_
              refine call_v (by kernel_rfl) (ksus2_c _ _ l (g1 sc i) (g2 sc i) g ⟨_, _, _, rfl, by first | exact hb0s _ | exact hbs⟩ hS (by omega) (by omega)) ?_
              refine runTf g'18 ?_
              refine call_v (by kernel_rfl) (del_cell _ _ _ (susL l (g1 sc i) (g2 sc i) g) (by rw [get_newk]; rfl) (Nat.le_trans (susL_len hS) (by decide)) _ [.ptr (some (H.length + 3, 0))] (by kernel_rfl) (by simp [AV.bels, AV.bel]) (frP W Hh (lwS W Hh l sc g (lfS W (allL W Hh l sc g) xs (allL W Hh l sc g).length) i)) (fun X e L he => learn1_c _ e.1 e.2 W Hh (.sl (some (H.length + 2, 0)) (lwS W Hh l sc g (lfS W (allL W Hh l sc g) xs (allL W Hh l sc g).length) i).length none) (lwS W Hh l sc g (lfS W (allL W Hh l sc g) xs (allL W Hh l sc g).length) i) _ ⟨_, _, _, rfl, by rw [set_newk, List.append_assoc, get_newk]; rfl⟩ ⟨_, by rw [set_newk, List.append_assoc, get_newk]; rfl⟩ (lwS_vld (lfS_vld hV _) _))) ?_
              refine runTf g'18 ?_
              refine cond_split (fun h23 => ?_) (fun h23 => ?_)
              · have h23d := bsT h23
                have h23n := bnT h23
                have hd0 : (delL (frP W Hh (lwS W Hh l sc g (lfS W (allL W Hh l sc g) xs (allL W Hh l sc g).length) i)) (susL l (g1 sc i) (g2 sc i) g)).length = 0 := by have q := h23d; omega
                have hfinP := ln_11 hR (hrem2.trans (lwS_bad hlt hr1 hd0))
                have g'19 := (jn @h23 (jn @h23n g'18))
                refine runTf g'19 ?_
                refine hQ _ _ (end_byG (.inl rfl) hbel (x1 := .tup [.agg [.int .i64 0, .int .i64 0, .sl none 0 (some 0)], .int .i64 11]) (l2 := [.cells false 1 []]) (.tup [.agg [.int .i64 0, .int .i64 0, .sl (some (H.length, 0)) 0 none], .int .i64 11]) (resT Tryz.results20) [.cells false 1 []] rfl [6] (by decide) ⟨by first | (rw [hfinP.1, hfinP.2.1, hfinP.2.2.1, hfinP.2.2.2]; done) | (rw [hfinP.1, hfinP.2.1, hfinP.2.2.1, hfinP.2.2.2]; rfl) | skip, by first | (rw [hfinP.2.1, hfinO]; done) | (rw [hfinP.2.1, hfinO]; rfl) | (rw [hfinP.2.1]; done) | (rw [hfinP.2.1]; rfl) | skip⟩ ?_)
                exact absW
              · have h23d := bsT h23
                have h23n := bnT h23
                have hd0 : ¬ (delL (frP W Hh (lwS W Hh l sc g (lfS W (allL W Hh l sc g) xs (allL W Hh l sc g).length) i)) (susL l (g1 sc i) (g2 sc i) g)).length = 0 := by have q := h23d; first | omega | (rw [beq_eq_false_iff_ne] at q; omega)
                have hp1 : g1 (padL (susL l (g1 sc i) (g2 sc i) g).length (delL (frP W Hh (lwS W Hh l sc g (lfS W (allL W Hh l sc g) xs (allL W Hh l sc g).length) i)) (susL l (g1 sc i) (g2 sc i) g))) 0 = g1 (delL (frP W Hh (lwS W Hh l sc g (lfS W (allL W Hh l sc g) xs (allL W Hh l sc g).length) i)) (susL l (g1 sc i) (g2 sc i) g)) 0 := pad_g1 hd0
                have hp2 : g2 (padL (susL l (g1 sc i) (g2 sc i) g).length (delL (frP W Hh (lwS W Hh l sc g (lfS W (allL W Hh l sc g) xs (allL W Hh l sc g).length) i)) (susL l (g1 sc i) (g2 sc i) g))) 0 = g2 (delL (frP W Hh (lwS W Hh l sc g (lfS W (allL W Hh l sc g) xs (allL W Hh l sc g).length) i)) (susL l (g1 sc i) (g2 sc i) g)) 0 := pad_g2 hd0
                have hsfp := pad_len (p := frP W Hh (lwS W Hh l sc g (lfS W (allL W Hh l sc g) xs (allL W Hh l sc g).length) i)) (l := (susL l (g1 sc i) (g2 sc i) g))
                have hpn := delL_le (p := frP W Hh (lwS W Hh l sc g (lfS W (allL W Hh l sc g) xs (allL W Hh l sc g).length) i)) (l := (susL l (g1 sc i) (g2 sc i) g))
                have hnx := lwS_next (W := W) (Hh := Hh) (l := l) (g := g) (o := (lfS W (allL W Hh l sc g) xs (allL W Hh l sc g).length)) hlt (.inr hd0)
                have q24 := (show List.take 2 (prs (padL (susL l (g1 sc i) (g2 sc i) g).length (delL (frP W Hh (lwS W Hh l sc g (lfS W (allL W Hh l sc g) xs (allL W Hh l sc g).length) i)) (susL l (g1 sc i) (g2 sc i) g)))) = [.int .i64 (g1 (padL (susL l (g1 sc i) (g2 sc i) g).length (delL (frP W Hh (lwS W Hh l sc g (lfS W (allL W Hh l sc g) xs (allL W Hh l sc g).length) i)) (susL l (g1 sc i) (g2 sc i) g))) 0), .int .i64 (g2 (padL (susL l (g1 sc i) (g2 sc i) g).length (delL (frP W Hh (lwS W Hh l sc g (lfS W (allL W Hh l sc g) xs (allL W Hh l sc g).length) i)) (susL l (g1 sc i) (g2 sc i) g))) 0)] from by have q := prs_load (l := padL (susL l (g1 sc i) (g2 sc i) g).length (delL (frP W Hh (lwS W Hh l sc g (lfS W (allL W Hh l sc g) xs (allL W Hh l sc g).length) i)) (susL l (g1 sc i) (g2 sc i) g))) (j := 0) (by omega); rwa [Nat.zero_mul, List.drop_zero] at q)
                have g'20 := (jn @h23 (jn @h23n (jn @hsfp (jn @q24 g'18))))
                refine runTf g'20 ?_
                refine gd_split (fun h25 => ?_) (fun h25 => ?_)
                · have h25d := bsT h25
                  have h25n := bnT h25
                  have hd1 : (delL (frP W Hh (lwS W Hh l sc g (lfS W (allL W Hh l sc g) xs (allL W Hh l sc g).length) i)) (susL l (g1 sc i) (g2 sc i) g)).length = 1 := by have q := h25d; omega
                  have g'21 := (jn @h25 (jn @h25n g'20))
                  refine runTf g'21 ?_
                  refine call_v (by kernel_rfl) (kwithin_c _ (g1 (padL (susL l (g1 sc i) (g2 sc i) g).length (delL (frP W Hh (lwS W Hh l sc g (lfS W (allL W Hh l sc g) xs (allL W Hh l sc g).length) i)) (susL l (g1 sc i) (g2 sc i) g))) 0) 0 (W - 1)) ?_
                  refine runTf g'21 ?_
                  refine gd_split (fun h26 => ?_) (fun h26 => ?_)
                  · have h26d := bsT h26
                    have hd2 := h26d
                    rw [hp1] at hd2
                    have g'22 := (jn @h26 (jn @h26d g'21))
                    refine runTf g'22 ?_
                    refine call_v (by kernel_rfl) (kwithin_c _ (g2 (padL (susL l (g1 sc i) (g2 sc i) g).length (delL (frP W Hh (lwS W Hh l sc g (lfS W (allL W Hh l sc g) xs (allL W Hh l sc g).length) i)) (susL l (g1 sc i) (g2 sc i) g))) 0) 0 (Hh - 1)) ?_
                    refine runTf g'22 ?_
                    refine cond_split (fun h27 => ?_) (fun h27 => ?_)
                    · have h27d := bsT h27
                      have hd3 := h27d
                      rw [hp2] at hd3
                      have hst := lwS_set (W := W) (Hh := Hh) (l := l) (g := g) (o := (lfS W (allL W Hh l sc g) xs (allL W Hh l sc g).length)) hr1 ⟨hd1, hd2, hd3⟩
                      rw [← hp1, ← hp2] at hst
                      obtain ⟨j1, j2, j3, j4, j5, -⟩ := (vld_iff.1 hwv).idx (x := g1 (padL (susL l (g1 sc i) (g2 sc i) g).length (delL (frP W Hh (lwS W Hh l sc g (lfS W (allL W Hh l sc g) xs (allL W Hh l sc g).length) i)) (susL l (g1 sc i) (g2 sc i) g))) 0) (y := g2 (padL (susL l (g1 sc i) (g2 sc i) g).length (delL (frP W Hh (lwS W Hh l sc g (lfS W (allL W Hh l sc g) xs (allL W Hh l sc g).length) i)) (susL l (g1 sc i) (g2 sc i) g))) 0) (inB_iff.2 (by rw [hp1, hp2]; have := btw_iff.1 hd2; have := btw_iff.1 hd3; omega))
                      have g'23 := (jn @h27 (jn @h27d (jn @ints_set1 (jn @List.length_set.{0} g'22))))
                      refine runTf g'23 ?_
                      refine hJ1 _ _ ⟨k1 - 1, by omega, _, _, _, ⟨i + 1, by omega, hrem2.trans hnx, rfl, rfl⟩, Abs.byG hbel [] rfl [0, 1, 2, 3] (by decide) ?_⟩
                      exact absRf (jn @hst @List.length_set.{0})
                    · have h27d := bsT h27
                      have hd3 := h27d
                      rw [hp2] at hd3
                      have hst := lwS_same (W := W) (Hh := Hh) (l := l) (g := g) (o := (lfS W (allL W Hh l sc g) xs (allL W Hh l sc g).length)) hr1 (fun q => by rw [hd3] at q; exact absurd q.2.2 (by decide))
                      have g'24 := (jn @h27 (jn @h27d g'22))
                      refine runTf g'24 ?_
                      refine hJ1 _ _ ⟨k1 - 1, by omega, _, _, _, ⟨i + 1, by omega, hrem2.trans hnx, rfl, rfl⟩, Abs.byG hbel [] rfl [0, 1, 2, 3] (by decide) ?_⟩
                      exact absRf (jn @hst @List.length_set.{0})
                  · have h26d := bsT h26
                    have hd2 := h26d
                    rw [hp1] at hd2
                    have hst := lwS_same (W := W) (Hh := Hh) (l := l) (g := g) (o := (lfS W (allL W Hh l sc g) xs (allL W Hh l sc g).length)) hr1 (fun q => by rw [hd2] at q; exact absurd q.2.1 (by decide))
                    have g'25 := (jn @h26 (jn @h26d g'21))
                    refine runTf g'25 ?_
                    refine hJ1 _ _ ⟨k1 - 1, by omega, _, _, _, ⟨i + 1, by omega, hrem2.trans hnx, rfl, rfl⟩, Abs.byG hbel [] rfl [0, 1, 2, 3] (by decide) ?_⟩
                    exact absRf (jn @hst @List.length_set.{0})
                · have h25d := bsT h25
                  have h25n := bnT h25
                  have hd1 : ¬ (delL (frP W Hh (lwS W Hh l sc g (lfS W (allL W Hh l sc g) xs (allL W Hh l sc g).length) i)) (susL l (g1 sc i) (g2 sc i) g)).length = 1 := by have q := h25d; first | omega | (rw [beq_eq_false_iff_ne] at q; omega)
                  have hst := lwS_same (W := W) (Hh := Hh) (l := l) (g := g) (o := (lfS W (allL W Hh l sc g) xs (allL W Hh l sc g).length)) hr1 (fun q => hd1 q.1)
                  have g'26 := (jn @h25 (jn @h25n g'20))
                  refine runTf g'26 ?_
                  refine hJ1 _ _ ⟨k1 - 1, by omega, _, _, _, ⟨i + 1, by omega, hrem2.trans hnx, rfl, rfl⟩, Abs.byG hbel [] rfl [0, 1, 2, 3] (by decide) ?_⟩
                  exact absRf (jn @hst @List.length_set.{0})
          · have h20d := bsT h20
            obtain rfl : i = sc.length := by omega
            rw [List.drop_length] at hrem2
            have hfinP := ln_0 hR hrem2
            have hfinO : ownG (lwS W Hh l sc g (lfS W (allL W Hh l sc g) xs (allL W Hh l sc g).length) sc.length).length = true := ownG_p (by have := vld_pos (lwS_vld (W := W) (Hh := Hh) (l := l) (sc := sc) (g := g) (lfS_vld (W := W) (A := (allL W Hh l sc g)) hV (allL W Hh l sc g).length) sc.length); omega)
            have g'27 := (jn @h20 (jn @h20d g'15))
            refine runTf g'27 ?_
            refine hQ _ _ (end_byG (.inl rfl) hbel (x1 := .tup [.agg [.int .i64 W, .int .i64 Hh, .sl (some (H.length + 2, 0)) ((lwS W Hh l sc g (lfS W (allL W Hh l sc g) xs (allL W Hh l sc g).length) sc.length).length) none], .int .i64 0]) (l2 := [.cells true 1 (ints .u8 (lwS W Hh l sc g (lfS W (allL W Hh l sc g) xs (allL W Hh l sc g).length) sc.length))]) (.tup [.agg [.int .i64 W, .int .i64 Hh, .sl (some (H.length, 0)) ((lwS W Hh l sc g (lfS W (allL W Hh l sc g) xs (allL W Hh l sc g).length) sc.length).length) none], .int .i64 0]) (resT Tryz.results20) [] rfl [2] (by decide) ⟨by first | (rw [hfinP.1, hfinP.2.1, hfinP.2.2.1, hfinP.2.2.2]; done) | (rw [hfinP.1, hfinP.2.1, hfinP.2.2.1, hfinP.2.2.2]; rfl) | skip, by first | (rw [hfinP.2.1, hfinO]; done) | (rw [hfinP.2.1, hfinO]; rfl) | (rw [hfinP.2.1]; done) | (rw [hfinP.2.1]; rfl) | skip⟩ ?_)
            exact absW
open Go.RowKit
theorem learnT_c (H : AHeap) (W Hh : Int) (pp : AV) (xs : List Int) (s : AV) (l : List T6) (q : AV) (sc : List (Int × Int)) (g : Int) (o : List Int) (hpp : Sl H 1 pp xs.length (ints .u8 xs)) (hs : Sl H 6 s l.length (r6 l)) (hq : Sl H 2 q sc.length (prs sc)) (hR : rgtA W Hh xs l sc g = true) (ho : lnO W Hh xs l sc g = some o) :
    ACalls Tryz.prog 20 [.agg [.int .i64 W, .int .i64 Hh, pp], s, q, .int .i64 g] H (fun v H' => v = .tup [.agg [.int .i64 W, .int .i64 Hh, .sl (some (H.length, 0)) o.length none], .int .i64 0] ∧ H' = H ++ [.cells (ownG o.length) 1 (ints .u8 o)]) := by
  obtain ⟨hV, hl0, hS, hsB, hg⟩ := rgtA_iff.1 hR
  have k := learn_c H W Hh pp xs s l q sc g hpp hs hq (by have := setB_len hS; omega) (by have := (scnB_iff.1 hsB).1; omega)
  obtain ⟨e1, e2, e3, e4⟩ := ln_0 hR ho
  rw [e1, e2, e3, e4] at k
  exact k
theorem seen_c (H : AHeap) (W : Int) (Hh : Int) (pp : AV) (xs : List Int) (ax : Int) (ay : Int) (ah : Int) (v : AV) (vls : List Int) (mk : AV) (mks : List Int) (er : AV) (ers : List Int) (g : Int) (hpp : Sl H 1 pp xs.length (ints .u8 xs)) (hv : Sl H 1 v vls.length (ints .u8 vls)) (hmk : Sl H 1 mk mks.length (ints .i64 mks)) (her : Sl H 1 er ers.length (ints .i64 ers)) (hel : ers.length ≤ 9223372036854775807) : ACalls Tryz.prog 27 [.agg [.int .i64 W, .int .i64 Hh, pp, .int .i64 ax, .int .i64 ay, .int .i64 ah, v, mk, er, .int .i64 g]] H (fun v H' => v = .tup [.sl (some (H.length, 0)) ((senL W Hh xs ax ay ah mks ers g).length) (capG (senL W Hh xs ax ay ah mks ers g).length), .bool (senB W Hh xs ax ay ah mks g)] ∧ H' = H ++ [.cells (ownG (senL W Hh xs ax ay ah mks ers g).length) 2 (prs (senL W Hh xs ax ay ah mks ers g))]) := by
  obtain ⟨bpp, opp, cpp, rfl, hbpp⟩ := hpp
  have hblpp := getElem?_lt hbpp
  have hb0pp := fun l => get_app (l := l) hbpp
  obtain ⟨bv, ov, cv, rfl, hbv⟩ := hv
  have hblv := getElem?_lt hbv
  have hb0v := fun l => get_app (l := l) hbv
  obtain ⟨bmk, omk, cmk, rfl, hbmk⟩ := hmk
  have hblmk := getElem?_lt hbmk
  have hb0mk := fun l => get_app (l := l) hbmk
  obtain ⟨ber, oer, cer, rfl, hber⟩ := her
  have hbler := getElem?_lt hber
  have hb0er := fun l => get_app (l := l) hber
  refine AcT false Tryz.func27 ?_; intro hbel Q hQ
  have g'1 := (jn @hbpp (jn @hb0pp (jn @hbv (jn @hb0v (jn @hbmk (jn @hb0mk (jn @hber @hb0er)))))))
  refine runTf g'1 ?_
  refine call_v (by kernel_rfl) (bld_c _ W Hh _ xs ⟨_, _, _, rfl, by first | exact hb0pp _ | exact hbpp⟩) ?_
  refine runTf g'1 ?_
  refine gd_split (fun h1 => ?_) (fun h1 => ?_)
  · have h1d := bsT h1
    have hBl := h1d
    have hV : vldB W Hh xs = true := by have hh := hBl; unfold bldB at hh; rw [Bool.and_eq_true] at hh; exact hh.1
    have hVV := vld_iff.1 hV
    have hw1 := hVV.w1
    have hh1 := hVV.h1
    have hw0 := hVV.w0
    have hh0 := hVV.h0
    have g'2 := (jn @h1 (jn @h1d g'1))
    refine runTf g'2 ?_
    refine gd_split (fun h2 => ?_) (fun h2 => ?_)
    · have h2d := bsT h2
      have g'3 := (jn @h2 (jn @h2d g'2))
      refine runTf g'3 ?_
      refine gd_split (fun h3 => ?_) (fun h3 => ?_)
      · have h3d := bsT h3
        have g'4 := (jn @h3 (jn @h3d g'3))
        refine runTf g'4 ?_
        refine call_v (by kernel_rfl) (bpose_c _ ax ay ah) ?_
        refine runTf g'4 ?_
        refine gd_split (fun h4 => ?_) (fun h4 => ?_)
        · have h4d := bsT h4
          have hP := h4d
          have hPi := poseB_iff.1 hP
          have hbt := btw_iff.1 hPi.2
          have g'5 := (jn @h4 (jn @h4d g'4))
          refine runTf g'5 ?_
          refine gd_split (fun h5 => ?_) (fun h5 => ?_)
          · have h5d := bsT h5
            have g'6 := (jn @h5 (jn @h5d g'5))
            refine runTf g'6 ?_
            refine cond_split (fun h6 => ?_) (fun h6 => ?_)
            · have h6d := bsT h6
              have g'7 := (jn @h6 (jn @h6d g'6))
              refine runTf g'7 ?_
              refine hQ _ _ (end_byG (.inl rfl) hbel (x1 := .tup [.sl none 0 (some 0), .bool false]) (l2 := [.cells false 2 []]) (.tup [.sl (some (H.length, 0)) 0 (some 0), .bool false]) (resT Tryz.results27) [.cells false 2 []] rfl [1] (by decide) ⟨by first | (rw [(senB_f (ers := ers) (by simp [senA, h1d, h2d, h3d, h4d, h5d, h6d])).1, (senB_f (ers := ers) (by simp [senA, h1d, h2d, h3d, h4d, h5d, h6d])).2]; done) | (rw [(senB_f (ers := ers) (by simp [senA, h1d, h2d, h3d, h4d, h5d, h6d])).1, (senB_f (ers := ers) (by simp [senA, h1d, h2d, h3d, h4d, h5d, h6d])).2]; rfl) | (rw [(senB_t (ers := ers) (by simp [senA, h1d, h2d, h3d, h4d, h5d, h6d])).1, (senB_t (ers := ers) (by simp [senA, h1d, h2d, h3d, h4d, h5d, h6d])).2]; done) | (rw [(senB_t (ers := ers) (by simp [senA, h1d, h2d, h3d, h4d, h5d, h6d])).1, (senB_t (ers := ers) (by simp [senA, h1d, h2d, h3d, h4d, h5d, h6d])).2]; rfl), by first | (rw [(senB_f (ers := ers) (by simp [senA, h1d, h2d, h3d, h4d, h5d, h6d])).2]; done) | (rw [(senB_f (ers := ers) (by simp [senA, h1d, h2d, h3d, h4d, h5d, h6d])).2]; rfl) | (rw [(senB_t (ers := ers) (by simp [senA, h1d, h2d, h3d, h4d, h5d, h6d])).2]; done) | (rw [(senB_t (ers := ers) (by simp [senA, h1d, h2d, h3d, h4d, h5d, h6d])).2]; rfl)⟩ ?_)
              exact absW
            · have h6d := bsT h6
              have g'8 := (jn @h6 (jn @h6d g'6))
              refine runTf g'8 ?_
              refine gd_split (fun h7 => ?_) (fun h7 => ?_)
              · have h7d := bsT h7
                have g'9 := (jn @h7 (jn @h7d g'8))
                refine runTf g'9 ?_
                refine gd_split (fun h8 => ?_) (fun h8 => ?_)
                · have h8d := bsT h8
                  have g'10 := (jn @h8 (jn @h8d g'9))
                  refine runTf g'10 ?_
                  refine gd_split (fun h9 => ?_) (fun h9 => ?_)
                  · have h9d := bsT h9
                    have g'11 := (jn @h9 (jn @h9d g'10))
                    refine runTf g'11 ?_
                    refine cond_split (fun h10 => ?_) (fun h10 => ?_)
                    · have h10d := bsT h10
                      have g'12 := (jn @h10 (jn @h10d g'11))
                      refine runTf g'12 ?_
                      refine hQ _ _ (end_byG (.inl rfl) hbel (x1 := .tup [.sl none 0 (some 0), .bool false]) (l2 := [.cells false 2 []]) (.tup [.sl (some (H.length, 0)) 0 (some 0), .bool false]) (resT Tryz.results27) [.cells false 2 []] rfl [1] (by decide) ⟨by first | (rw [(senB_f (ers := ers) (by simp [senA, h1d, h2d, h3d, h4d, h5d, h6d, h7d, h8d, h9d, h10d])).1, (senB_f (ers := ers) (by simp [senA, h1d, h2d, h3d, h4d, h5d, h6d, h7d, h8d, h9d, h10d])).2]; done) | (rw [(senB_f (ers := ers) (by simp [senA, h1d, h2d, h3d, h4d, h5d, h6d, h7d, h8d, h9d, h10d])).1, (senB_f (ers := ers) (by simp [senA, h1d, h2d, h3d, h4d, h5d, h6d, h7d, h8d, h9d, h10d])).2]; rfl) | (rw [(senB_t (ers := ers) (by simp [senA, h1d, h2d, h3d, h4d, h5d, h6d, h7d, h8d, h9d, h10d])).1, (senB_t (ers := ers) (by simp [senA, h1d, h2d, h3d, h4d, h5d, h6d, h7d, h8d, h9d, h10d])).2]; done) | (rw [(senB_t (ers := ers) (by simp [senA, h1d, h2d, h3d, h4d, h5d, h6d, h7d, h8d, h9d, h10d])).1, (senB_t (ers := ers) (by simp [senA, h1d, h2d, h3d, h4d, h5d, h6d, h7d, h8d, h9d, h10d])).2]; rfl), by first | (rw [(senB_f (ers := ers) (by simp [senA, h1d, h2d, h3d, h4d, h5d, h6d, h7d, h8d, h9d, h10d])).2]; done) | (rw [(senB_f (ers := ers) (by simp [senA, h1d, h2d, h3d, h4d, h5d, h6d, h7d, h8d, h9d, h10d])).2]; rfl) | (rw [(senB_t (ers := ers) (by simp [senA, h1d, h2d, h3d, h4d, h5d, h6d, h7d, h8d, h9d, h10d])).2]; done) | (rw [(senB_t (ers := ers) (by simp [senA, h1d, h2d, h3d, h4d, h5d, h6d, h7d, h8d, h9d, h10d])).2]; rfl)⟩ ?_)
                      exact absW
                    · have h10d := bsT h10
                      have hG : stdB W Hh xs ax ay ah = true := by unfold stdB; rw [inpB_iff.2 ⟨hV, by omega, by omega⟩, hPi.2]; rfl
                      have hg : 1 ≤ g ∧ g ≤ 32 := by omega
                      have g'13 := (jn @h10 (jn @h10d g'11))
                      refine runTf g'13 ?_
                      refine call_v (by kernel_rfl) (raysw_c _ W Hh _ xs ax ay ah _ mks g _ ers ⟨_, _, _, rfl, by first | exact hb0pp _ | exact hbpp⟩ ⟨_, _, _, rfl, by first | exact hb0mk _ | exact hbmk⟩ ⟨_, _, _, rfl, by first | exact hb0er _ | exact hber⟩ (by assumption) (by omega) (by omega)) ?_
                      refine runTf g'13 ?_
                      refine hQ _ _ (end_byG (.inl rfl) hbel (x1 := .tup [.sl (some (H.length + 1, 0)) ((spL W Hh xs ax ay ah g mks ers).length) (capG (spL W Hh xs ax ay ah g mks ers).length), .bool ((swpE mks) == 0)]) (l2 := [.cells (ownG (spL W Hh xs ax ay ah g mks ers).length) 2 (prs (spL W Hh xs ax ay ah g mks ers))]) (.tup [.sl (some (H.length, 0)) ((spL W Hh xs ax ay ah g mks ers).length) (capG (spL W Hh xs ax ay ah g mks ers).length), .bool ((swpE mks) == 0)]) (resT Tryz.results27) [] rfl [1] (by decide) ⟨by first | (rw [(senB_f (ers := ers) (by simp [senA, h1d, h2d, h3d, h4d, h5d, h6d, h7d, h8d, h9d, h10d])).1, (senB_f (ers := ers) (by simp [senA, h1d, h2d, h3d, h4d, h5d, h6d, h7d, h8d, h9d, h10d])).2]; done) | (rw [(senB_f (ers := ers) (by simp [senA, h1d, h2d, h3d, h4d, h5d, h6d, h7d, h8d, h9d, h10d])).1, (senB_f (ers := ers) (by simp [senA, h1d, h2d, h3d, h4d, h5d, h6d, h7d, h8d, h9d, h10d])).2]; rfl) | (rw [(senB_t (ers := ers) (by simp [senA, h1d, h2d, h3d, h4d, h5d, h6d, h7d, h8d, h9d, h10d])).1, (senB_t (ers := ers) (by simp [senA, h1d, h2d, h3d, h4d, h5d, h6d, h7d, h8d, h9d, h10d])).2]; done) | (rw [(senB_t (ers := ers) (by simp [senA, h1d, h2d, h3d, h4d, h5d, h6d, h7d, h8d, h9d, h10d])).1, (senB_t (ers := ers) (by simp [senA, h1d, h2d, h3d, h4d, h5d, h6d, h7d, h8d, h9d, h10d])).2]; rfl), by first | (rw [(senB_f (ers := ers) (by simp [senA, h1d, h2d, h3d, h4d, h5d, h6d, h7d, h8d, h9d, h10d])).2]; done) | (rw [(senB_f (ers := ers) (by simp [senA, h1d, h2d, h3d, h4d, h5d, h6d, h7d, h8d, h9d, h10d])).2]; rfl) | (rw [(senB_t (ers := ers) (by simp [senA, h1d, h2d, h3d, h4d, h5d, h6d, h7d, h8d, h9d, h10d])).2]; done) | (rw [(senB_t (ers := ers) (by simp [senA, h1d, h2d, h3d, h4d, h5d, h6d, h7d, h8d, h9d, h10d])).2]; rfl)⟩ ?_)
                      exact absW
                  · have h9d := bsT h9
                    have g'14 := (jn @h9 (jn @h9d g'10))
                    refine runTf g'14 ?_
                    refine hQ _ _ (end_byG (.inl rfl) hbel (x1 := .tup [.sl none 0 (some 0), .bool false]) (l2 := [.cells false 2 []]) (.tup [.sl (some (H.length, 0)) 0 (some 0), .bool false]) (resT Tryz.results27) [.cells false 2 []] rfl [1] (by decide) ⟨by first | (rw [(senB_f (ers := ers) (by simp [senA, h1d, h2d, h3d, h4d, h5d, h6d, h7d, h8d, h9d])).1, (senB_f (ers := ers) (by simp [senA, h1d, h2d, h3d, h4d, h5d, h6d, h7d, h8d, h9d])).2]; done) | (rw [(senB_f (ers := ers) (by simp [senA, h1d, h2d, h3d, h4d, h5d, h6d, h7d, h8d, h9d])).1, (senB_f (ers := ers) (by simp [senA, h1d, h2d, h3d, h4d, h5d, h6d, h7d, h8d, h9d])).2]; rfl) | (rw [(senB_t (ers := ers) (by simp [senA, h1d, h2d, h3d, h4d, h5d, h6d, h7d, h8d, h9d])).1, (senB_t (ers := ers) (by simp [senA, h1d, h2d, h3d, h4d, h5d, h6d, h7d, h8d, h9d])).2]; done) | (rw [(senB_t (ers := ers) (by simp [senA, h1d, h2d, h3d, h4d, h5d, h6d, h7d, h8d, h9d])).1, (senB_t (ers := ers) (by simp [senA, h1d, h2d, h3d, h4d, h5d, h6d, h7d, h8d, h9d])).2]; rfl), by first | (rw [(senB_f (ers := ers) (by simp [senA, h1d, h2d, h3d, h4d, h5d, h6d, h7d, h8d, h9d])).2]; done) | (rw [(senB_f (ers := ers) (by simp [senA, h1d, h2d, h3d, h4d, h5d, h6d, h7d, h8d, h9d])).2]; rfl) | (rw [(senB_t (ers := ers) (by simp [senA, h1d, h2d, h3d, h4d, h5d, h6d, h7d, h8d, h9d])).2]; done) | (rw [(senB_t (ers := ers) (by simp [senA, h1d, h2d, h3d, h4d, h5d, h6d, h7d, h8d, h9d])).2]; rfl)⟩ ?_)
                    exact absW
                · have h8d := bsT h8
                  have g'15 := (jn @h8 (jn @h8d g'9))
                  refine runTf g'15 ?_
                  refine hQ _ _ (end_byG (.inl rfl) hbel (x1 := .tup [.sl none 0 (some 0), .bool false]) (l2 := [.cells false 2 []]) (.tup [.sl (some (H.length, 0)) 0 (some 0), .bool false]) (resT Tryz.results27) [.cells false 2 []] rfl [1] (by decide) ⟨by first | (rw [(senB_f (ers := ers) (by simp [senA, h1d, h2d, h3d, h4d, h5d, h6d, h7d, h8d])).1, (senB_f (ers := ers) (by simp [senA, h1d, h2d, h3d, h4d, h5d, h6d, h7d, h8d])).2]; done) | (rw [(senB_f (ers := ers) (by simp [senA, h1d, h2d, h3d, h4d, h5d, h6d, h7d, h8d])).1, (senB_f (ers := ers) (by simp [senA, h1d, h2d, h3d, h4d, h5d, h6d, h7d, h8d])).2]; rfl) | (rw [(senB_t (ers := ers) (by simp [senA, h1d, h2d, h3d, h4d, h5d, h6d, h7d, h8d])).1, (senB_t (ers := ers) (by simp [senA, h1d, h2d, h3d, h4d, h5d, h6d, h7d, h8d])).2]; done) | (rw [(senB_t (ers := ers) (by simp [senA, h1d, h2d, h3d, h4d, h5d, h6d, h7d, h8d])).1, (senB_t (ers := ers) (by simp [senA, h1d, h2d, h3d, h4d, h5d, h6d, h7d, h8d])).2]; rfl), by first | (rw [(senB_f (ers := ers) (by simp [senA, h1d, h2d, h3d, h4d, h5d, h6d, h7d, h8d])).2]; done) | (rw [(senB_f (ers := ers) (by simp [senA, h1d, h2d, h3d, h4d, h5d, h6d, h7d, h8d])).2]; rfl) | (rw [(senB_t (ers := ers) (by simp [senA, h1d, h2d, h3d, h4d, h5d, h6d, h7d, h8d])).2]; done) | (rw [(senB_t (ers := ers) (by simp [senA, h1d, h2d, h3d, h4d, h5d, h6d, h7d, h8d])).2]; rfl)⟩ ?_)
                  exact absW
              · have h7d := bsT h7
                have g'16 := (jn @h7 (jn @h7d g'8))
                refine runTf g'16 ?_
                refine hQ _ _ (end_byG (.inl rfl) hbel (x1 := .tup [.sl none 0 (some 0), .bool false]) (l2 := [.cells false 2 []]) (.tup [.sl (some (H.length, 0)) 0 (some 0), .bool false]) (resT Tryz.results27) [.cells false 2 []] rfl [1] (by decide) ⟨by first | (rw [(senB_f (ers := ers) (by simp [senA, h1d, h2d, h3d, h4d, h5d, h6d, h7d])).1, (senB_f (ers := ers) (by simp [senA, h1d, h2d, h3d, h4d, h5d, h6d, h7d])).2]; done) | (rw [(senB_f (ers := ers) (by simp [senA, h1d, h2d, h3d, h4d, h5d, h6d, h7d])).1, (senB_f (ers := ers) (by simp [senA, h1d, h2d, h3d, h4d, h5d, h6d, h7d])).2]; rfl) | (rw [(senB_t (ers := ers) (by simp [senA, h1d, h2d, h3d, h4d, h5d, h6d, h7d])).1, (senB_t (ers := ers) (by simp [senA, h1d, h2d, h3d, h4d, h5d, h6d, h7d])).2]; done) | (rw [(senB_t (ers := ers) (by simp [senA, h1d, h2d, h3d, h4d, h5d, h6d, h7d])).1, (senB_t (ers := ers) (by simp [senA, h1d, h2d, h3d, h4d, h5d, h6d, h7d])).2]; rfl), by first | (rw [(senB_f (ers := ers) (by simp [senA, h1d, h2d, h3d, h4d, h5d, h6d, h7d])).2]; done) | (rw [(senB_f (ers := ers) (by simp [senA, h1d, h2d, h3d, h4d, h5d, h6d, h7d])).2]; rfl) | (rw [(senB_t (ers := ers) (by simp [senA, h1d, h2d, h3d, h4d, h5d, h6d, h7d])).2]; done) | (rw [(senB_t (ers := ers) (by simp [senA, h1d, h2d, h3d, h4d, h5d, h6d, h7d])).2]; rfl)⟩ ?_)
                exact absW
          · have h5d := bsT h5
            have g'17 := (jn @h5 (jn @h5d g'5))
            refine runTf g'17 ?_
            refine hQ _ _ (end_byG (.inl rfl) hbel (x1 := .tup [.sl none 0 (some 0), .bool false]) (l2 := [.cells false 2 []]) (.tup [.sl (some (H.length, 0)) 0 (some 0), .bool false]) (resT Tryz.results27) [.cells false 2 []] rfl [1] (by decide) ⟨by first | (rw [(senB_f (ers := ers) (by simp [senA, h1d, h2d, h3d, h4d, h5d])).1, (senB_f (ers := ers) (by simp [senA, h1d, h2d, h3d, h4d, h5d])).2]; done) | (rw [(senB_f (ers := ers) (by simp [senA, h1d, h2d, h3d, h4d, h5d])).1, (senB_f (ers := ers) (by simp [senA, h1d, h2d, h3d, h4d, h5d])).2]; rfl) | (rw [(senB_t (ers := ers) (by simp [senA, h1d, h2d, h3d, h4d, h5d])).1, (senB_t (ers := ers) (by simp [senA, h1d, h2d, h3d, h4d, h5d])).2]; done) | (rw [(senB_t (ers := ers) (by simp [senA, h1d, h2d, h3d, h4d, h5d])).1, (senB_t (ers := ers) (by simp [senA, h1d, h2d, h3d, h4d, h5d])).2]; rfl), by first | (rw [(senB_f (ers := ers) (by simp [senA, h1d, h2d, h3d, h4d, h5d])).2]; done) | (rw [(senB_f (ers := ers) (by simp [senA, h1d, h2d, h3d, h4d, h5d])).2]; rfl) | (rw [(senB_t (ers := ers) (by simp [senA, h1d, h2d, h3d, h4d, h5d])).2]; done) | (rw [(senB_t (ers := ers) (by simp [senA, h1d, h2d, h3d, h4d, h5d])).2]; rfl)⟩ ?_)
            exact absW
        · have h4d := bsT h4
          have g'18 := (jn @h4 (jn @h4d g'4))
          refine runTf g'18 ?_
          refine hQ _ _ (end_byG (.inl rfl) hbel (x1 := .tup [.sl none 0 (some 0), .bool false]) (l2 := [.cells false 2 []]) (.tup [.sl (some (H.length, 0)) 0 (some 0), .bool false]) (resT Tryz.results27) [.cells false 2 []] rfl [1] (by decide) ⟨by first | (rw [(senB_f (ers := ers) (by simp [senA, h1d, h2d, h3d, h4d])).1, (senB_f (ers := ers) (by simp [senA, h1d, h2d, h3d, h4d])).2]; done) | (rw [(senB_f (ers := ers) (by simp [senA, h1d, h2d, h3d, h4d])).1, (senB_f (ers := ers) (by simp [senA, h1d, h2d, h3d, h4d])).2]; rfl) | (rw [(senB_t (ers := ers) (by simp [senA, h1d, h2d, h3d, h4d])).1, (senB_t (ers := ers) (by simp [senA, h1d, h2d, h3d, h4d])).2]; done) | (rw [(senB_t (ers := ers) (by simp [senA, h1d, h2d, h3d, h4d])).1, (senB_t (ers := ers) (by simp [senA, h1d, h2d, h3d, h4d])).2]; rfl), by first | (rw [(senB_f (ers := ers) (by simp [senA, h1d, h2d, h3d, h4d])).2]; done) | (rw [(senB_f (ers := ers) (by simp [senA, h1d, h2d, h3d, h4d])).2]; rfl) | (rw [(senB_t (ers := ers) (by simp [senA, h1d, h2d, h3d, h4d])).2]; done) | (rw [(senB_t (ers := ers) (by simp [senA, h1d, h2d, h3d, h4d])).2]; rfl)⟩ ?_)
          exact absW
      · have h3d := bsT h3
        have g'19 := (jn @h3 (jn @h3d g'3))
        refine runTf g'19 ?_
        refine hQ _ _ (end_byG (.inl rfl) hbel (x1 := .tup [.sl none 0 (some 0), .bool false]) (l2 := [.cells false 2 []]) (.tup [.sl (some (H.length, 0)) 0 (some 0), .bool false]) (resT Tryz.results27) [.cells false 2 []] rfl [1] (by decide) ⟨by first | (rw [(senB_f (ers := ers) (by simp [senA, h1d, h2d, h3d])).1, (senB_f (ers := ers) (by simp [senA, h1d, h2d, h3d])).2]; done) | (rw [(senB_f (ers := ers) (by simp [senA, h1d, h2d, h3d])).1, (senB_f (ers := ers) (by simp [senA, h1d, h2d, h3d])).2]; rfl) | (rw [(senB_t (ers := ers) (by simp [senA, h1d, h2d, h3d])).1, (senB_t (ers := ers) (by simp [senA, h1d, h2d, h3d])).2]; done) | (rw [(senB_t (ers := ers) (by simp [senA, h1d, h2d, h3d])).1, (senB_t (ers := ers) (by simp [senA, h1d, h2d, h3d])).2]; rfl), by first | (rw [(senB_f (ers := ers) (by simp [senA, h1d, h2d, h3d])).2]; done) | (rw [(senB_f (ers := ers) (by simp [senA, h1d, h2d, h3d])).2]; rfl) | (rw [(senB_t (ers := ers) (by simp [senA, h1d, h2d, h3d])).2]; done) | (rw [(senB_t (ers := ers) (by simp [senA, h1d, h2d, h3d])).2]; rfl)⟩ ?_)
        exact absW
    · have h2d := bsT h2
      have g'20 := (jn @h2 (jn @h2d g'2))
      refine runTf g'20 ?_
      refine hQ _ _ (end_byG (.inl rfl) hbel (x1 := .tup [.sl none 0 (some 0), .bool false]) (l2 := [.cells false 2 []]) (.tup [.sl (some (H.length, 0)) 0 (some 0), .bool false]) (resT Tryz.results27) [.cells false 2 []] rfl [1] (by decide) ⟨by first | (rw [(senB_f (ers := ers) (by simp [senA, h1d, h2d])).1, (senB_f (ers := ers) (by simp [senA, h1d, h2d])).2]; done) | (rw [(senB_f (ers := ers) (by simp [senA, h1d, h2d])).1, (senB_f (ers := ers) (by simp [senA, h1d, h2d])).2]; rfl) | (rw [(senB_t (ers := ers) (by simp [senA, h1d, h2d])).1, (senB_t (ers := ers) (by simp [senA, h1d, h2d])).2]; done) | (rw [(senB_t (ers := ers) (by simp [senA, h1d, h2d])).1, (senB_t (ers := ers) (by simp [senA, h1d, h2d])).2]; rfl), by first | (rw [(senB_f (ers := ers) (by simp [senA, h1d, h2d])).2]; done) | (rw [(senB_f (ers := ers) (by simp [senA, h1d, h2d])).2]; rfl) | (rw [(senB_t (ers := ers) (by simp [senA, h1d, h2d])).2]; done) | (rw [(senB_t (ers := ers) (by simp [senA, h1d, h2d])).2]; rfl)⟩ ?_)
      exact absW
  · have h1d := bsT h1
    have g'21 := (jn @h1 (jn @h1d g'1))
    refine runTf g'21 ?_
    refine hQ _ _ (end_byG (.inl rfl) hbel (x1 := .tup [.sl none 0 (some 0), .bool false]) (l2 := [.cells false 2 []]) (.tup [.sl (some (H.length, 0)) 0 (some 0), .bool false]) (resT Tryz.results27) [.cells false 2 []] rfl [1] (by decide) ⟨by first | (rw [(senB_f (ers := ers) (by simp [senA, h1d])).1, (senB_f (ers := ers) (by simp [senA, h1d])).2]; done) | (rw [(senB_f (ers := ers) (by simp [senA, h1d])).1, (senB_f (ers := ers) (by simp [senA, h1d])).2]; rfl) | (rw [(senB_t (ers := ers) (by simp [senA, h1d])).1, (senB_t (ers := ers) (by simp [senA, h1d])).2]; done) | (rw [(senB_t (ers := ers) (by simp [senA, h1d])).1, (senB_t (ers := ers) (by simp [senA, h1d])).2]; rfl), by first | (rw [(senB_f (ers := ers) (by simp [senA, h1d])).2]; done) | (rw [(senB_f (ers := ers) (by simp [senA, h1d])).2]; rfl) | (rw [(senB_t (ers := ers) (by simp [senA, h1d])).2]; done) | (rw [(senB_t (ers := ers) (by simp [senA, h1d])).2]; rfl)⟩ ?_)
    exact absW
open Go.RowKit
theorem tOk_x {W Hh : Int} {xs : List Int} {b : T6} {s : List (Int × Int)} {g : Int} (h : tX1 W b < tX0 b) : tOk W Hh xs b s g = false := by unfold tOk; rw [decide_eq_true h]; rfl
theorem tOk_y {W Hh : Int} {xs : List Int} {b : T6} {s : List (Int × Int)} {g : Int} (h : tY1 Hh b < tY0 b) : tOk W Hh xs b s g = false := by unfold tOk; rw [decide_eq_true h]; simp
theorem tOk_n {W Hh : Int} {xs : List Int} {b : T6} {s : List (Int × Int)} {g : Int} {i : Nat} (hi : i = (mkB b).length) (h : ∀ k : Nat, k < i → tP W Hh xs b s g k = true) : tOk W Hh xs b s g = false := by
  have e : tI W Hh xs b s g = (mkB b).length := by unfold tI; rw [← hi]; exact ldN_eq h (Nat.le_refl _) (.inl rfl)
  unfold tOk; rw [e, decide_eq_false (Nat.lt_irrefl _)]; simp
theorem tI_i {W Hh : Int} {xs : List Int} {b : T6} {s : List (Int × Int)} {g : Int} {i : Nat} (hi : i < (mkB b).length) (h : ∀ k : Nat, k < i → tP W Hh xs b s g k = true) (h0 : tP W Hh xs b s g i = false) : tI W Hh xs b s g = i := ldN_eq h (by omega) (.inr h0)
theorem tOk_y2 {W Hh : Int} {xs : List Int} {b : T6} {s : List (Int × Int)} {g : Int} {i : Nat} (hx : ¬ tX1 W b < tX0 b) (hy : ¬ tY1 Hh b < tY0 b) (hi : i < (mkB b).length) (h : tI W Hh xs b s g = i) : tOk W Hh xs b s g = true := by
  unfold tOk; rw [decide_eq_false hx, decide_eq_false hy, h, decide_eq_true hi]; rfl
theorem tJ_j {W Hh : Int} {xs : List Int} {b : T6} {s : List (Int × Int)} {g : Int} {j : Nat} (hj : 0 < j) (h0 : tP W Hh xs b s g (j - 1) = false) (hn : j ≤ (mkB b).length) (h : ∀ k : Nat, j ≤ k → k < (mkB b).length → tP W Hh xs b s g k = true) : tJ W Hh xs b s g = j := tlN_eq ⟨hj, h0⟩ hn h
theorem trim_c (H : AHeap) (W : Int) (Hh : Int) (pp : AV) (xs : List Int) (x0 : Int) (y0 : Int) (x1 : Int) (y1 : Int) (f : Int) (c : Int) (q : AV) (sc : List (Int × Int)) (g : Int) (hpp : Sl H 1 pp xs.length (ints .u8 xs)) (hq : Sl H 2 q sc.length (prs sc)) (hV : vldB W Hh xs = true) (hb : bxB x0 y0 x1 y1 f c = true) (hsB : scnB sc = true) (hg : 1 ≤ g ∧ g ≤ 32) : ACalls Tryz.prog 98 [.agg [.int .i64 W, .int .i64 Hh, pp], .agg [.int .i64 x0, .int .i64 y0, .int .i64 x1, .int .i64 y1, .int .i64 f, .int .i64 c], q, .int .i64 g] H (fun v H' => v = .tup [.agg [.int .i64 (mkV (tOk W Hh xs (x0, y0, x1, y1, f, c) sc g) ((tB W Hh xs (x0, y0, x1, y1, f, c) sc g).1)), .int .i64 (mkV (tOk W Hh xs (x0, y0, x1, y1, f, c) sc g) ((tB W Hh xs (x0, y0, x1, y1, f, c) sc g).2.1)), .int .i64 (mkV (tOk W Hh xs (x0, y0, x1, y1, f, c) sc g) ((tB W Hh xs (x0, y0, x1, y1, f, c) sc g).2.2.1)), .int .i64 (mkV (tOk W Hh xs (x0, y0, x1, y1, f, c) sc g) ((tB W Hh xs (x0, y0, x1, y1, f, c) sc g).2.2.2.1)), .int .i64 (mkV (tOk W Hh xs (x0, y0, x1, y1, f, c) sc g) ((tB W Hh xs (x0, y0, x1, y1, f, c) sc g).2.2.2.2.1)), .int .i64 (mkV (tOk W Hh xs (x0, y0, x1, y1, f, c) sc g) ((tB W Hh xs (x0, y0, x1, y1, f, c) sc g).2.2.2.2.2))], .bool (tOk W Hh xs (x0, y0, x1, y1, f, c) sc g)] ∧ H' = H) := by
  obtain ⟨bpp, opp, cpp, rfl, hbpp⟩ := hpp
  have hblpp := getElem?_lt hbpp
  have hb0pp := fun l => get_app (l := l) hbpp
  obtain ⟨bq, oq, cq, rfl, hbq⟩ := hq
  have hblq := getElem?_lt hbq
  have hb0q := fun l => get_app (l := l) hbq
  have hbb := bxB_iff.1 hb
  have hab := hbb.2.2
  have haa := arcB_iff.1 hab
  have hVV := vld_iff.1 hV
  have hw0 := hVV.w0
  have hw1 := hVV.w1
  have hh0 := hVV.h0
  have hh1 := hVV.h1
  have hln := mrkL_len f c.toNat
  have e0 : (if x0 < 0 then 0 else x0) = tX0 (x0, y0, x1, y1, f, c) := rfl
  have e1 : (if y0 < 0 then 0 else y0) = tY0 (x0, y0, x1, y1, f, c) := rfl
  have e2 : (if 64 * W < x1 then 64 * W else x1) = tX1 W (x0, y0, x1, y1, f, c) := rfl
  have e3 : (if 64 * Hh < y1 then 64 * Hh else y1) = tY1 Hh (x0, y0, x1, y1, f, c) := rfl
  refine AcT true Tryz.func98 ?_; intro hbel Q hQ
  have g'1 := (jn @hbpp (jn @hb0pp (jn @hbq (jn @hb0q (jn @e0 (jn @e1 (jn @e2 @e3)))))))
  refine runTf g'1 ?_
  refine gd_split (fun h1 => ?_) (fun h1 => ?_)
  · have h1d := bsT h1
    have hnx := h1d
    have g'2 := (jn @h1 (jn @h1d g'1))
    refine runTf g'2 ?_
    refine cond_split (fun h2 => ?_) (fun h2 => ?_)
    · have h2d := bsT h2
      have hfinO := tOk_y (W := W) (Hh := Hh) (xs := xs) (b := (x0, y0, x1, y1, f, c)) (s := sc) (g := g) h2d
      have g'3 := (jn @h2 (jn @h2d g'2))
      refine runTf g'3 ?_
      exact hQ _ _ (end_plain (.inl rfl) hbel (x := .tup [.agg [.int .i64 0, .int .i64 0, .int .i64 0, .int .i64 0, .int .i64 0, .int .i64 0], .bool false]) (resT Tryz.results98) rfl ⟨by first | (rw [hfinO]; done) | (rw [hfinO]; rfl) | (unfold tB; rw [hfinO, hfinI, hfinJ]; rfl) | skip, rfl⟩)
    · have h2d := bsT h2
      have hny := h2d
      have g'4 := (jn @h2 (jn @h2d g'2))
      refine runTf g'4 ?_
      refine call_v (by kernel_rfl) (hlist_c _ f c hab) ?_
      refine runTf g'4 ?_
      refine go_loop try_mixed (by kernel_rfl) (fun k F Hx => ∃ i : Nat, i + k = (mrkL f c.toNat).length ∧ (∀ j : Nat, j < i → tP W Hh xs (x0, y0, x1, y1, f, c) sc g j = true) ∧ F = [(2, .sl (some (bq, 0)) sc.length cq), (3, .int .i64 g), (4, .ptr (some (H.length, 0))), (8, .ptr (some (H.length + 1, 0))), (10, .ptr (some (H.length + 2, 0))), (11, .sl (some (H.length + 3, i)) ((mrkL f c.toNat).length - i) none)] ∧ Hx = H ++ [.cells true 0 [.int .i64 W, .int .i64 Hh, .sl (some (bpp, 0)) xs.length cpp], .cells true 0 [.int .i64 0, .int .i64 0, .int .i64 0, .int .i64 0, .int .i64 0, .int .i64 0], .cells true 0 [.int .i64 (tX0 (x0, y0, x1, y1, f, c)), .int .i64 (tY0 (x0, y0, x1, y1, f, c)), .int .i64 (tX1 W (x0, y0, x1, y1, f, c)), .int .i64 (tY1 Hh (x0, y0, x1, y1, f, c))], .cells true 1 (ints .i64 (mrkL f c.toNat))]) ((mrkL f c.toNat).length) ?_ ?_
      · refine ⟨_, _, _, ⟨0, by omega, (fun j h => by omega), rfl, rfl⟩, Abs.byG hbel [] rfl [0, 2, 3, 4] (by decide) ?_⟩
        exact absR
      · rintro k0 F Hx ⟨i, hm0, hal, rfl, rfl⟩ J0 hJ0
        have g'5 := (jn @ints_len (jn @ints_ones g'4))
        refine runTf g'5 ?_
        refine gd_split (fun h3 => ?_) (fun h3 => ?_)
        · have h3d := bsT h3
          have q4 := ints_get (k := .i64) (xs := mrkL f c.toNat) (j := i) (by omega)
          have g'6 := (jn @h3 (jn @h3d (jn @q4 g'5)))
          refine runTf g'6 ?_
          refine call_d (by kernel_rfl) (bad_c _ W Hh _ xs (tX0 (x0, y0, x1, y1, f, c)) (tY0 (x0, y0, x1, y1, f, c)) (tX1 W (x0, y0, x1, y1, f, c)) (tY1 Hh (x0, y0, x1, y1, f, c)) (gi (mrkL f c.toNat) i) _ sc g ⟨_, _, _, rfl, by first | exact hb0pp _ | exact hbpp⟩ ⟨_, _, _, rfl, by first | exact hb0q _ | exact hbq⟩ hV hg hsB) ?_
          refine runTf g'6 ?_
          refine cond_split (fun h5 => ?_) (fun h5 => ?_)
          · have h5d := bsT h5
            have hbi := h5d
            have g'7 := (jn @h5 (jn @h5d g'6))
            refine runTf g'7 ?_
            have hv1 : (mrkL f c.toNat).length - i - 1 = (mrkL f c.toNat).length - (i + 1) := by omega
            refine hJ0 _ _ ⟨k0 - 1, by omega, _, _, _, ⟨i + 1, by omega, fun j hj => by
                        rcases Nat.lt_or_ge j i with h | h
                        · exact hal j h
                        · rw [show j = i by omega]; exact hbi, rfl, rfl⟩, Abs.byG hbel [] rfl [0, 1, 2, 3] (by decide) ?_⟩
            exact absRf @hv1
          · have h5d := bsT h5
            have hpi : tP W Hh xs (x0, y0, x1, y1, f, c) sc g i = false := h5d
            have hiN : i < (mkB (x0, y0, x1, y1, f, c)).length := by show i < (mrkL f c.toNat).length; omega
            have hfinI := tI_i hiN hal hpi
            have hfinO := tOk_y2 hnx hny hiN hfinI
            have g'8 := (jn @h5 (jn @h5d g'6))
            refine runTf g'8 ?_
            refine cond_split (fun h6 => ?_) (fun h6 => ?_)
            · have h6d := bsT h6
              have h6n := bnT h6
              omega
            · have h6d := bsT h6
              have h6n := bnT h6
              have g'9 := (jn @h6 (jn @h6n (jn @int_bne (jn @int_beq g'8))))
              refine runTf g'9 ?_
              refine go_loop try_mixed (by kernel_rfl) (fun k F Hx => ∃ j : Nat, i + k = j ∧ i < j ∧ j ≤ (mrkL f c.toNat).length ∧ (∀ q : Nat, j ≤ q → q < (mkB (x0, y0, x1, y1, f, c)).length → tP W Hh xs (x0, y0, x1, y1, f, c) sc g q = true) ∧ F = [(2, .sl (some (bq, 0)) sc.length cq), (3, .int .i64 g), (4, .ptr (some (H.length, 0))), (8, .ptr (some (H.length + 1, 0))), (10, .ptr (some (H.length + 2, 0))), (11, .sl (some (H.length + 3, i)) (j - i) none)] ∧ Hx = H ++ [.cells true 0 [.int .i64 W, .int .i64 Hh, .sl (some (bpp, 0)) xs.length cpp], .cells true 0 [.int .i64 0, .int .i64 0, .int .i64 0, .int .i64 0, .int .i64 0, .int .i64 0], .cells true 0 [.int .i64 (tX0 (x0, y0, x1, y1, f, c)), .int .i64 (tY0 (x0, y0, x1, y1, f, c)), .int .i64 (tX1 W (x0, y0, x1, y1, f, c)), .int .i64 (tY1 Hh (x0, y0, x1, y1, f, c))], .cells true 1 (ints .i64 (mrkL f c.toNat))]) ((mrkL f c.toNat).length - i) ?_ ?_
              · refine ⟨_, _, _, ⟨(mrkL f c.toNat).length, by omega, by omega, Nat.le_refl _, (fun q h1 h2 => by have h2' : q < (mrkL f c.toNat).length := h2; omega), rfl, rfl⟩, Abs.byG hbel [] rfl [0, 1, 2, 3] (by decide) ?_⟩
                exact absR
              · rintro k1 F Hx ⟨j, hm1, hij, hjn, hbk, rfl, rfl⟩ J1 hJ1
                have hj1 : ((j - i : Nat) : Int) - 1 = ((j - 1 - i : Nat) : Int) := by omega
                have hj2 : i + (j - 1 - i) = j - 1 := by omega
                have q7 := ints_get (k := .i64) (xs := mrkL f c.toNat) (j := j - 1) (by omega)
                have g'10 := (jn @hj1 (jn @hj2 (jn @q7 g'9)))
                refine runTf g'10 ?_
                refine call_d (by kernel_rfl) (bad_c _ W Hh _ xs (tX0 (x0, y0, x1, y1, f, c)) (tY0 (x0, y0, x1, y1, f, c)) (tX1 W (x0, y0, x1, y1, f, c)) (tY1 Hh (x0, y0, x1, y1, f, c)) (gi (mrkL f c.toNat) (j - 1)) _ sc g ⟨_, _, _, rfl, by first | exact hb0pp _ | exact hbpp⟩ ⟨_, _, _, rfl, by first | exact hb0q _ | exact hbq⟩ hV hg hsB) ?_
                refine runTf g'10 ?_
                refine cond_split (fun h8 => ?_) (fun h8 => ?_)
                · have h8d := bsT h8
                  have hbj := h8d
                  have hne : ¬ j - 1 = i := fun e => by
                    have q := hbj
                    rw [e] at q
                    exact absurd (q.symm.trans hpi) (by decide)
                  have g'11 := (jn @h8 (jn @h8d g'10))
                  refine runTf g'11 ?_
                  refine hJ1 _ _ ⟨k1 - 1, by omega, _, _, _, ⟨j - 1, by omega, by omega, by omega, fun q h1 h2 => by
                              rcases Nat.lt_or_ge q j with h | h
                              · rw [show q = j - 1 by omega]; exact hbj
                              · exact hbk q h h2, rfl, rfl⟩, Abs.byG hbel [] rfl [0, 1, 2, 3] (by decide) ?_⟩
                  exact absR
                · have h8d := bsT h8
                  have hfinJ := tJ_j (W := W) (Hh := Hh) (xs := xs) (b := (x0, y0, x1, y1, f, c)) (s := sc) (g := g) (j := j) (by omega) h8d (by show j ≤ (mrkL f c.toNat).length; omega) hbk
                  have q9 := ints_get (k := .i64) (xs := mrkL f c.toNat) (j := i) (by omega)
                  have g'12 := (jn @h8 (jn @h8d (jn @q9 g'10)))
                  refine runTf g'12 ?_
                  exact hQ _ _ (end_plain (.inl rfl) hbel (x := .tup [.agg [.int .i64 (tX0 (x0, y0, x1, y1, f, c)), .int .i64 (tY0 (x0, y0, x1, y1, f, c)), .int .i64 (tX1 W (x0, y0, x1, y1, f, c)), .int .i64 (tY1 Hh (x0, y0, x1, y1, f, c)), .int .i64 (gi (mrkL f c.toNat) i), .int .i64 ((j - i : Nat) : Int)], .bool true]) (resT Tryz.results98) rfl ⟨by first | (rw [hfinO]; done) | (rw [hfinO]; rfl) | (unfold tB; rw [hfinO, hfinI, hfinJ]; rfl) | skip, rfl⟩)
        · have h3d := bsT h3
          have hfinO := tOk_n (W := W) (Hh := Hh) (xs := xs) (b := (x0, y0, x1, y1, f, c)) (s := sc) (g := g) (i := i) (by show i = (mrkL f c.toNat).length; omega) hal
          have g'13 := (jn @h3 (jn @h3d g'5))
          refine runTf g'13 ?_
          refine cond_split (fun h10 => ?_) (fun h10 => ?_)
          · have h10d := bsT h10
            have h10n := bnT h10
            have g'14 := (jn @h10 (jn @h10n (jn @int_bne (jn @int_beq g'13))))
            refine runTf g'14 ?_
            exact hQ _ _ (end_plain (.inl rfl) hbel (x := .tup [.agg [.int .i64 0, .int .i64 0, .int .i64 0, .int .i64 0, .int .i64 0, .int .i64 0], .bool false]) (resT Tryz.results98) rfl ⟨by first | (rw [hfinO]; done) | (rw [hfinO]; rfl) | (unfold tB; rw [hfinO, hfinI, hfinJ]; rfl) | skip, rfl⟩)
          · have h10d := bsT h10
            have h10n := bnT h10
            omega
  · have h1d := bsT h1
    have hfinO := tOk_x (W := W) (Hh := Hh) (xs := xs) (b := (x0, y0, x1, y1, f, c)) (s := sc) (g := g) h1d
    have g'15 := (jn @h1 (jn @h1d g'1))
    refine runTf g'15 ?_
    exact hQ _ _ (end_plain (.inl rfl) hbel (x := .tup [.agg [.int .i64 0, .int .i64 0, .int .i64 0, .int .i64 0, .int .i64 0, .int .i64 0], .bool false]) (resT Tryz.results98) rfl ⟨by first | (rw [hfinO]; done) | (rw [hfinO]; rfl) | (unfold tB; rw [hfinO, hfinI, hfinJ]; rfl) | skip, rfl⟩)
theorem trim_t (H : AHeap) (W Hh : Int) (pp : AV) (xs : List Int) (b : T6) (q : AV) (sc : List (Int × Int)) (g : Int) (hpp : Sl H 1 pp xs.length (ints .u8 xs)) (hq : Sl H 2 q sc.length (prs sc)) (hV : vldB W Hh xs = true) (hb : boxB b = true) (hsB : scnB sc = true) (hg : 1 ≤ g ∧ g ≤ 32) :
    ACalls Tryz.prog 98 [.agg [.int .i64 W, .int .i64 Hh, pp], .agg [.int .i64 b.1, .int .i64 b.2.1, .int .i64 b.2.2.1, .int .i64 b.2.2.2.1, .int .i64 b.2.2.2.2.1, .int .i64 b.2.2.2.2.2], q, .int .i64 g] H (fun v H' => v = .tup [.agg [.int .i64 (mkV (tOk W Hh xs b sc g) (tB W Hh xs b sc g).1), .int .i64 (mkV (tOk W Hh xs b sc g) (tB W Hh xs b sc g).2.1), .int .i64 (mkV (tOk W Hh xs b sc g) (tB W Hh xs b sc g).2.2.1), .int .i64 (mkV (tOk W Hh xs b sc g) (tB W Hh xs b sc g).2.2.2.1), .int .i64 (mkV (tOk W Hh xs b sc g) (tB W Hh xs b sc g).2.2.2.2.1), .int .i64 (mkV (tOk W Hh xs b sc g) (tB W Hh xs b sc g).2.2.2.2.2)], .bool (tOk W Hh xs b sc g)] ∧ H' = H) :=
  trim_c H W Hh pp xs b.1 b.2.1 b.2.2.1 b.2.2.2.1 b.2.2.2.2.1 b.2.2.2.2.2 q sc g hpp hq hV hb hsB hg
open Go.RowKit
theorem mkV_f (n : Int) : mkV false n = 0 := rfl
set_option maxRecDepth 100000 in
theorem clonex_c (H : AHeap) (s : AV) (l : List T6) (hs : Sl H 6 s l.length (r6 l)) (hl : l.length ≤ 1000000) (h0 : 0 < l.length) : ACalls Tryz.prog 101 [s] H (fun v H' => v = .sl (some (H.length, 0)) l.length none ∧ H' = H ++ [.cells true 6 (r6 l)]) := by
  obtain ⟨b, own, cap, rfl, hb⟩ := hs
  have hbl := getElem?_lt hb
  have hb0 := fun l => get_app (l := l) hb
  generalize hm : l.length = m at *
  refine AcT true Tryz.func101 ?_; intro hbel Q hQ
  have htk : List.take (m * 6) (r6 l) = r6 l := List.take_of_length_le (by rw [r6_len]; omega)
  have hm0 : (m == 0) = false := beq_eq_false_iff_ne.2 (by omega)
  have hm1 : (m != 0) = true := bne_iff_ne.2 (by omega)
  have hln : (r6 l).length = m * 6 := by rw [r6_len, hm]
  simp -implicitDefEqProofs (disch := omega) only [hb, hb0, Option.isNone_some, hm0, h0, htk, nilKnown, hm1, r6_one, hln, simprocAttr, amset, tyset, Function.comp_apply, one1, lenV, calleeOf, lateOk, belowV, aop, AV.ofValue, AV.ofCell, AV.cells, AV.flat, AV.one, arep, aBin, aAppend, aConv]
  repeat refine And.intro (by omega) ?_
  refine hQ _ _ (end_by (.inl rfl) hbel (x1 := .sl (some (H.length + 1, 0)) m none) (.sl (some (H.length, 0)) m none) (resT Tryz.results101) [1] (by decide) ⟨rfl, rfl⟩ ?_)
  exact absTf @mvs_r6
theorem vol_c (H : AHeap) (x0 : Int) (y0 : Int) (x1 : Int) (y1 : Int) (f : Int) (c : Int) : ACalls Tryz.prog 185 [.agg [.int .i64 x0, .int .i64 y0, .int .i64 x1, .int .i64 y1, .int .i64 f, .int .i64 c]] H (fun v H' => v = .int .i64 (volI (x0, y0, x1, y1, f, c)) ∧ H' = H) := by
  refine AcT true Tryz.func185 ?_; intro hbel Q hQ
  refine runT ?_
  refine call_v (by kernel_rfl) (bxv_c _ x0 y0 x1 y1 f c) ?_
  refine runT ?_
  refine cond_split (fun h1 => ?_) (fun h1 => ?_)
  · have h1d := bsT h1
    have hfinV : volI (x0, y0, x1, y1, f, c) = 0 := if_neg (fun k => absurd ((show bxB x0 y0 x1 y1 f c = true from k).symm.trans h1d) (by decide))
    have g'1 := (jn @h1 @h1d)
    refine runTf g'1 ?_
    exact hQ _ _ (end_plain (.inl rfl) hbel (x := .int .i64 0) (resT Tryz.results185) rfl ⟨by first | (rw [hfinV]; done) | (rw [hfinV]; rfl), rfl⟩)
  · have h1d := bsT h1
    have hbb := bxB_iff.1 h1d
    have haa := arcB_iff.1 hbb.2.2
    have m1 := mul_bd (a := x1 - x0 + 1) (b := y1 - y0 + 1) (A := 2097153) (B := 2097153) (by omega) (by omega)
    have m2 := mul_bd (a := (x1 - x0 + 1) * (y1 - y0 + 1)) (b := c) (A := 4398050705409) (B := 256) (by omega) (by omega)
    have hfinV : volI (x0, y0, x1, y1, f, c) = (x1 - x0 + 1) * (y1 - y0 + 1) * c := if_pos h1d
    have g'2 := (jn @h1 @h1d)
    refine runTf g'2 ?_
    exact hQ _ _ (end_plain (.inl rfl) hbel (x := .int .i64 ((((x1 - x0) + 1) * ((y1 - y0) + 1)) * c)) (resT Tryz.results185) rfl ⟨by first | (rw [hfinV]; done) | (rw [hfinV]; rfl), rfl⟩)
theorem spl1_c (H : AHeap) (n : Int) (u : Int) (hn : 0 ≤ n ∧ n ≤ 4194304) (hu : 0 ≤ u ∧ u ≤ 8) : ACalls Tryz.prog 186 [.int .i64 n, .int .i64 u] H (fun v H' => v = .int .i64 (splS n u) ∧ H' = H) := by
  have m1 := mul_bd (a := n) (b := u) (A := 4194304) (B := 8) (by omega) (by omega)
  refine AcT true Tryz.func186 ?_; intro hbel Q hQ
  refine runT ?_
  refine cond_split (fun h1 => ?_) (fun h1 => ?_)
  · have h1d := bsT h1
    have g'3 := (jn @h1 (jn @h1d (jn @int_bne @int_beq)))
    refine runTf g'3 ?_
    exact hQ _ _ (end_plain0 (.inl rfl) hbel (x := .int .i64 0) (resT Tryz.results186) rfl ⟨by first | (unfold splS; rw [if_pos (by omega)]; done) | (unfold splS; rw [if_neg (by omega)]; done) | (unfold splS; rw [if_pos (by omega)]; rfl) | (unfold splS; rw [if_neg (by omega)]; rfl), rfl⟩)
  · have h1d := bsT h1
    have g'4 := (jn @h1 (jn @h1d (jn @int_bne @int_beq)))
    refine runTf g'4 ?_
    exact hQ _ _ (end_plain0 (.inl rfl) hbel (x := .int .i64 (n * u)) (resT Tryz.results186) rfl ⟨by first | (unfold splS; rw [if_pos (by omega)]; done) | (unfold splS; rw [if_neg (by omega)]; done) | (unfold splS; rw [if_pos (by omega)]; rfl) | (unfold splS; rw [if_neg (by omega)]; rfl), rfl⟩)
theorem split_c (H : AHeap) (x0 : Int) (y0 : Int) (x1 : Int) (y1 : Int) (f : Int) (c : Int) (hb : bxB x0 y0 x1 y1 f c = true) : ACalls Tryz.prog 99 [.agg [.int .i64 x0, .int .i64 y0, .int .i64 x1, .int .i64 y1, .int .i64 f, .int .i64 c]] H (fun v H' => v = .tup [.agg [.int .i64 (mkV (spl2 (x0, y0, x1, y1, f, c)) ((splX (x0, y0, x1, y1, f, c)).1)), .int .i64 (mkV (spl2 (x0, y0, x1, y1, f, c)) ((splX (x0, y0, x1, y1, f, c)).2.1)), .int .i64 (mkV (spl2 (x0, y0, x1, y1, f, c)) ((splX (x0, y0, x1, y1, f, c)).2.2.1)), .int .i64 (mkV (spl2 (x0, y0, x1, y1, f, c)) ((splX (x0, y0, x1, y1, f, c)).2.2.2.1)), .int .i64 (mkV (spl2 (x0, y0, x1, y1, f, c)) ((splX (x0, y0, x1, y1, f, c)).2.2.2.2.1)), .int .i64 (mkV (spl2 (x0, y0, x1, y1, f, c)) ((splX (x0, y0, x1, y1, f, c)).2.2.2.2.2))], .agg [.int .i64 (mkV (spl2 (x0, y0, x1, y1, f, c)) ((splY (x0, y0, x1, y1, f, c)).1)), .int .i64 (mkV (spl2 (x0, y0, x1, y1, f, c)) ((splY (x0, y0, x1, y1, f, c)).2.1)), .int .i64 (mkV (spl2 (x0, y0, x1, y1, f, c)) ((splY (x0, y0, x1, y1, f, c)).2.2.1)), .int .i64 (mkV (spl2 (x0, y0, x1, y1, f, c)) ((splY (x0, y0, x1, y1, f, c)).2.2.2.1)), .int .i64 (mkV (spl2 (x0, y0, x1, y1, f, c)) ((splY (x0, y0, x1, y1, f, c)).2.2.2.2.1)), .int .i64 (mkV (spl2 (x0, y0, x1, y1, f, c)) ((splY (x0, y0, x1, y1, f, c)).2.2.2.2.2))], .bool (spl2 (x0, y0, x1, y1, f, c))] ∧ H' = H) := by
  have hbb := bxB_iff.1 hb
  have haa := arcB_iff.1 hbb.2.2
  have et1 : Int.tdiv (x1 - x0 + 1) 2 = (x1 - x0 + 1) / 2 := Int.tdiv_eq_ediv_of_nonneg (by omega)
  have et2 : Int.tdiv (y1 - y0 + 1) 2 = (y1 - y0 + 1) / 2 := Int.tdiv_eq_ediv_of_nonneg (by omega)
  have et3 : Int.tdiv c 2 = c / 2 := Int.tdiv_eq_ediv_of_nonneg (by omega)
  have et4 : Int.tmod (f + c / 2) 256 = (f + c / 2) % 256 := Int.tmod_eq_emod_of_nonneg (by omega)
  (refine ACalls_pieces Tryz.func99 _ rfl (Nat.le_of_ble_eq_true (by kernel_rfl)) rfl ?_; intro hbel Q hQ hQ' c hc; unfold Tryz.f99 at hc; simp only [Option.some.injEq] at hc; subst hc; clear hQ')
  refine AW_seqQ fun Q1 hn1 hr1 he1 => ?_
  have hQ1 := fun F H' h => hr1 F H' (hQ F H' h)
  refine AW_fin true try_mixed (by kernel_rfl) ?_
  have g'5 := (jn @et1 (jn @et2 (jn @et3 @et4)))
  refine runTf g'5 ?_
  refine hn1 _ _ ?_
  refine AW_seqQ fun Q2 hn2 hr2 he2 => ?_
  have hQ2 := fun F H' h => hr2 F H' (hQ F H' h)
  refine AW_fin true try_mixed (by kernel_rfl) ?_
  refine runTf g'5 ?_
  refine call_v (by kernel_rfl) (vol_c _ x0 y0 x1 y1 f c) ?_
  refine runTf g'5 ?_
  refine cond_split (fun h1 => ?_) (fun h1 => ?_)
  · have h1d := bsT h1
    have hfinV : spl2 (x0, y0, x1, y1, f, c) = false := by unfold spl2; rw [decide_eq_true h1d]; rfl
    have g'6 := (jn @h1 (jn @h1d g'5))
    refine runTf g'6 ?_
    exact hQ2 _ _ (end_plain (.inl rfl) hbel (x := .tup [.agg [.int .i64 0, .int .i64 0, .int .i64 0, .int .i64 0, .int .i64 0, .int .i64 0], .agg [.int .i64 0, .int .i64 0, .int .i64 0, .int .i64 0, .int .i64 0, .int .i64 0], .bool false]) (resT Tryz.results99) rfl ⟨by first | (rw [hfinV]; done) | (rw [hfinV]; rfl) | (rw [hfinV, hfinX, hfinY]; rfl), rfl⟩)
  · have h1d := bsT h1
    have hfinV : spl2 (x0, y0, x1, y1, f, c) = true := by unfold spl2; rw [decide_eq_false (by omega)]; rfl
    have g'7 := (jn @h1 (jn @h1d g'5))
    refine runTf g'7 ?_
    refine hn2 _ _ ?_
    refine AW_seqQ fun Q3 hn3 hr3 he3 => ?_
    have hQ3 := fun F H' h => hr3 F H' (hQ F H' h)
    refine AW_fin true try_mixed (by kernel_rfl) ?_
    refine runTf g'7 ?_
    refine hn3 _ _ ?_
    refine AW_seqQ fun Q4 hn4 hr4 he4 => ?_
    have hQ4 := fun F H' h => hr4 F H' (hQ F H' h)
    refine AW_fin true try_mixed (by kernel_rfl) ?_
    refine runTf g'7 ?_
    refine hn4 _ _ ?_
    refine AW_seqQ fun Q5 hn5 hr5 he5 => ?_
    have hQ5 := fun F H' h => hr5 F H' (hQ F H' h)
    refine AW_fin true try_mixed (by kernel_rfl) ?_
    refine runTf g'7 ?_
    refine call_d (by kernel_rfl) (spl1_c _ ((x1 - x0) + 1) 1 (by omega) (by omega)) ?_
    refine runTf g'7 ?_
    refine call_d (by kernel_rfl) (spl1_c _ ((y1 - y0) + 1) 1 (by omega) (by omega)) ?_
    refine runTf g'7 ?_
    refine call_d (by kernel_rfl) (spl1_c _ c 8 (by omega) (by omega)) ?_
    refine runTf g'7 ?_
    refine hn5 _ _ ?_
    refine AW_special true try_mixed [[0, 1, 2, 3, 4, 5], [0, 2, 3, 4, 1, 5], [0, 1, 3, 2, 4, 5], [0, 3, 2, 4, 1, 5]] (by kernel_rfl) (fun F2 H2 => F2 = [(1, .ptr (some (H.length, 0))), (2, .ptr (some (H.length + 1, 0))), (3, .ptr (some (H.length + 2, 0))), (4, .bool false), (6, .int .i64 ((x1 - x0) + 1)), (7, .int .i64 ((y1 - y0) + 1)), (8, .int .i64 (splS ((x1 - x0) + 1) 1)), (9, .int .i64 (splS ((y1 - y0) + 1) 1)), (10, .int .i64 (splS c 8)), (11, .ptr (some (H.length + 3, 0))), (12, .ptr (some (H.length + 4, 0)))] ∧ H2 = H ++ [.cells true 0 [.int .i64 x0, .int .i64 y0, .int .i64 x1, .int .i64 y1, .int .i64 f, .int .i64 c], .cells true 0 [.int .i64 0, .int .i64 0, .int .i64 0, .int .i64 0, .int .i64 0, .int .i64 0], .cells true 0 [.int .i64 0, .int .i64 0, .int .i64 0, .int .i64 0, .int .i64 0, .int .i64 0], .cells true 0 [.int .i64 x0, .int .i64 y0, .int .i64 x1, .int .i64 y1, .int .i64 f, .int .i64 c], .cells true 0 [.int .i64 x0, .int .i64 y0, .int .i64 x1, .int .i64 y1, .int .i64 f, .int .i64 c]]) ?_ ?_
    · refine reps_cons ?_ (reps_cons ?_ (reps_cons ?_ (reps_cons ?_ (reps_nil)))) <;> intro J hJ
      · skip
        refine runDf g'7 ?_
        refine inv_of (hJ _ _ ⟨_, _, _, ⟨rfl, rfl⟩, Abs.byG hbel [] rfl [0, 1, 2, 3, 4] (by decide) ?_⟩)
        exact absW
      · skip
        refine runDf g'7 ?_
        refine inv_of (hJ _ _ ⟨_, _, _, ⟨rfl, rfl⟩, Abs.byG hbel [] rfl [0, 1, 2, 3, 4] (by decide) ?_⟩)
        exact absW
      · skip
        refine runDf g'7 ?_
        refine inv_of (hJ _ _ ⟨_, _, _, ⟨rfl, rfl⟩, Abs.byG hbel [] rfl [0, 1, 2, 4, 3] (by decide) ?_⟩)
        exact absW
      · skip
        refine runDf g'7 ?_
        refine inv_of (hJ _ _ ⟨_, _, _, ⟨rfl, rfl⟩, Abs.byG hbel [] rfl [0, 1, 2, 4, 3] (by decide) ?_⟩)
        exact absW
    rintro F2 H2 ⟨rfl, rfl⟩
    refine AW_seqQ fun Q6 hn6 hr6 he6 => ?_
    have hQ6 := fun F H' h => hr6 F H' (hQ F H' h)
    refine AW_blockQ fun Q7 hn7 hr7 he7 hb7 => ?_
    have hQ7 := fun F H' h => hr7 F H' (hQ6 F H' h)
    refine AW_seqQ fun Q8 hn8 hr8 he8 => ?_
    have hQ8 := fun F H' h => hr8 F H' (hQ7 F H' h)
    refine AW_fin true try_mixed (by kernel_rfl) ?_
    refine runTf g'7 ?_
    refine gd_split (fun h2 => ?_) (fun h2 => ?_)
    · have h2d := bsT h2
      have hc1 : splB (x0, y0, x1, y1, f, c) ≤ splA (x0, y0, x1, y1, f, c) := h2d
      have g'8 := (jn @h2 (jn @h2d g'7))
      refine runTf g'8 ?_
      refine hn8 _ _ ?_
      refine AW_cond (decide ((splS c 8) ≤ (splS ((x1 - x0) + 1) 1))) (by rfl) (fun h3 => ?_) (fun h3 => ?_)
      · have h3d := bsT h3
        have hfinX : splX (x0, y0, x1, y1, f, c) = (x0, y0, x0 + ((x1 - x0) + 1) / 2 - 1, y1, f, c) := if_pos ⟨hc1, h3d⟩
        have hfinY : splY (x0, y0, x1, y1, f, c) = (x0 + ((x1 - x0) + 1) / 2, y0, x1, y1, f, c) := if_pos ⟨hc1, h3d⟩
        refine AW_fin true try_mixed (by kernel_rfl) ?_
        have g'9 := (jn @h3 (jn @h3d g'8))
        refine runTf g'9 ?_
        refine hn7 _ _ ?_
        refine hn6 _ _ ?_
        refine AW_special true try_mixed [[0, 1, 2, 3, 4], [0, 2, 1, 3, 4]] (by kernel_rfl) (fun F2 H2 => F2 = [(2, .ptr (some (H.length, 0))), (3, .ptr (some (H.length + 1, 0))), (4, .bool true)] ∧ H2 = H ++ [.cells true 0 [.int .i64 x0, .int .i64 y0, .int .i64 ((x0 + (((x1 - x0) + 1) / 2)) - 1), .int .i64 y1, .int .i64 f, .int .i64 c], .cells true 0 [.int .i64 (x0 + (((x1 - x0) + 1) / 2)), .int .i64 y0, .int .i64 x1, .int .i64 y1, .int .i64 f, .int .i64 c]]) ?_ ?_
        · refine reps_cons ?_ (reps_cons ?_ (reps_nil)) <;> intro J hJ
          · skip
            refine runDf g'9 ?_
            refine inv_of (hJ _ _ ⟨_, _, _, ⟨rfl, rfl⟩, Abs.byG hbel [] rfl [1, 2] (by decide) ?_⟩)
            exact absW
          · skip
            refine runDf g'9 ?_
            refine inv_of (hJ _ _ ⟨_, _, _, ⟨rfl, rfl⟩, Abs.byG hbel [] rfl [1, 2] (by decide) ?_⟩)
            exact absW
        rintro F2 H2 ⟨rfl, rfl⟩
        refine AW_fin true try_mixed (by kernel_rfl) ?_
        refine runTf g'9 ?_
        exact hQ _ _ (end_plain (.inl rfl) hbel (x := .tup [.agg [.int .i64 x0, .int .i64 y0, .int .i64 ((x0 + (((x1 - x0) + 1) / 2)) - 1), .int .i64 y1, .int .i64 f, .int .i64 c], .agg [.int .i64 (x0 + (((x1 - x0) + 1) / 2)), .int .i64 y0, .int .i64 x1, .int .i64 y1, .int .i64 f, .int .i64 c], .bool true]) (resT Tryz.results99) rfl ⟨by first | (rw [hfinV]; done) | (rw [hfinV]; rfl) | (rw [hfinV, hfinX, hfinY]; rfl), rfl⟩)
      · have h3d := bsT h3
        have hc2 : ¬ splC (x0, y0, x1, y1, f, c) ≤ splA (x0, y0, x1, y1, f, c) := by have q := h3d; exact Int.not_le.2 (by first | exact q | exact Int.not_le.1 q)
        have hn1 : ¬ (splB (x0, y0, x1, y1, f, c) ≤ splA (x0, y0, x1, y1, f, c) ∧ splC (x0, y0, x1, y1, f, c) ≤ splA (x0, y0, x1, y1, f, c)) := fun q => hc2 q.2
        refine AW_seqQ fun Q9 hn9 hr9 he9 => ?_
        have hQ9 := fun F H' h => hr9 F H' (hQ7 F H' h)
        refine AW_fin true try_mixed (by kernel_rfl) ?_
        have g'10 := (jn @h3 (jn @h3d g'8))
        refine runTf g'10 ?_
        refine hn9 _ _ ?_
        refine AW_cond (decide ((splS c 8) ≤ (splS ((y1 - y0) + 1) 1))) (by rfl) (fun h4 => ?_) (fun h4 => ?_)
        · have h4d := bsT h4
          exact (hc2 (Int.le_trans h4d hc1)).elim
        · have h4d := bsT h4
          have hc3 : ¬ splC (x0, y0, x1, y1, f, c) ≤ splB (x0, y0, x1, y1, f, c) := by have q := h4d; exact Int.not_le.2 (by first | exact q | exact Int.not_le.1 q)
          have hfinX : splX (x0, y0, x1, y1, f, c) = (x0, y0, x1, y1, f, c / 2) := (if_neg hn1).trans (if_neg hc3)
          have hfinY : splY (x0, y0, x1, y1, f, c) = (x0, y0, x1, y1, (f + c / 2) % 256, c - c / 2) := (if_neg hn1).trans (if_neg hc3)
          refine AW_seqQ fun Q10 hn10 hr10 he10 => ?_
          have hQ10 := fun F H' h => hr10 F H' (hQ7 F H' h)
          refine AW_fin true try_mixed (by kernel_rfl) ?_
          have g'11 := (jn @h4 (jn @h4d g'10))
          refine runTf g'11 ?_
          refine hn10 _ _ ?_
          refine AW_seqQ fun Q11 hn11 hr11 he11 => ?_
          have hQ11 := fun F H' h => hr11 F H' (hQ7 F H' h)
          refine AW_fin true try_mixed (by kernel_rfl) ?_
          refine runTf g'11 ?_
          refine hn11 _ _ ?_
          refine AW_special1 true try_mixed [[0, 1, 2, 3, 4, 5, 6, 7, 8, 9, 10, 11, 12], [0, 1, 2, 3, 4, 5, 7, 9, 10, 6, 8, 11, 12]] (by kernel_rfl) (fun F2 H2 => F2 = [(2, .ptr (some (H.length, 0))), (3, .ptr (some (H.length + 1, 0))), (11, .ptr (some (H.length + 2, 0))), (12, .ptr (some (H.length + 3, 0)))] ∧ H2 = H ++ [.cells true 0 [.int .i64 0, .int .i64 0, .int .i64 0, .int .i64 0, .int .i64 0, .int .i64 0], .cells true 0 [.int .i64 0, .int .i64 0, .int .i64 0, .int .i64 0, .int .i64 0, .int .i64 0], .cells true 0 [.int .i64 x0, .int .i64 y0, .int .i64 x1, .int .i64 y1, .int .i64 f, .int .i64 (c / 2)], .cells true 0 [.int .i64 x0, .int .i64 y0, .int .i64 x1, .int .i64 y1, .int .i64 ((f + (c / 2)) % 256), .int .i64 (c - (c / 2))]]) ?_ ?_
          · refine reps_cons ?_ (reps_cons ?_ (reps_nil)) <;> intro J hJ
            · skip
              refine runDf g'11 ?_
              refine inv_of (hJ _ _ ⟨_, _, _, ⟨rfl, rfl⟩, Abs.byG hbel [] rfl [1, 2, 3, 4] (by decide) ?_⟩)
              exact absW
            · skip
              refine runDf g'11 ?_
              refine inv_of (hJ _ _ ⟨_, _, _, ⟨rfl, rfl⟩, Abs.byG hbel [] rfl [1, 2, 3, 4] (by decide) ?_⟩)
              exact absW
          rintro F2 H2 ⟨rfl, rfl⟩
          refine hn7 _ _ ?_
          refine hn6 _ _ ?_
          refine AW_special true try_mixed [[0, 1, 2, 3, 4], [0, 2, 1, 3, 4]] (by kernel_rfl) (fun F2 H2 => F2 = [(2, .ptr (some (H.length, 0))), (3, .ptr (some (H.length + 1, 0))), (4, .bool true)] ∧ H2 = H ++ [.cells true 0 [.int .i64 x0, .int .i64 y0, .int .i64 x1, .int .i64 y1, .int .i64 f, .int .i64 (c / 2)], .cells true 0 [.int .i64 x0, .int .i64 y0, .int .i64 x1, .int .i64 y1, .int .i64 ((f + (c / 2)) % 256), .int .i64 (c - (c / 2))]]) ?_ ?_
          · refine reps_cons ?_ (reps_cons ?_ (reps_nil)) <;> intro J hJ
            · skip
              refine runDf g'11 ?_
              refine inv_of (hJ _ _ ⟨_, _, _, ⟨rfl, rfl⟩, Abs.byG hbel [] rfl [0, 1] (by decide) ?_⟩)
              exact absW
            · skip
              refine runDf g'11 ?_
              refine inv_of (hJ _ _ ⟨_, _, _, ⟨rfl, rfl⟩, Abs.byG hbel [] rfl [0, 1] (by decide) ?_⟩)
              exact absW
          rintro F2 H2 ⟨rfl, rfl⟩
          refine AW_fin true try_mixed (by kernel_rfl) ?_
          refine runTf g'11 ?_
          exact hQ _ _ (end_plain (.inl rfl) hbel (x := .tup [.agg [.int .i64 x0, .int .i64 y0, .int .i64 x1, .int .i64 y1, .int .i64 f, .int .i64 (c / 2)], .agg [.int .i64 x0, .int .i64 y0, .int .i64 x1, .int .i64 y1, .int .i64 ((f + (c / 2)) % 256), .int .i64 (c - (c / 2))], .bool true]) (resT Tryz.results99) rfl ⟨by first | (rw [hfinV]; done) | (rw [hfinV]; rfl) | (rw [hfinV, hfinX, hfinY]; rfl), rfl⟩)
    · have h2d := bsT h2
      have hc1 : ¬ splB (x0, y0, x1, y1, f, c) ≤ splA (x0, y0, x1, y1, f, c) := by have q := h2d; exact Int.not_le.2 (by first | exact q | exact Int.not_le.1 q)
      have hn1 : ¬ (splB (x0, y0, x1, y1, f, c) ≤ splA (x0, y0, x1, y1, f, c) ∧ splC (x0, y0, x1, y1, f, c) ≤ splA (x0, y0, x1, y1, f, c)) := fun q => hc1 q.1
      have g'12 := (jn @h2 (jn @h2d g'7))
      refine runTf g'12 ?_
      refine hn8 _ _ ?_
      refine AW_cond false (by rfl) (fun h => by cases h) (fun h => ?_)
      refine AW_seqQ fun Q12 hn12 hr12 he12 => ?_
      have hQ12 := fun F H' h => hr12 F H' (hQ7 F H' h)
      refine AW_fin true try_mixed (by kernel_rfl) ?_
      refine runTf g'12 ?_
      refine hn12 _ _ ?_
      refine AW_cond (decide ((splS c 8) ≤ (splS ((y1 - y0) + 1) 1))) (by rfl) (fun h5 => ?_) (fun h5 => ?_)
      · have h5d := bsT h5
        have hfinX : splX (x0, y0, x1, y1, f, c) = (x0, y0, x1, y0 + ((y1 - y0) + 1) / 2 - 1, f, c) := (if_neg hn1).trans (if_pos h5d)
        have hfinY : splY (x0, y0, x1, y1, f, c) = (x0, y0 + ((y1 - y0) + 1) / 2, x1, y1, f, c) := (if_neg hn1).trans (if_pos h5d)
        refine AW_fin true try_mixed (by kernel_rfl) ?_
        have g'13 := (jn @h5 (jn @h5d g'12))
        refine runTf g'13 ?_
        refine hn7 _ _ ?_
        refine hn6 _ _ ?_
        refine AW_special true try_mixed [[0, 1, 2, 3, 4], [0, 2, 1, 3, 4]] (by kernel_rfl) (fun F2 H2 => F2 = [(2, .ptr (some (H.length, 0))), (3, .ptr (some (H.length + 1, 0))), (4, .bool true)] ∧ H2 = H ++ [.cells true 0 [.int .i64 x0, .int .i64 y0, .int .i64 x1, .int .i64 ((y0 + (((y1 - y0) + 1) / 2)) - 1), .int .i64 f, .int .i64 c], .cells true 0 [.int .i64 x0, .int .i64 (y0 + (((y1 - y0) + 1) / 2)), .int .i64 x1, .int .i64 y1, .int .i64 f, .int .i64 c]]) ?_ ?_
        · refine reps_cons ?_ (reps_cons ?_ (reps_nil)) <;> intro J hJ
          · skip
            refine runDf g'13 ?_
            refine inv_of (hJ _ _ ⟨_, _, _, ⟨rfl, rfl⟩, Abs.byG hbel [] rfl [1, 2] (by decide) ?_⟩)
            exact absW
          · skip
            refine runDf g'13 ?_
            refine inv_of (hJ _ _ ⟨_, _, _, ⟨rfl, rfl⟩, Abs.byG hbel [] rfl [1, 2] (by decide) ?_⟩)
            exact absW
        rintro F2 H2 ⟨rfl, rfl⟩
        refine AW_fin true try_mixed (by kernel_rfl) ?_
        refine runTf g'13 ?_
        exact hQ _ _ (end_plain (.inl rfl) hbel (x := .tup [.agg [.int .i64 x0, .int .i64 y0, .int .i64 x1, .int .i64 ((y0 + (((y1 - y0) + 1) / 2)) - 1), .int .i64 f, .int .i64 c], .agg [.int .i64 x0, .int .i64 (y0 + (((y1 - y0) + 1) / 2)), .int .i64 x1, .int .i64 y1, .int .i64 f, .int .i64 c], .bool true]) (resT Tryz.results99) rfl ⟨by first | (rw [hfinV]; done) | (rw [hfinV]; rfl) | (rw [hfinV, hfinX, hfinY]; rfl), rfl⟩)
      · have h5d := bsT h5
        have hc3 : ¬ splC (x0, y0, x1, y1, f, c) ≤ splB (x0, y0, x1, y1, f, c) := by have q := h5d; exact Int.not_le.2 (by first | exact q | exact Int.not_le.1 q)
        have hfinX : splX (x0, y0, x1, y1, f, c) = (x0, y0, x1, y1, f, c / 2) := (if_neg hn1).trans (if_neg hc3)
        have hfinY : splY (x0, y0, x1, y1, f, c) = (x0, y0, x1, y1, (f + c / 2) % 256, c - c / 2) := (if_neg hn1).trans (if_neg hc3)
        refine AW_seqQ fun Q13 hn13 hr13 he13 => ?_
        have hQ13 := fun F H' h => hr13 F H' (hQ7 F H' h)
        refine AW_fin true try_mixed (by kernel_rfl) ?_
        have g'14 := (jn @h5 (jn @h5d g'12))
        refine runTf g'14 ?_
        refine hn13 _ _ ?_
        refine AW_seqQ fun Q14 hn14 hr14 he14 => ?_
        have hQ14 := fun F H' h => hr14 F H' (hQ7 F H' h)
        refine AW_fin true try_mixed (by kernel_rfl) ?_
        refine runTf g'14 ?_
        refine hn14 _ _ ?_
        refine AW_special1 true try_mixed [[0, 1, 2, 3, 4, 5, 6, 7, 8, 9, 10, 11, 12], [0, 1, 2, 3, 4, 5, 7, 9, 10, 6, 8, 11, 12]] (by kernel_rfl) (fun F2 H2 => F2 = [(2, .ptr (some (H.length, 0))), (3, .ptr (some (H.length + 1, 0))), (11, .ptr (some (H.length + 2, 0))), (12, .ptr (some (H.length + 3, 0)))] ∧ H2 = H ++ [.cells true 0 [.int .i64 0, .int .i64 0, .int .i64 0, .int .i64 0, .int .i64 0, .int .i64 0], .cells true 0 [.int .i64 0, .int .i64 0, .int .i64 0, .int .i64 0, .int .i64 0, .int .i64 0], .cells true 0 [.int .i64 x0, .int .i64 y0, .int .i64 x1, .int .i64 y1, .int .i64 f, .int .i64 (c / 2)], .cells true 0 [.int .i64 x0, .int .i64 y0, .int .i64 x1, .int .i64 y1, .int .i64 ((f + (c / 2)) % 256), .int .i64 (c - (c / 2))]]) ?_ ?_
        · refine reps_cons ?_ (reps_cons ?_ (reps_nil)) <;> intro J hJ
          · skip
            refine runDf g'14 ?_
            refine inv_of (hJ _ _ ⟨_, _, _, ⟨rfl, rfl⟩, Abs.byG hbel [] rfl [1, 2, 3, 4] (by decide) ?_⟩)
            exact absW
          · skip
            refine runDf g'14 ?_
            refine inv_of (hJ _ _ ⟨_, _, _, ⟨rfl, rfl⟩, Abs.byG hbel [] rfl [1, 2, 3, 4] (by decide) ?_⟩)
            exact absW
        rintro F2 H2 ⟨rfl, rfl⟩
        refine hn7 _ _ ?_
        refine hn6 _ _ ?_
        refine AW_special true try_mixed [[0, 1, 2, 3, 4], [0, 2, 1, 3, 4]] (by kernel_rfl) (fun F2 H2 => F2 = [(2, .ptr (some (H.length, 0))), (3, .ptr (some (H.length + 1, 0))), (4, .bool true)] ∧ H2 = H ++ [.cells true 0 [.int .i64 x0, .int .i64 y0, .int .i64 x1, .int .i64 y1, .int .i64 f, .int .i64 (c / 2)], .cells true 0 [.int .i64 x0, .int .i64 y0, .int .i64 x1, .int .i64 y1, .int .i64 ((f + (c / 2)) % 256), .int .i64 (c - (c / 2))]]) ?_ ?_
        · refine reps_cons ?_ (reps_cons ?_ (reps_nil)) <;> intro J hJ
          · skip
            refine runDf g'14 ?_
            refine inv_of (hJ _ _ ⟨_, _, _, ⟨rfl, rfl⟩, Abs.byG hbel [] rfl [0, 1] (by decide) ?_⟩)
            exact absW
          · skip
            refine runDf g'14 ?_
            refine inv_of (hJ _ _ ⟨_, _, _, ⟨rfl, rfl⟩, Abs.byG hbel [] rfl [0, 1] (by decide) ?_⟩)
            exact absW
        rintro F2 H2 ⟨rfl, rfl⟩
        refine AW_fin true try_mixed (by kernel_rfl) ?_
        refine runTf g'14 ?_
        exact hQ _ _ (end_plain (.inl rfl) hbel (x := .tup [.agg [.int .i64 x0, .int .i64 y0, .int .i64 x1, .int .i64 y1, .int .i64 f, .int .i64 (c / 2)], .agg [.int .i64 x0, .int .i64 y0, .int .i64 x1, .int .i64 y1, .int .i64 ((f + (c / 2)) % 256), .int .i64 (c - (c / 2))], .bool true]) (resT Tryz.results99) rfl ⟨by first | (rw [hfinV]; done) | (rw [hfinV]; rfl) | (rw [hfinV, hfinX, hfinY]; rfl), rfl⟩)
theorem split_t (H : AHeap) (b : T6) (hb : boxB b = true) (h : spl2 b = true) : ACalls Tryz.prog 99 [.agg [.int .i64 b.1, .int .i64 b.2.1, .int .i64 b.2.2.1, .int .i64 b.2.2.2.1, .int .i64 b.2.2.2.2.1, .int .i64 b.2.2.2.2.2]] H (fun v H' => v = .tup [.agg [.int .i64 (splX b).1, .int .i64 (splX b).2.1, .int .i64 (splX b).2.2.1, .int .i64 (splX b).2.2.2.1, .int .i64 (splX b).2.2.2.2.1, .int .i64 (splX b).2.2.2.2.2], .agg [.int .i64 (splY b).1, .int .i64 (splY b).2.1, .int .i64 (splY b).2.2.1, .int .i64 (splY b).2.2.2.1, .int .i64 (splY b).2.2.2.2.1, .int .i64 (splY b).2.2.2.2.2], .bool true] ∧ H' = H) := by
  have q := split_c H b.1 b.2.1 b.2.2.1 b.2.2.2.1 b.2.2.2.2.1 b.2.2.2.2.2 hb
  have e : spl2 (b.1, b.2.1, b.2.2.1, b.2.2.2.1, b.2.2.2.2.1, b.2.2.2.2.2) = true := h
  simp only [e, mkV_t] at q; exact q
theorem split_f (H : AHeap) (b : T6) (hb : boxB b = true) (h : spl2 b = false) : ACalls Tryz.prog 99 [.agg [.int .i64 b.1, .int .i64 b.2.1, .int .i64 b.2.2.1, .int .i64 b.2.2.2.1, .int .i64 b.2.2.2.2.1, .int .i64 b.2.2.2.2.2]] H (fun v H' => v = .tup [.agg [.int .i64 0, .int .i64 0, .int .i64 0, .int .i64 0, .int .i64 0, .int .i64 0], .agg [.int .i64 0, .int .i64 0, .int .i64 0, .int .i64 0, .int .i64 0, .int .i64 0], .bool false] ∧ H' = H) := by
  have q := split_c H b.1 b.2.1 b.2.2.1 b.2.2.2.1 b.2.2.2.2.1 b.2.2.2.2.2 hb
  have e : spl2 (b.1, b.2.1, b.2.2.1, b.2.2.2.1, b.2.2.2.2.1, b.2.2.2.2.2) = false := h
  simp only [e, mkV_f] at q; exact q
theorem cmp1_c (H : AHeap) (x0 : Int) (y0 : Int) (x1 : Int) (y1 : Int) (f : Int) (c : Int) : ACalls Tryz.prog 100 [.agg [.int .i64 x0, .int .i64 y0, .int .i64 x1, .int .i64 y1, .int .i64 f, .int .i64 c]] H (fun v H' => v = .bool (!(bxB x0 y0 x1 y1 f c)) ∧ H' = H) := by
  refine AcT true Tryz.func100 ?_; intro hbel Q hQ
  refine runT ?_
  refine call_v (by kernel_rfl) (bxv_c _ x0 y0 x1 y1 f c) ?_
  refine runT ?_
  exact hQ _ _ (end_plain (.inl rfl) hbel (x := .bool (!(bxB x0 y0 x1 y1 f c))) (resT Tryz.results100) rfl ⟨rfl, rfl⟩)
theorem cmp16_c (H : AHeap) (s : AV) (l : List T6)  (hs : Sl H 6 s l.length (r6 l)) (hl : l.length ≤ 16) (hl0 : 0 < l.length) (hv : ∀ b ∈ l, boxB b = true) : ACalls Tryz.prog 32 [s, .int .i64 16] H (fun v H' => v = .tup [.sl (some (H.length, 0)) l.length none, .int .i64 0] ∧ H' = H ++ [.cells true 6 (r6 l)]) := by
  obtain ⟨bs, os, cs, rfl, hbs⟩ := hs
  have hbls := getElem?_lt hbs
  have hb0s := fun l => get_app (l := l) hbs
  have hny : l.any (fun b => !boxB b) = false := List.any_eq_false.2 fun b hb => by rw [hv b hb]; decide
  refine AcT true Tryz.func32 ?_; intro hbel Q hQ
  have g'15 := (jn @hbs (jn @hb0s @hny))
  refine runTf g'15 ?_
  refine cond_split (fun h1 => ?_) (fun h1 => ?_)
  · have h1d := bsT h1
    omega
  · have h1d := bsT h1
    have g'16 := (jn @h1 (jn @h1d g'15))
    refine runTf g'16 ?_
    refine call_v (by kernel_rfl) (has_box _ _ l ⟨_, _, _, rfl, by first | exact hb0s _ | exact hbs⟩ (by omega) _ [] (by kernel_rfl) rfl (fun b => !boxB b) (fun j hj => cmp1_c _ _ _ _ _ _ _)) ?_
    refine runTf g'16 ?_
    refine call_v (by kernel_rfl) (clonex_c _ _ l ⟨_, _, _, rfl, by first | exact hb0s _ | exact hbs⟩ (by first | omega | (simp only [List.length_cons, List.length_nil]; omega)) (by first | omega | simp)) ?_
    refine runTf g'16 ?_
    refine go_loop try_mixed (by kernel_rfl) (fun k F Hx => ∃ z : Unit, k = 0 ∧ F = [(1, .int .i64 16), (6, .sl (some (H.length, 0)) l.length none)] ∧ Hx = H ++ [.cells true 6 (r6 l)]) (0) ?_ ?_
    · refine ⟨_, _, _, ⟨(), by omega, rfl, rfl⟩, Abs.byG hbel [] rfl [0] (by decide) ?_⟩
      exact absRf (jn @r6_append (jn @r6_cons (jn @r6_nil @mvs_r6)))
    · rintro k0 F Hx ⟨z, hm0, rfl, rfl⟩ J0 hJ0
      have g'17 := (jn @r6_len (jn @r6_one g'16))
      refine runTf g'17 ?_
      refine cond_split (fun h2 => ?_) (fun h2 => ?_)
      · have h2d := bsT h2
        omega
      · have h2d := bsT h2
        have g'18 := (jn @h2 (jn @h2d g'17))
        refine runTf g'18 ?_
        refine hQ _ _ (end_byG (.inl rfl) hbel (x1 := .tup [.sl (some (H.length, 0)) l.length none, .int .i64 0]) (l2 := [.cells true 6 (r6 l)]) (.tup [.sl (some (H.length, 0)) l.length none, .int .i64 0]) (resT Tryz.results32) [] rfl [0] (by decide) ⟨rfl, rfl⟩ ?_)
        exact absWf @mvs_r6
open Go.RowKit
theorem r6_drop {l : List T6} {j : Nat} : (r6 l).drop (j * 6) = r6 (l.drop j) := by
  induction l generalizing j with
  | nil => simp [r6_nil]
  | cons p l ih =>
    cases j with
    | zero => simp
    | succ j => rw [r6_cons, show (j + 1) * 6 = j * 6 + 1 + 1 + 1 + 1 + 1 + 1 by omega, List.drop_succ_cons, List.drop_succ_cons, List.drop_succ_cons, List.drop_succ_cons, List.drop_succ_cons, List.drop_succ_cons, ih]; rfl
theorem r6_dropv {l : List T6} {k : Nat} (h : k ≤ l.length) : List.take ((l.length - k) * 6) (List.drop (k * 6) (r6 l)) = r6 (List.drop k l) := by
  rw [r6_drop]
  exact List.take_of_length_le (by rw [r6_len, List.length_drop]; omega)
theorem g6_drop {l : List T6} {j : Nat} (h : j < l.length) : l.drop j = g6 l j :: l.drop (j + 1) := by
  rw [List.drop_eq_getElem_cons h, ← g6_eq h]; rfl
section
variable {W Hh : Int} {xs : List Int} {s : List (Int × Int)} {g : Int} {QA O R : List T6} {j K k : Nat}
theorem rfn_no (hj : j < QA.length) (hk : QA.length - j + 2 * K = k) (ht : tOk W Hh xs (g6 QA j) s g = false) (h : rfn W Hh xs s g k (QA.drop j) K O = R) : rfn W Hh xs s g (k - 1) (QA.drop (j + 1)) K O = R := by
  obtain ⟨n, rfl⟩ : ∃ n, k = n + 1 := ⟨k - 1, by omega⟩
  rw [g6_drop hj] at h
  unfold rfn at h
  rw [if_neg (by rw [ht]; decide)] at h
  exact h
theorem rfn_two (hj : j < QA.length) (hk : QA.length - j + 2 * K = k) (ht : tOk W Hh xs (g6 QA j) s g = true) (h2 : 0 < K ∧ spl2 (tB W Hh xs (g6 QA j) s g) = true) (h : rfn W Hh xs s g k (QA.drop j) K O = R) : rfn W Hh xs s g (k - 1) ((QA.drop (j + 1) ++ [splX (tB W Hh xs (g6 QA j) s g), splY (tB W Hh xs (g6 QA j) s g)]).drop 0) (K - 1) O = R := by
  obtain ⟨n, rfl⟩ : ∃ n, k = n + 1 := ⟨k - 1, by omega⟩
  rw [g6_drop hj] at h
  unfold rfn at h
  rw [if_pos ht, if_pos h2] at h
  exact h
theorem rfn_out (hj : j < QA.length) (hk : QA.length - j + 2 * K = k) (ht : tOk W Hh xs (g6 QA j) s g = true) (h2 : ¬ (0 < K ∧ spl2 (tB W Hh xs (g6 QA j) s g) = true)) (h : rfn W Hh xs s g k (QA.drop j) K O = R) : rfn W Hh xs s g (k - 1) (QA.drop (j + 1)) K (O ++ [tB W Hh xs (g6 QA j) s g]) = R := by
  obtain ⟨n, rfl⟩ : ∃ n, k = n + 1 := ⟨k - 1, by omega⟩
  rw [g6_drop hj] at h
  unfold rfn at h
  rw [if_pos ht, if_neg h2] at h
  exact h
theorem rfn_end (hj : QA.length ≤ j) (h : rfn W Hh xs s g k (QA.drop j) K O = R) : R = O := by
  rw [List.drop_eq_nil_of_le hj] at h
  cases k <;> exact h.symm
end
theorem cright_t (H : AHeap) (W Hh : Int) (pp : AV) (xs : List Int) (q : AV) (sc : List (Int × Int)) (g : Int) (hpp : Sl H 1 pp xs.length (ints .u8 xs)) (hq : Sl H 2 q sc.length (prs sc)) (hV : vldB W Hh xs = true) (hsB : scnB sc = true) (hg : 1 ≤ g ∧ g ≤ 32) : ACalls Tryz.prog 95 [.agg [.int .i64 W, .int .i64 Hh, pp], q, .int .i64 g] H (fun v H' => v = .bool true ∧ H' = H) := by
  have k := cright_c H W Hh pp xs q sc g hpp hq (by have := (scnB_iff.1 hsB).1; omega)
  rw [hV, hsB, btw_iff.2 hg] at k
  exact k
theorem refine_c (H : AHeap) (W : Int) (Hh : Int) (pp : AV) (xs : List Int) (s : AV) (l : List T6) (q : AV) (sc : List (Int × Int)) (g : Int) (K0 : Nat) (hpp : Sl H 1 pp xs.length (ints .u8 xs)) (hs : Sl H 6 s l.length (r6 l)) (hq : Sl H 2 q sc.length (prs sc)) (hV : vldB W Hh xs = true) (hS : setB l = true) (hl0 : 0 < l.length) (hsB : scnB sc = true) (hg : 1 ≤ g ∧ g ≤ 32) (hK0 : K0 ≤ 64) : ACalls Tryz.prog 31 [.agg [.int .i64 W, .int .i64 Hh, pp], s, q, .int .i64 g, .int .i64 ((K0 : Nat) : Int)] H (fun v H' => v = .tup [.sl (some (H.length, 0)) ((rfnL W Hh xs l sc g K0).length) (capG (rfnL W Hh xs l sc g K0).length), .int .i64 0] ∧ H' = H ++ [.cells (ownG (rfnL W Hh xs l sc g K0).length) 6 (r6 (rfnL W Hh xs l sc g K0))]) := by
  obtain ⟨bpp, opp, cpp, rfl, hbpp⟩ := hpp
  have hblpp := getElem?_lt hbpp
  have hb0pp := fun l => get_app (l := l) hbpp
  obtain ⟨bs, os, cs, rfl, hbs⟩ := hs
  have hbls := getElem?_lt hbs
  have hb0s := fun l => get_app (l := l) hbs
  obtain ⟨bq, oq, cq, rfl, hbq⟩ := hq
  have hblq := getElem?_lt hbq
  have hb0q := fun l => get_app (l := l) hbq
  have hsl0 : (l.length == 0) = false := beq_eq_false_iff_ne.2 (by omega)
  have hsl1 : decide (0 < l.length) = true := decide_eq_true hl0
  have hSS := setB_iff.1 hS
  have hl16 := hSS.1
  have hkb : btw ((K0 : Nat) : Int) 0 64 = true := btw_iff.2 (by omega)
  have hVV := vld_iff.1 hV
  have hWW : 1 ≤ W ∧ W ≤ 64 := ⟨hVV.w0, hVV.w1⟩
  have hHH : 1 ≤ Hh ∧ Hh ≤ 64 := ⟨hVV.h0, hVV.h1⟩
  (refine ACalls_pieces Tryz.func31 _ rfl (Nat.le_of_ble_eq_true (by kernel_rfl)) rfl ?_; intro hbel Q hQ hQ' c hc; unfold Tryz.f31 at hc; simp only [Option.some.injEq] at hc; subst hc; clear hQ')
  refine AW_seqQ fun Q1 hn1 hr1 he1 => ?_
  have hQ1 := fun F H' h => hr1 F H' (hQ F H' h)
  refine AW_fin true try_mixed (by kernel_rfl) ?_
  have g'1 := (jn @hbpp (jn @hb0pp (jn @hbs (jn @hb0s (jn @hbq (jn @hb0q (jn @mkV_t (jn @hkb (jn @hsl0 @hsl1)))))))))
  refine runTf g'1 ?_
  refine hn1 _ _ ?_
  refine AW_seqQ fun Q2 hn2 hr2 he2 => ?_
  have hQ2 := fun F H' h => hr2 F H' (hQ F H' h)
  refine AW_fin true try_mixed (by kernel_rfl) ?_
  refine runTf g'1 ?_
  refine call_v (by kernel_rfl) (cright_t _ W Hh _ xs _ sc g ⟨_, _, _, rfl, by first | exact hb0pp _ | exact hbpp⟩ ⟨_, _, _, rfl, by first | exact hb0q _ | exact hbq⟩ hV hsB hg) ?_
  refine runTf g'1 ?_
  refine cond_split (fun h1 => ?_) (fun h1 => ?_)
  · have h1d := bsT h1
    omega
  · have h1d := bsT h1
    have g'2 := (jn @h1 (jn @h1d g'1))
    refine runTf g'2 ?_
    refine hn2 _ _ ?_
    refine AW_seqQ fun Q3 hn3 hr3 he3 => ?_
    have hQ3 := fun F H' h => hr3 F H' (hQ F H' h)
    refine AW_fin true try_mixed (by kernel_rfl) ?_
    refine runTf g'2 ?_
    refine go_loop try_mixed (by kernel_rfl) (fun k F Hx => ∃ i : Nat, i + k = l.length ∧ F = [(1, .sl (some (bs, 0)) l.length cs), (2, .sl (some (bq, 0)) sc.length cq), (3, .int .i64 g), (4, .int .i64 ((K0 : Nat) : Int)), (5, .ptr (some (H.length, 0))), (31, .sl (some (bs, 0)) l.length cs), (32, .int .i64 ((l.length : Nat) : Int)), (33, .int .i64 ((i : Nat) : Int))] ∧ Hx = H ++ [.cells true 0 [.int .i64 W, .int .i64 Hh, .sl (some (bpp, 0)) xs.length cpp]]) (l.length) ?_ ?_
    · refine ⟨_, _, _, ⟨0, by omega, rfl, rfl⟩, Abs.byG hbel [] rfl [0] (by decide) ?_⟩
      exact absW
    · rintro k0 F Hx ⟨i, hm0, rfl, rfl⟩ J0 hJ0
      refine runTf g'2 ?_
      refine cond_split (fun h2 => ?_) (fun h2 => ?_)
      · have h2d := bsT h2
        have hlt : i < l.length := by omega
        have q3 := r6_load (l := l) (j := i) (by omega)
        have g'3 := (jn @h2 (jn @h2d (jn @r6_len (jn @q3 g'2))))
        refine runTf g'3 ?_
        refine call_v (by kernel_rfl) (bxv_c _ (g61 l i) (g62 l i) (g63 l i) (g64 l i) (g65 l i) (g66 l i)) ?_
        refine runTf g'3 ?_
        refine cond_split (fun h4 => ?_) (fun h4 => ?_)
        · have h4d := bsT h4
          exact absurd ((show boxB (g6 l i) = true from hSS.2 _ (g6_mem hlt)).symm.trans h4d) (by decide)
        · have h4d := bsT h4
          have g'4 := (jn @h4 (jn @h4d g'3))
          refine runTf g'4 ?_
          refine hJ0 _ _ ⟨k0 - 1, by omega, _, _, _, ⟨i + 1, by omega, rfl, rfl⟩, Abs.byG hbel [] rfl [0] (by decide) ?_⟩
          exact absW
      · have h2d := bsT h2
        obtain rfl : i = l.length := by omega
        have g'5 := (jn @h2 (jn @h2d g'2))
        refine runTf g'5 ?_
        refine hn3 _ _ ?_
        refine AW_seqQ fun Q4 hn4 hr4 he4 => ?_
        have hQ4 := fun F H' h => hr4 F H' (hQ F H' h)
        refine AW_fin true try_mixed (by kernel_rfl) ?_
        refine runTf g'5 ?_
        refine call_v (by kernel_rfl) (cwithin_c _ ((K0 : Nat) : Int) 0 64) ?_
        refine runTf g'5 ?_
        refine hn4 _ _ ?_
        refine AW_seqQ fun Q5 hn5 hr5 he5 => ?_
        have hQ5 := fun F H' h => hr5 F H' (hQ F H' h)
        refine AW_fin true try_mixed (by kernel_rfl) ?_
        refine runTf g'5 ?_
        refine hn5 _ _ ?_
        refine AW_seqQ fun Q6 hn6 hr6 he6 => ?_
        have hQ6 := fun F H' h => hr6 F H' (hQ F H' h)
        refine AW_fin true try_mixed (by kernel_rfl) ?_
        have g'6 := (jn @r6_len (jn @r6_one (jn @r6_all g'5)))
        refine runTf g'6 ?_
        refine hn6 _ _ ?_
        refine AW_seqQ fun Q7 hn7 hr7 he7 => ?_
        have hQ7 := fun F H' h => hr7 F H' (hQ F H' h)
        refine AW_blockQ fun Q8 hn8 hr8 he8 hb8 => ?_
        have hQ8 := fun F H' h => hr8 F H' (hQ7 F H' h)
        refine AW_loopA (fun k F Hx => ∃ QA : List T6, ∃ j : Nat, ∃ K : Nat, ∃ O : List T6, QA.length - j + 2 * K = k ∧ j ≤ QA.length ∧ QA.length - j + K ≤ l.length + K0 ∧ QA.length ≤ l.length + K0 ∧ O.length + (QA.length - j) + K ≤ l.length + K0 ∧ (∀ b ∈ QA, boxB b = true) ∧ rfn W Hh xs sc g k (QA.drop j) K O = rfnL W Hh xs l sc g K0 ∧ F = [(2, .sl (some (bq, 0)) sc.length cq), (3, .int .i64 g), (4, .int .i64 ((K : Nat) : Int)), (5, .ptr (some (H.length, 0))), (14, .sl (some (H.length + 1, 0)) O.length (capG O.length)), (15, .sl (some (H.length + 2, j * 6)) (QA.length - j) none)] ∧ Hx = H ++ [.cells true 0 [.int .i64 W, .int .i64 Hh, .sl (some (bpp, 0)) xs.length cpp], .cells (ownG O.length) 6 (r6 O), .cells true 6 (r6 QA)]) (l.length + 2 * K0) ?_ ?_
        · refine ⟨_, _, _, ⟨l, 0, K0, [], by first | omega | (simp only [List.length_append, List.length_drop, List.length_cons, List.length_nil]; omega), Nat.zero_le _, by omega, by omega, by simp only [List.length_nil]; omega, hSS.2, rfl, rfl, rfl⟩, Abs.byG hbel [.cells false 6 []] rfl [0, 3, 2] (by decide) ?_⟩
          exact absRf (jn @Nat.zero_mul (jn @Nat.sub_zero (jn @r6_append (jn @r6_cons (jn @r6_nil @mvs_r6)))))
        · rintro k1 F Hx ⟨QA, j, K, O, hm1, hjq, hqb, hql, hol, hqv, hrf, rfl, rfl⟩ Q9 hJ1 hr9 he9
          have hQ9 := fun F H' h => hr9 F H' (hQ8 F H' h)
          refine AW_seqQ fun Q10 hn10 hr10 he10 => ?_
          have hQ10 := fun F H' h => hr10 F H' (hQ9 F H' h)
          refine AW_fin true try_mixed (by kernel_rfl) ?_
          refine runTf g'6 ?_
          refine cond_split (fun h5 => ?_) (fun h5 => ?_)
          · have h5d := bsT h5
            have hjl : j < QA.length := by omega
            have hbv : boxB (g6 QA j) = true := hqv _ (g6_mem hjl)
            have hsf1 : QA.length - j - 1 = QA.length - (j + 1) := by omega
            have hsf2 : j * 6 + 6 = (j + 1) * 6 := by omega
            have g'7 := (jn @h5 (jn @h5d (jn @hsf1 (jn @hsf2 g'6))))
            refine runTf g'7 ?_
            refine hn10 _ _ ?_
            refine AW_blockQ fun Q11 hn11 hr11 he11 hb11 => ?_
            have hQ11 := fun F H' h => hr11 F H' (hQ9 F H' h)
            refine AW_special true try_mixed [[0, 1, 2, 3, 4, 5, 6, 7, 8, 9, 10, 11, 12], [0, 1, 2, 3, 4, 5, 10, 6, 7, 8, 9, 11, 12]] (by kernel_rfl) (fun F2 H2 => F2 = [(2, .sl (some (bq, 0)) sc.length cq), (3, .int .i64 g), (4, .int .i64 ((K : Nat) : Int)), (5, .ptr (some (H.length, 0))), (14, .sl (some (H.length + 1, 0)) O.length (capG O.length)), (15, .sl (some (H.length + 2, j * 6)) (QA.length - j) none), (16, .ptr (some (H.length + 3, 0))), (17, .bool (tOk W Hh xs (g6 QA j) sc g))] ∧ H2 = H ++ [.cells true 0 [.int .i64 W, .int .i64 Hh, .sl (some (bpp, 0)) xs.length cpp], .cells (ownG O.length) 6 (r6 O), .cells true 6 (r6 QA), .cells true 0 [.int .i64 (mkV (tOk W Hh xs (g6 QA j) sc g) ((tB W Hh xs (g6 QA j) sc g).1)), .int .i64 (mkV (tOk W Hh xs (g6 QA j) sc g) ((tB W Hh xs (g6 QA j) sc g).2.1)), .int .i64 (mkV (tOk W Hh xs (g6 QA j) sc g) ((tB W Hh xs (g6 QA j) sc g).2.2.1)), .int .i64 (mkV (tOk W Hh xs (g6 QA j) sc g) ((tB W Hh xs (g6 QA j) sc g).2.2.2.1)), .int .i64 (mkV (tOk W Hh xs (g6 QA j) sc g) ((tB W Hh xs (g6 QA j) sc g).2.2.2.2.1)), .int .i64 (mkV (tOk W Hh xs (g6 QA j) sc g) ((tB W Hh xs (g6 QA j) sc g).2.2.2.2.2))]]) ?_ ?_
            · refine reps_cons ?_ (reps_cons ?_ (reps_nil)) <;> intro J hJ
              · skip
                have q6 := r6_load (l := QA) (j := j) (by omega)
                have g'8 := (jn @q6 g'7)
                refine runDf g'8 ?_
                refine call_d (by kernel_rfl) (trim_t _ W Hh _ xs (g6 QA j) _ sc g ⟨_, _, _, rfl, by first | exact hb0pp _ | exact hbpp⟩ ⟨_, _, _, rfl, by first | exact hb0q _ | exact hbq⟩ hV (by assumption) hsB hg) ?_
                refine runDf g'8 ?_
                refine inv_of (hJ _ _ ⟨_, _, _, ⟨rfl, rfl⟩, Abs.byG hbel [] rfl [0, 1, 2, 3] (by decide) ?_⟩)
                exact absRf (jn @r6_append (jn @r6_cons (jn @r6_nil @mvs_r6)))
              · skip
                have q7 := r6_load (l := QA) (j := j) (by omega)
                have g'9 := (jn @q7 g'7)
                refine runDf g'9 ?_
                refine call_d (by kernel_rfl) (trim_t _ W Hh _ xs (g6 QA j) _ sc g ⟨_, _, _, rfl, by first | exact hb0pp _ | exact hbpp⟩ ⟨_, _, _, rfl, by first | exact hb0q _ | exact hbq⟩ hV (by assumption) hsB hg) ?_
                refine runDf g'9 ?_
                refine inv_of (hJ _ _ ⟨_, _, _, ⟨rfl, rfl⟩, Abs.byG hbel [] rfl [0, 1, 2, 3] (by decide) ?_⟩)
                exact absRf (jn @r6_append (jn @r6_cons (jn @r6_nil @mvs_r6)))
            rintro F2 H2 ⟨rfl, rfl⟩
            refine AW_fin true try_mixed (by kernel_rfl) ?_
            refine runTf g'7 ?_
            refine cond_split (fun h8 => ?_) (fun h8 => ?_)
            · have h8d := bsT h8
              have htf := h8d
              have g'10 := (jn @h8 (jn @h8d g'7))
              refine runTf g'10 ?_
              refine hb11 _ _ ?_
              refine hJ1 _ _ ⟨k1 - 1, by omega, _, _, _, ⟨QA, j + 1, K, O, by first | omega | (simp only [List.length_append, List.length_drop, List.length_cons, List.length_nil]; omega), by omega, by omega, hql, by omega, hqv, rfn_no hjl hm1 htf hrf, rfl, rfl⟩, Abs.byG hbel [] rfl [0, 1, 2] (by decide) ?_⟩
              exact absRf (jn @Nat.zero_mul (jn @Nat.sub_zero (jn @List.length_drop.{0} (jn @r6_append (jn @r6_cons (jn @r6_nil @mvs_r6))))))
            · have h8d := bsT h8
              have hto := h8d
              have htb := (tB_ok hWW hHH hbv hto).1
              have g'11 := (jn @h8 (jn @h8d g'7))
              refine runTf g'11 ?_
              refine cond_split (fun h9 => ?_) (fun h9 => ?_)
              · have h9d := bsT h9
                have hK : 0 < K := by omega
                have hsfk : ((K : Nat) : Int) - 1 = ((K - 1 : Nat) : Int) := by omega
                have g'12 := (jn @h9 (jn @h9d (jn @hsfk g'11)))
                refine runTf g'12 ?_
                rcases Bool.eq_false_or_eq_true (spl2 (tB W Hh xs (g6 QA j) sc g)) with h10 | h10
                · have h10d := h10
                  have hs2 := h10d
                  have hso := spl_ok htb hs2
                  have hdv : List.take ((QA.length - (j + 1)) * 6) (List.drop ((j + 1) * 6) (r6 QA)) = r6 (List.drop (j + 1) QA) := r6_dropv (by omega)
                  refine call_v (by kernel_rfl) (split_t _ (tB W Hh xs (g6 QA j) sc g) (by assumption) (by assumption)) ?_
                  have g'13 := (jn @h10 (jn @h10d (jn @prs_len (jn @capG_s g'12))))
                  refine runTf g'13 ?_
                  refine hb11 _ _ ?_
                  refine hJ1 _ _ ⟨k1 - 1, by omega, _, _, _, ⟨List.drop (j + 1) QA ++ [splX (tB W Hh xs (g6 QA j) sc g), splY (tB W Hh xs (g6 QA j) sc g)], 0, K - 1, O, by first | omega | (simp only [List.length_append, List.length_drop, List.length_cons, List.length_nil]; omega), Nat.zero_le _, by simp only [List.length_append, List.length_drop, List.length_cons, List.length_nil]; omega, by simp only [List.length_append, List.length_drop, List.length_cons, List.length_nil]; omega, by simp only [List.length_append, List.length_drop, List.length_cons, List.length_nil]; omega, fun b hb' => by
                              rcases List.mem_append.1 hb' with q | q
                              · exact hqv b (List.mem_of_mem_drop q)
                              · rcases List.mem_cons.1 q with q | q
                                · rw [q]; exact hso.1
                                · rw [List.mem_singleton.1 q]; exact hso.2.1, rfn_two hjl hm1 hto ⟨hK, hs2⟩ hrf, rfl, rfl⟩, Abs.byG hbel [] rfl [0, 1, 7] (by decide) ?_⟩
                  exact absRf (jn @Nat.zero_mul (jn @Nat.sub_zero (jn @List.length_drop.{0} (jn @hdv (jn @r6_append (jn @r6_cons (jn @r6_nil @mvs_r6)))))))
                · have h10d := h10
                  have hno : ¬ (0 < K ∧ spl2 (tB W Hh xs (g6 QA j) sc g) = true) := fun q => absurd (q.2.symm.trans h10d) (by decide)
                  refine call_v (by kernel_rfl) (split_f _ (tB W Hh xs (g6 QA j) sc g) (by assumption) (by assumption)) ?_
                  have g'14 := (jn @h10 (jn @h10d (jn @prs_len (jn @capG_s g'12))))
                  refine runTf g'14 ?_
                  refine hn11 _ _ ?_
                  refine hJ1 _ _ ⟨k1 - 1, by omega, _, _, _, ⟨QA, j + 1, K, O ++ [(tB W Hh xs (g6 QA j) sc g)], by first | omega | (simp only [List.length_append, List.length_drop, List.length_cons, List.length_nil]; omega), by omega, by omega, hql, by simp only [List.length_append, List.length_drop, List.length_cons, List.length_nil]; omega, hqv, rfn_out hjl hm1 hto hno hrf, rfl, rfl⟩, Abs.byG hbel [] rfl [0, 7, 2] (by decide) ?_⟩
                  exact absRf (jn @Nat.zero_mul (jn @Nat.sub_zero (jn @List.length_drop.{0} (jn @r6_append (jn @r6_cons (jn @r6_nil @mvs_r6))))))
              · have h9d := bsT h9
                have hno : ¬ (0 < K ∧ spl2 (tB W Hh xs (g6 QA j) sc g) = true) := fun q => by omega
                have g'15 := (jn @h9 (jn @h9d (jn @prs_len (jn @capG_s g'11))))
                refine runTf g'15 ?_
                refine hn11 _ _ ?_
                refine hJ1 _ _ ⟨k1 - 1, by omega, _, _, _, ⟨QA, j + 1, K, O ++ [(tB W Hh xs (g6 QA j) sc g)], by first | omega | (simp only [List.length_append, List.length_drop, List.length_cons, List.length_nil]; omega), by omega, by omega, hql, by simp only [List.length_append, List.length_drop, List.length_cons, List.length_nil]; omega, hqv, rfn_out hjl hm1 hto hno hrf, rfl, rfl⟩, Abs.byG hbel [] rfl [0, 5, 2] (by decide) ?_⟩
                exact absRf (jn @Nat.zero_mul (jn @Nat.sub_zero (jn @List.length_drop.{0} (jn @r6_append (jn @r6_cons (jn @r6_nil @mvs_r6))))))
          · have h5d := bsT h5
            have hfinR : rfnL W Hh xs l sc g K0 = O := rfn_end (by omega) hrf
            have g'16 := (jn @h5 (jn @h5d g'6))
            refine runTf g'16 ?_
            refine he10 _ _ _ ?_
            refine he9 _ _ _ ?_
            refine hb8 _ _ ?_
            refine hn7 _ _ ?_
            refine AW_fin true try_mixed (by kernel_rfl) ?_
            refine runTf g'16 ?_
            refine hQ _ _ (end_byG (.inl rfl) hbel (x1 := .tup [.sl (some (H.length + 1, 0)) O.length (capG O.length), .int .i64 0]) (l2 := [.cells (ownG O.length) 6 (r6 O)]) (.tup [.sl (some (H.length, 0)) O.length (capG O.length), .int .i64 0]) (resT Tryz.results31) [] rfl [1] (by decide) ⟨by first | (rw [hfinR]; done) | (rw [hfinR]; rfl), by first | (rw [hfinR]; done) | (rw [hfinR]; rfl)⟩ ?_)
            exact absWf @mvs_r6
set_option linter.unusedSimpArgs false
set_option linter.unusedVariables false
open Go.RowKit
set_option maxHeartbeats 4000000
set_option maxRecDepth 100000
open Go.RowKit
open Go.RowKit
theorem IsI.parts {H : AHeap} {k : IntKind} {s : AV} {l : List Int} (h : IsI H k s l) : ∃ a c, s = .sl a l.length c := by
  rcases h with ⟨rfl, rfl⟩ | ⟨b, own, cap, rfl, hb⟩
  · exact ⟨_, _, rfl⟩
  · exact ⟨_, _, rfl⟩
def bys (xs : List Int) : List UInt8 := xs.map fun n => UInt8.ofNat n.toNat
theorem bys_map : ∀ xs : List Int, (ints .u8 xs).mapM byteOf = some (bys xs)
  | [] => rfl
  | x :: xs => by
    have ih := bys_map xs
    show (AV.int .u8 x :: ints .u8 xs).mapM byteOf = _
    rw [List.mapM_cons, ih]
    rfl
theorem need_pos {p : Prop} [Decidable p] (h : p) : need p = some () := by unfold need; rw [if_pos h]
/-- A slice of bytes, as a text. -/
theorem conv_bytes {H : AHeap} {s : AV} {xs : List Int} (hs : IsI H .u8 s xs) : aConv Tryz.prog 22 9 s H = some (.str (bys xs)) := by
  have h1 := bys_map xs
  have key : ∀ a n c, aElems 1 (.sl a n c) H = some (n, ints .u8 xs) → aConv Tryz.prog 22 9 (.sl a n c) H = some (.str (bys xs)) := fun a n c he => by
    unfold aConv
    simp only [tElem22, Option.bind_some]
    rw [need_pos ⟨tInt5, by kernel_rfl⟩, Option.bind_some, he, Option.bind_some]
    simp only [h1, Option.map_some]
  rcases hs with ⟨rfl, rfl⟩ | ⟨b, own, cap, rfl, hb⟩
  · exact key none 0 (some 0) rfl
  · refine key _ _ _ ?_
    unfold aElems ards
    simp only [hb]
    rw [if_pos (by rw [ints_len]; omega), List.drop_zero, List.take_of_length_le (by rw [ints_len]; omega)]
    rfl
open Go.RowKit
set_option maxRecDepth 100000 in
theorem bytes_s (H : AHeap) (xs : List Int) (s1 s2 : AV) (h1 : IsI H .u8 s1 xs) (h2 : IsI H .u8 s2 xs) : ACalls Tryz.prog 89 [s1, s2] H (fun v H' => v = .bool true ∧ H' = H) := by
  have hc1 := conv_bytes h1
  have hc2 := conv_bytes h2
  obtain ⟨a1, c1, rfl⟩ := h1.parts
  obtain ⟨a2, c2, rfl⟩ := h2.parts
  refine AcT true Tryz.func89 ?_; intro hbel Q hQ
  simp -implicitDefEqProofs (maxSteps := 2000000) (disch := omega) only [hc1, hc2, simprocAttr, amset, tyset, Function.comp_apply, one1, lenV, calleeOf, lateOk, belowV, aop, AV.ofValue, AV.ofCell, AV.cells, AV.flat, AV.one, arep, aBin, aAppend]
  exact hQ _ _ (end_plain0 (.inl rfl) hbel (x := .bool true) (ret_of Tryz.results89 (by simp -implicitDefEqProofs (maxSteps := 2000000) (disch := omega) only [simprocAttr, amset, tyset, Function.comp_apply, one1, lenV, calleeOf, lateOk, belowV, aop, AV.ofValue, AV.ofCell, AV.cells, AV.flat, AV.one, arep, aBin, aAppend, aConv])) rfl ⟨rfl, rfl⟩)
theorem sva_rf (H : AHeap) (pp s q : AV) (hpp : Sl H 1 pp 4 (ints .u8 [1, 1, 1, 2])) (hs : Sl H 6 s 1 (r6 [(32, 32, 32, 32, 0, 1)])) (hq : Sl H 2 q 1 (prs [(0, 3)])) : ACalls Tryz.prog 31 [.agg [.int .i64 4, .int .i64 1, pp], s, q, .int .i64 4, .int .i64 0] H (fun v H' => v = .tup [.sl (some (H.length, 0)) 0 (capG 0), .int .i64 0] ∧ H' = H ++ [.cells (ownG 0) 6 (r6 [])]) := by
  have k := refine_c H 4 1 pp [1, 1, 1, 2] s [(32, 32, 32, 32, 0, 1)] q [(0, 3)] 4 0 hpp hs hq sv_vld sv_set (by decide) sv_scn (by decide) (by decide)
  rw [sv_rfn] at k
  exact k
set_option maxHeartbeats 4000000 in
set_option maxRecDepth 100000 in
theorem sva_c (H : AHeap)  : ACalls Tryz.prog 26 [] H (fun v H' => v = .bool true ∧ H' = H) := by
  have hvR := sv_rgt
  have hvL := sv_ln
  refine AcT false Tryz.func26 ?_; intro hbel Q hQ
  simp -implicitDefEqProofs (maxSteps := 2000000) (disch := omega) only [aApp_nil, aApp_none, aApp_some, aApp_grw, simprocAttr, amset, tyset, Function.comp_apply, one1, lenV, calleeOf, lateOk, belowV, aop, AV.ofValue, AV.ofCell, AV.cells, AV.flat, AV.one, arep, aBin, aConv]
  repeat refine And.intro (by omega) ?_
  refine call_v (by kernel_rfl) (learnT_c _ 4 1 _ [0, 0, 0, 0] _ [(32, 32, 32, 32, 0, 1)] _ [(0, 160)] 4 [1, 1, 1, 2] ⟨_, _, _, by first | rfl | (rw [List.length_append]; done) | (rw [List.length_append]; rfl), by first | rfl | (rw [get_newk]; rfl) | (rw [get_new0]; rfl) | (rw [get_newk, prs_append]; rfl) | (rw [get_new0, prs_append]; rfl)⟩ ⟨_, _, _, by first | rfl | (rw [List.length_append]; done) | (rw [List.length_append]; rfl), by first | rfl | (rw [get_newk]; rfl) | (rw [get_new0]; rfl) | (rw [get_newk, prs_append]; rfl) | (rw [get_new0, prs_append]; rfl)⟩ ⟨_, _, _, by first | rfl | (rw [List.length_append]; done) | (rw [List.length_append]; rfl), by first | rfl | (rw [get_newk]; rfl) | (rw [get_new0]; rfl) | (rw [get_newk, prs_append]; rfl) | (rw [get_new0, prs_append]; rfl)⟩ (by assumption) (by assumption)) ?_
  simp -implicitDefEqProofs (maxSteps := 2000000) (disch := omega) only [aApp_nil, aApp_none, aApp_some, aApp_grw, simprocAttr, amset, tyset, Function.comp_apply, one1, lenV, calleeOf, lateOk, belowV, aop, AV.ofValue, AV.ofCell, AV.cells, AV.flat, AV.one, arep, aBin, aConv]
  repeat refine And.intro (by omega) ?_
  refine call_v (by kernel_rfl) (sva_rf _ _ _ _ ⟨_, _, _, by first | rfl | (rw [List.length_append]; done) | (rw [List.length_append]; rfl), by first | rfl | (rw [get_newk]; rfl) | (rw [get_new0]; rfl) | (rw [get_newk, prs_append]; rfl) | (rw [get_new0, prs_append]; rfl)⟩ ⟨_, _, _, by first | rfl | (rw [List.length_append]; done) | (rw [List.length_append]; rfl), by first | rfl | (rw [get_newk]; rfl) | (rw [get_new0]; rfl) | (rw [get_newk, prs_append]; rfl) | (rw [get_new0, prs_append]; rfl)⟩ ⟨_, _, _, by first | rfl | (rw [List.length_append]; done) | (rw [List.length_append]; rfl), by first | rfl | (rw [get_newk]; rfl) | (rw [get_new0]; rfl) | (rw [get_newk, prs_append]; rfl) | (rw [get_new0, prs_append]; rfl)⟩) ?_
  simp -implicitDefEqProofs (maxSteps := 2000000) (disch := omega) only [aApp_nil, aApp_none, aApp_some, aApp_grw, simprocAttr, amset, tyset, Function.comp_apply, one1, lenV, calleeOf, lateOk, belowV, aop, AV.ofValue, AV.ofCell, AV.cells, AV.flat, AV.one, arep, aBin, aConv]
  repeat refine And.intro (by omega) ?_
  refine call_v (by kernel_rfl) (bytes_s _ [1, 1, 1, 2] _ _ (.inr ⟨_, _, _, by first | rfl | (rw [List.length_append]; done) | (rw [List.length_append]; rfl), by first | rfl | (rw [get_newk]; rfl) | (rw [get_new0]; rfl) | (rw [get_newk, prs_append]; rfl) | (rw [get_new0, prs_append]; rfl)⟩) (.inr ⟨_, _, _, by first | rfl | (rw [List.length_append]; done) | (rw [List.length_append]; rfl), by first | rfl | (rw [get_newk]; rfl) | (rw [get_new0]; rfl) | (rw [get_newk, prs_append]; rfl) | (rw [get_new0, prs_append]; rfl)⟩)) ?_
  simp -implicitDefEqProofs (maxSteps := 2000000) (disch := omega) only [aApp_nil, aApp_none, aApp_some, aApp_grw, simprocAttr, amset, tyset, Function.comp_apply, one1, lenV, calleeOf, lateOk, belowV, aop, AV.ofValue, AV.ofCell, AV.cells, AV.flat, AV.one, arep, aBin, aConv]
  repeat refine And.intro (by omega) ?_
  exact hQ _ _ (end_plain (.inl rfl) hbel (x := .bool true) (ret_of Tryz.results26 (by simp -implicitDefEqProofs (maxSteps := 2000000) (disch := omega) only [simprocAttr, amset, tyset, Function.comp_apply, one1, lenV, calleeOf, lateOk, belowV, aop, AV.ofValue, AV.ofCell, AV.cells, AV.flat, AV.one, arep, aBin, aAppend, aConv])) rfl ⟨rfl, rfl⟩)
open Go.RowKit
open Go.RowKit
open Go.RowKit
open Go.RowKit
open Go.RowKit
open Go.RowKit
open Go.RowKit
theorem hhas_c (H : AHeap) (f : Int) (c : Int) (h : Int) : ACalls Tryz.prog 179 [.agg [.int .i64 f, .int .i64 c], .int .i64 h] H (fun v H' => v = .bool (hsgB f c h) ∧ H' = H) := by
  refine AcT true Tryz.func179 ?_; intro hbel Q hQ
  refine runT ?_
  refine call_d (by kernel_rfl) (varc_c _ f c) ?_
  refine runT ?_
  refine gd_split (fun h1 => ?_) (fun h1 => ?_)
  · have h1d := bsT h1
    have g'1 := (jn @h1 @h1d)
    refine runTf g'1 ?_
    refine call_d (by kernel_rfl) (mark_c _ (IntKind.i64.wrap (h - f))) ?_
    refine runTf g'1 ?_
    exact hQ _ _ (end_plain (.inl rfl) hbel (x := .bool (decide (((((IntKind.i64.wrap (h - f)) % 256).toNat : Nat) : Int) < c))) (resT Tryz.results179) rfl ⟨by first | (simp [hsgB, h1d]; done) | (unfold hsgB; simp [h1d]; done), rfl⟩)
  · have h1d := bsT h1
    have g'2 := (jn @h1 @h1d)
    refine runTf g'2 ?_
    exact hQ _ _ (end_plain (.inl rfl) hbel (x := .bool false) (resT Tryz.results179) rfl ⟨by first | (simp [hsgB, h1d]; done) | (unfold hsgB; simp [h1d]; done), rfl⟩)
theorem bhas_c (H : AHeap) (x0 : Int) (y0 : Int) (x1 : Int) (y1 : Int) (f : Int) (c : Int) (px : Int) (py : Int) (ph : Int) : ACalls Tryz.prog 94 [.agg [.int .i64 x0, .int .i64 y0, .int .i64 x1, .int .i64 y1, .int .i64 f, .int .i64 c], .agg [.int .i64 px, .int .i64 py, .int .i64 ph]] H (fun v H' => v = .bool (hbB px py ph (x0, y0, x1, y1, f, c)) ∧ H' = H) := by
  refine AcT true Tryz.func94 ?_; intro hbel Q hQ
  refine runT ?_
  refine call_d (by kernel_rfl) (bxv_c _ x0 y0 x1 y1 f c) ?_
  refine runT ?_
  refine gd_split (fun h1 => ?_) (fun h1 => ?_)
  · have h1d := bsT h1
    have g'3 := (jn @h1 @h1d)
    refine runTf g'3 ?_
    refine gd_split (fun h2 => ?_) (fun h2 => ?_)
    · have h2d := bsT h2
      have g'4 := (jn @h2 (jn @h2d g'3))
      refine runTf g'4 ?_
      refine gd_split (fun h3 => ?_) (fun h3 => ?_)
      · have h3d := bsT h3
        have g'5 := (jn @h3 (jn @h3d g'4))
        refine runTf g'5 ?_
        refine gd_split (fun h4 => ?_) (fun h4 => ?_)
        · have h4d := bsT h4
          have g'6 := (jn @h4 (jn @h4d g'5))
          refine runTf g'6 ?_
          refine gd_split (fun h5 => ?_) (fun h5 => ?_)
          · have h5d := bsT h5
            have g'7 := (jn @h5 (jn @h5d g'6))
            refine runTf g'7 ?_
            refine call_d (by kernel_rfl) (xarc_c _ x0 y0 x1 y1 f c) ?_
            refine runTf g'7 ?_
            refine call_d (by kernel_rfl) (hhas_c _ f c ph) ?_
            refine runTf g'7 ?_
            exact hQ _ _ (end_plain (.inl rfl) hbel (x := .bool (hsgB f c ph)) (resT Tryz.results94) rfl ⟨by first | (simp [hbB, h1d, h2d, h3d, h4d, h5d]; done) | (unfold hbB; simp [h1d, h2d, h3d, h4d, h5d]; done) | (unfold hbB; simp [h1d, h2d, h3d, h4d, h5d]; omega), rfl⟩)
          · have h5d := bsT h5
            have g'8 := (jn @h5 (jn @h5d g'6))
            refine runTf g'8 ?_
            exact hQ _ _ (end_plain (.inl rfl) hbel (x := .bool false) (resT Tryz.results94) rfl ⟨by first | (simp [hbB, h1d, h2d, h3d, h4d, h5d]; done) | (unfold hbB; simp [h1d, h2d, h3d, h4d, h5d]; done) | (unfold hbB; simp [h1d, h2d, h3d, h4d, h5d]; omega), rfl⟩)
        · have h4d := bsT h4
          have g'9 := (jn @h4 (jn @h4d g'5))
          refine runTf g'9 ?_
          exact hQ _ _ (end_plain (.inl rfl) hbel (x := .bool false) (resT Tryz.results94) rfl ⟨by first | (simp [hbB, h1d, h2d, h3d, h4d]; done) | (unfold hbB; simp [h1d, h2d, h3d, h4d]; done) | (unfold hbB; simp [h1d, h2d, h3d, h4d]; omega), rfl⟩)
      · have h3d := bsT h3
        have g'10 := (jn @h3 (jn @h3d g'4))
        refine runTf g'10 ?_
        exact hQ _ _ (end_plain (.inl rfl) hbel (x := .bool false) (resT Tryz.results94) rfl ⟨by first | (simp [hbB, h1d, h2d, h3d]; done) | (unfold hbB; simp [h1d, h2d, h3d]; done) | (unfold hbB; simp [h1d, h2d, h3d]; omega), rfl⟩)
    · have h2d := bsT h2
      have g'11 := (jn @h2 (jn @h2d g'3))
      refine runTf g'11 ?_
      exact hQ _ _ (end_plain (.inl rfl) hbel (x := .bool false) (resT Tryz.results94) rfl ⟨by first | (simp [hbB, h1d, h2d]; done) | (unfold hbB; simp [h1d, h2d]; done) | (unfold hbB; simp [h1d, h2d]; omega), rfl⟩)
  · have h1d := bsT h1
    have g'12 := (jn @h1 @h1d)
    refine runTf g'12 ?_
    exact hQ _ _ (end_plain (.inl rfl) hbel (x := .bool false) (resT Tryz.results94) rfl ⟨by first | (simp [hbB, h1d]; done) | (unfold hbB; simp [h1d]; done) | (unfold hbB; simp [h1d]; omega), rfl⟩)
theorem bcov1_c (H : AHeap) (x0 : Int) (y0 : Int) (x1 : Int) (y1 : Int) (f : Int) (c : Int) (px : Int) (py : Int) (ph : Int) (bz : Nat) (hz : ∃ o, H[bz]? = some (.cells o 0 [.int .i64 px, .int .i64 py, .int .i64 ph])) : ACalls Tryz.prog 93 [.agg [.int .i64 x0, .int .i64 y0, .int .i64 x1, .int .i64 y1, .int .i64 f, .int .i64 c], .ptr (some (bz, 0))] H (fun v H' => v = .bool (hbB px py ph (x0, y0, x1, y1, f, c)) ∧ H' = H) := by
  obtain ⟨oz, hbz⟩ := hz
  have hblz := getElem?_lt hbz
  have hb0z := fun l => get_app (l := l) hbz
  refine AcT true Tryz.func93 ?_; intro hbel Q hQ
  have g'13 := (jn @hbz @hb0z)
  refine runTf g'13 ?_
  refine call_v (by kernel_rfl) (bhas_c _ x0 y0 x1 y1 f c px py ph) ?_
  refine runTf g'13 ?_
  exact hQ _ _ (end_plain (.inl rfl) hbel (x := .bool (hbB px py ph (x0, y0, x1, y1, f, c))) (resT Tryz.results93) rfl ⟨rfl, rfl⟩)
theorem bcov_c (H : AHeap) (s : AV) (l : List T6) (px : Int) (py : Int) (ph : Int) (hs : Sl H 6 s l.length (r6 l)) (hl : l.length ≤ 1000000000) : ACalls Tryz.prog 29 [s, .agg [.int .i64 px, .int .i64 py, .int .i64 ph]] H (fun v H' => v = .bool (covB l px py ph) ∧ H' = H) := by
  obtain ⟨bs, os, cs, rfl, hbs⟩ := hs
  have hbls := getElem?_lt hbs
  have hb0s := fun l => get_app (l := l) hbs
  refine AcT true Tryz.func29 ?_; intro hbel Q hQ
  have g'14 := (jn @hbs @hb0s)
  refine runTf g'14 ?_
  refine call_v (by kernel_rfl) (has_box _ _ l ⟨_, _, _, rfl, by first | exact hb0s _ | exact hbs⟩ (by omega) _ [.ptr (some (H.length, 0))] (by kernel_rfl) (by simp [AV.bels, AV.bel]) (hbB px py ph) (fun j hj => bcov1_c _ _ _ _ _ _ _ px py ph _ ⟨_, by first | (rw [get_newk]; rfl) | (rw [get_new0]; rfl)⟩)) ?_
  refine runTf g'14 ?_
  exact hQ _ _ (end_plain (.inl rfl) hbel (x := .bool (l.any (hbB px py ph))) (resT Tryz.results29) rfl ⟨rfl, rfl⟩)
theorem below_c (H : AHeap) (W : Int) (Hh : Int) (kk : AV) (ks : List Int) (W2 : Int) (Hh2 : Int) (pp : AV) (xs : List Int) (hkk : Sl H 1 kk ks.length (ints .u8 ks)) (hpp : Sl H 1 pp xs.length (ints .u8 xs)) (hVk : vldB W Hh ks = true) (hVx : vldB W2 Hh2 xs = true) (he1 : W = W2) (he2 : Hh = Hh2) (hbe : BelP ks xs) : ACalls Tryz.prog 33 [.agg [.int .i64 W, .int .i64 Hh, kk], .agg [.int .i64 W2, .int .i64 Hh2, pp]] H (fun v H' => v = .bool true ∧ H' = H) := by
  obtain ⟨bkk, okk, ckk, rfl, hbkk⟩ := hkk
  have hblkk := getElem?_lt hbkk
  have hb0kk := fun l => get_app (l := l) hbkk
  obtain ⟨bpp, opp, cpp, rfl, hbpp⟩ := hpp
  have hblpp := getElem?_lt hbpp
  have hb0pp := fun l => get_app (l := l) hbpp
  have hba : (W != W2) = false := by rw [he1]; simp
  have hbb : (Hh != Hh2) = false := by rw [he2]; simp
  have hlk := hbe.1
  have hVV := vld_iff.1 hVk
  have hx6 : ks.length ≤ 1000000 := by have h4 := hVV.len; have := Int.mul_le_mul hVV.w1 hVV.h1 (by have := hVV.h0; omega) (by decide); omega
  refine AcT true Tryz.func33 ?_; intro hbel Q hQ
  have g'20 := (jn @hbkk (jn @hb0kk (jn @hbpp (jn @hb0pp (jn @hVk (jn @hVx (jn @hba @hbb)))))))
  refine runTf g'20 ?_
  refine call_v (by kernel_rfl) (valid_a _ W Hh _ ks (.inr ⟨_, _, _, rfl, by first | exact hb0kk _ | exact hbkk⟩)) ?_
  refine runTf g'20 ?_
  refine call_v (by kernel_rfl) (valid_a _ W2 Hh2 _ xs (.inr ⟨_, _, _, rfl, by first | exact hb0pp _ | exact hbpp⟩)) ?_
  refine runTf g'20 ?_
  refine go_loop try_mixed (by kernel_rfl) (fun k F Hx => ∃ i : Nat, i + k = ks.length ∧ F = [(3, .ptr (some (H.length, 0))), (30, .sl (some (bkk, 0)) ks.length ckk), (31, .int .i64 ((ks.length : Nat) : Int)), (32, .int .i64 ((i : Nat) : Int))] ∧ Hx = H ++ [.cells true 0 [.int .i64 W2, .int .i64 Hh2, .sl (some (bpp, 0)) xs.length cpp]]) (ks.length) ?_ ?_
  · refine ⟨_, _, _, ⟨0, by omega, rfl, rfl⟩, Abs.byG hbel [] rfl [1] (by decide) ?_⟩
    exact absW
  · rintro k0 F Hx ⟨i, hm0, rfl, rfl⟩ J0 hJ0
    refine runTf g'20 ?_
    refine cond_split (fun h1 => ?_) (fun h1 => ?_)
    · have h1d := bsT h1
      have hlt : i < ks.length := by omega
      have q2 := ints_get (k := .u8) (xs := ks) (j := i) (by omega)
      have g'21 := (jn @h1 (jn @h1d (jn @q2 g'20)))
      refine runTf g'21 ?_
      refine gd_split (fun h3 => ?_) (fun h3 => ?_)
      · have h3d := bsT h3
        have h3n := bnT h3
        have hne : ¬ gi ks i = 0 := by first | exact h3d | simpa using h3d
        have q4 := ints_get (k := .u8) (xs := xs) (j := i) (by omega)
        have g'22 := (jn @h3 (jn @h3n (jn @int_bne (jn @int_beq (jn @q4 g'21)))))
        refine runTf g'22 ?_
        refine cond_split (fun h5 => ?_) (fun h5 => ?_)
        · have h5d := bsT h5
          have h5n := bnT h5
          exact absurd ((hbe.2 i).resolve_left hne).symm (by first | exact h5d | simpa using h5d)
        · have h5d := bsT h5
          have h5n := bnT h5
          have g'23 := (jn @h5 (jn @h5n g'22))
          refine runTf g'23 ?_
          refine hJ0 _ _ ⟨k0 - 1, by omega, _, _, _, ⟨i + 1, by omega, rfl, rfl⟩, Abs.byG hbel [] rfl [0] (by decide) ?_⟩
          exact absW
      · have h3d := bsT h3
        have h3n := bnT h3
        have g'24 := (jn @h3 (jn @h3n (jn @int_bne (jn @int_beq g'21))))
        refine runTf g'24 ?_
        refine hJ0 _ _ ⟨k0 - 1, by omega, _, _, _, ⟨i + 1, by omega, rfl, rfl⟩, Abs.byG hbel [] rfl [0] (by decide) ?_⟩
        exact absW
    · have h1d := bsT h1
      have g'25 := (jn @h1 (jn @h1d g'20))
      refine runTf g'25 ?_
      exact hQ _ _ (end_plain (.inl rfl) hbel (x := .bool true) (resT Tryz.results33) rfl ⟨rfl, rfl⟩)
open Go.RowKit
/-- A bit of what is hidden. -/
def vlC (vl : List Int) (i : Nat) : Bool := (IntKind.u8.wrap ((BitVec.ofInt IntKind.u8.bits (Int.fdiv (gi vl (i / 8)) (2 ^ (min (i % 8) 8))) &&& BitVec.ofInt IntKind.u8.bits 1).toNat : Nat)) != 0
def vlK (xs vl : List Int) : Nat → List Int
  | 0 => xs
  | i + 1 => if (decide (((i : Nat) : Int) < IntKind.i64.wrap (8 * ((vl.length : Nat) : Int))) && vlC vl i) = true then (vlK xs vl i).set i 0 else vlK xs vl i
/-- What is left of the plan. -/
def vlP (xs vl : List Int) : List Int := vlK xs vl xs.length
theorem vlK_bel (xs vl : List Int) : ∀ i : Nat, i ≤ xs.length → BelP (vlK xs vl i) xs
  | 0, _ => ⟨rfl, fun i => .inr rfl⟩
  | i + 1, hi => by
    have ih := vlK_bel xs vl i (by omega)
    unfold vlK
    split
    · refine ⟨by rw [List.length_set]; exact ih.1, fun j => ?_⟩
      rw [gi_setL (by rw [ih.1]; omega)]
      split
      · exact .inl rfl
      · exact ih.2 j
    · exact ih
theorem vlP_bel (xs vl : List Int) : BelP (vlP xs vl) xs := vlK_bel xs vl _ (Nat.le_refl _)
theorem vl_idx {vl : List Int} {i : Nat} (h : ((i : Nat) : Int) < IntKind.i64.wrap (8 * ((vl.length : Nat) : Int))) (hi : i < 64) : i / 8 < vl.length := by
  rcases Nat.lt_or_ge vl.length 8 with k | k
  · rw [wrap_in (by omega) (by omega)] at h; omega
  · omega
theorem vlK_o {xs vl : List Int} {n : Nat} (h : ¬ ((n : Nat) : Int) < IntKind.i64.wrap (8 * ((vl.length : Nat) : Int))) : vlK xs vl (n + 1) = vlK xs vl n := if_neg (by rw [decide_eq_false h]; simp)
theorem vlK_out {xs vl : List Int} {i : Nat} (h : ¬ ((i : Nat) : Int) < IntKind.i64.wrap (8 * ((vl.length : Nat) : Int))) : ∀ {j : Nat}, vlK xs vl (i + j) = vlK xs vl i
  | 0 => rfl
  | j + 1 => (vlK_o (n := i + j) (by omega)).trans (vlK_out h)
theorem vlK_t {xs vl : List Int} {i : Nat} (h : ((i : Nat) : Int) < IntKind.i64.wrap (8 * ((vl.length : Nat) : Int))) (k : vlC vl i = true) : vlK xs vl (i + 1) = (vlK xs vl i).set i 0 := if_pos (by rw [decide_eq_true h, k]; rfl)
theorem vlK_f {xs vl : List Int} {i : Nat} (k : vlC vl i = false) : vlK xs vl (i + 1) = vlK xs vl i := if_neg (by rw [k]; simp)
theorem rem_nat8 (a : Nat) : Int.tmod (a : Int) 8 = ((a % 8 : Nat) : Int) := rfl
theorem quo_nat8' (a : Nat) : Int.tdiv (a : Int) 8 = ((a / 8 : Nat) : Int) := rfl
open Go.RowKit
theorem ints_all {k : IntKind} {l : List Int} : (ints k l).take l.length = ints k l ∧ (ints k l).take (l.length * 1) = ints k l := ⟨List.take_of_length_le (by rw [ints_len]; omega), List.take_of_length_le (by rw [ints_len]; omega)⟩
section
variable {W Hh : Int} {xs : List Int} {l : List T6} {sc : List (Int × Int)} {g : Int}
end
set_option linter.unusedSimpArgs false
set_option linter.unusedVariables false
open Go.RowKit
set_option maxHeartbeats 4000000
set_option maxRecDepth 100000
theorem veil_c (H : AHeap) (W : Int) (Hh : Int) (pp : AV) (xs : List Int) (v : AV) (vls : List Int) (hpp : Sl H 1 pp xs.length (ints .u8 xs)) (hv : Sl H 1 v vls.length (ints .u8 vls)) (hx0 : 0 < xs.length) (hx6 : xs.length ≤ 64) (hv6 : vls.length ≤ 9223372036854775807) : ACalls Tryz.prog 30 [.agg [.int .i64 W, .int .i64 Hh, pp], v] H (fun v H' => v = .agg [.int .i64 W, .int .i64 Hh, .sl (some (H.length, 0)) ((vlP xs vls).length) none] ∧ H' = H ++ [.cells true 1 (ints .u8 (vlP xs vls))]) := by
  obtain ⟨bpp, opp, cpp, rfl, hbpp⟩ := hpp
  have hblpp := getElem?_lt hbpp
  have hb0pp := fun l => get_app (l := l) hbpp
  obtain ⟨bv, ov, cv, rfl, hbv⟩ := hv
  have hblv := getElem?_lt hbv
  have hb0v := fun l => get_app (l := l) hbv
  have hsfz : (xs.length == 0) = false := beq_eq_false_iff_ne.2 (by omega)
  have hsfd : decide (0 < xs.length) = true := decide_eq_true hx0
  (refine ACalls_pieces Tryz.func30 _ rfl (Nat.le_of_ble_eq_true (by kernel_rfl)) rfl ?_; intro hbel Q hQ hQ' c hc; unfold Tryz.f30 at hc; simp only [Option.some.injEq] at hc; subst hc; clear hQ')
  refine AW_step false try_mixed (by kernel_rfl) (fun F Hx => look F 1 = .sl (some (bv, 0)) vls.length cv ∧ look F 2 = .ptr (some (H.length, 0)) ∧ look F 4 = .ptr (some (H.length + 1, 0)) ∧ Hx = H ++ [.cells true 0 [.int .i64 W, .int .i64 Hh, .sl (some (bpp, 0)) xs.length cpp], .cells true 0 [.int .i64 0, .int .i64 0, .sl none 0 (some 0)]]) ?_ ?_
  · skip
    have g'1 := (jn @hbpp (jn @hb0pp (jn @hbv (jn @hb0v (jn @rem_nat8 (jn @quo_nat8' (jn @hsfz @hsfd)))))))
    refine runTf g'1 ?_
    refine inv_of ?_
    exact absT
  rintro F Hx ⟨f1, f2, f3, rfl⟩
  refine AW_special false try_mixed [[0, 1, 2, 3, 4, 5, 6, 7, 8, 9, 10], [0, 1, 2, 3, 4, 5, 6, 9, 7, 8, 10], [0, 1, 2, 3, 5, 6, 9, 4, 7, 8, 10]] (by kernel_rfl) (fun F2 H2 => F2 = [(1, .sl (some (bv, 0)) vls.length cv), (4, .ptr (some (H.length, 0))), (5, .ptr (some (H.length + 2, 0)))] ∧ H2 = H ++ [.cells true 0 [.int .i64 0, .int .i64 0, .sl none 0 (some 0)], .cells true 1 (ints .u8 xs), .cells true 0 [.int .i64 W, .int .i64 Hh, .sl (some (H.length + 1, 0)) xs.length none]]) ?_ ?_
  · refine reps_cons ?_ (reps_cons ?_ (reps_cons ?_ (reps_nil))) <;> intro J hJ
    · skip
      have g'2 := (jn @hbpp (jn @hb0pp (jn @hbv (jn @hb0v (jn @f1 (jn @f2 (jn @f3 (jn @ints_len (jn @ints_ones (jn @ints_all (jn @rem_nat8 (jn @quo_nat8' (jn @hsfz @hsfd)))))))))))))
      refine runDf g'2 ?_
      refine inv_of (hJ _ _ ⟨_, _, _, ⟨rfl, rfl⟩, Abs.byG hbel [] rfl [1, 3, 4] (by decide) ?_⟩)
      exact absRf (jn @f1 (jn @f2 @f3))
    · skip
      have g'3 := (jn @hbpp (jn @hb0pp (jn @hbv (jn @hb0v (jn @f1 (jn @f2 (jn @f3 (jn @ints_len (jn @ints_ones (jn @ints_all (jn @rem_nat8 (jn @quo_nat8' (jn @hsfz @hsfd)))))))))))))
      refine runDf g'3 ?_
      refine inv_of (hJ _ _ ⟨_, _, _, ⟨rfl, rfl⟩, Abs.byG hbel [] rfl [1, 4, 3] (by decide) ?_⟩)
      exact absRf (jn @f1 (jn @f2 @f3))
    · skip
      have g'4 := (jn @hbpp (jn @hb0pp (jn @hbv (jn @hb0v (jn @f1 (jn @f2 (jn @f3 (jn @ints_len (jn @ints_ones (jn @ints_all (jn @rem_nat8 (jn @quo_nat8' (jn @hsfz @hsfd)))))))))))))
      refine runDf g'4 ?_
      refine inv_of (hJ _ _ ⟨_, _, _, ⟨rfl, rfl⟩, Abs.byG hbel [] rfl [1, 4, 2] (by decide) ?_⟩)
      exact absRf (jn @f1 (jn @f2 @f3))
  rintro F2 H2 ⟨rfl, rfl⟩
  refine AW_fin false try_mixed (by kernel_rfl) ?_
  have g'5 := (jn @hbpp (jn @hb0pp (jn @hbv (jn @hb0v (jn @ints_len (jn @ints_ones (jn @rem_nat8 (jn @quo_nat8' (jn @hsfz @hsfd)))))))))
  refine runTf g'5 ?_
  refine go_loop try_mixed (by kernel_rfl) (fun k F Hx => ∃ i : Nat, i + k = xs.length ∧ F = [(1, .sl (some (bv, 0)) vls.length cv), (4, .ptr (some (H.length, 0))), (5, .ptr (some (H.length + 2, 0))), (6, .int .i64 ((i : Nat) : Int))] ∧ Hx = H ++ [.cells true 0 [.int .i64 0, .int .i64 0, .sl none 0 (some 0)], .cells true 1 (ints .u8 (vlK xs vls i)), .cells true 0 [.int .i64 W, .int .i64 Hh, .sl (some (H.length + 1, 0)) ((vlK xs vls i).length) none]]) (xs.length) ?_ ?_
  · refine ⟨_, _, _, ⟨0, by omega, rfl, rfl⟩, Abs.byG hbel [] rfl [0, 1, 2] (by decide) ?_⟩
    exact absRf @vlK.eq_1
  · rintro k0 F Hx ⟨i, hm0, rfl, rfl⟩ J0 hJ0
    have hvl := (vlK_bel xs vls i (by omega)).1
    refine runTf g'5 ?_
    refine gd_split (fun h4 => ?_) (fun h4 => ?_)
    · have h4d := bsT h4
      have hlt : i < xs.length := by omega
      have g'6 := (jn @h4 (jn @h4d g'5))
      refine runTf g'6 ?_
      refine cond_split (fun h5 => ?_) (fun h5 => ?_)
      · have h5d := bsT h5
        have hb8 := h5d
        have hi8 := vl_idx hb8 (by omega)
        have q6 := ints_get (k := .u8) (xs := vls) (j := i / 8) (by omega)
        have g'7 := (jn @h5 (jn @h5d (jn @q6 g'6)))
        refine runTf g'7 ?_
        refine cond_split (fun h7 => ?_) (fun h7 => ?_)
        · have h7d := bsT h7
          have h7n := bnT h7
          have hst := vlK_t (xs := xs) hb8 (show vlC vls i = true from h7)
          have g'8 := (jn @h7 (jn @h7n (jn @int_bne (jn @int_beq (jn @ints_set1 (jn @List.length_set.{0} g'7))))))
          refine runTf g'8 ?_
          refine hJ0 _ _ ⟨k0 - 1, by omega, _, _, _, ⟨i + 1, by omega, rfl, rfl⟩, Abs.byG hbel [] rfl [0, 1, 2] (by decide) ?_⟩
          exact absRf (jn @hst @List.length_set.{0})
        · have h7d := bsT h7
          have h7n := bnT h7
          have hst := vlK_f (xs := xs) (show vlC vls i = false from h7)
          have g'9 := (jn @h7 (jn @h7n (jn @int_bne (jn @int_beq g'7))))
          refine runTf g'9 ?_
          refine hJ0 _ _ ⟨k0 - 1, by omega, _, _, _, ⟨i + 1, by omega, rfl, rfl⟩, Abs.byG hbel [] rfl [0, 1, 2] (by decide) ?_⟩
          exact absRf (jn @hst @List.length_set.{0})
      · have h5d := bsT h5
        have hfinV : vlP xs vls = vlK xs vls i := by
          have q := vlK_out (xs := xs) (j := xs.length - i) h5d
          rwa [show i + (xs.length - i) = xs.length by omega] at q
        have g'10 := (jn @h5 (jn @h5d g'6))
        refine runTf g'10 ?_
        refine hQ _ _ (end_byG (.inl rfl) hbel (x1 := .agg [.int .i64 W, .int .i64 Hh, .sl (some (H.length + 1, 0)) ((vlK xs vls i).length) none]) (l2 := [.cells true 1 (ints .u8 (vlK xs vls i))]) (.agg [.int .i64 W, .int .i64 Hh, .sl (some (H.length, 0)) ((vlK xs vls i).length) none]) (resT Tryz.results30) [] rfl [1] (by decide) ⟨by first | (rw [hfinV]; done) | (rw [hfinV]; rfl), by first | (rw [hfinV]; done) | (rw [hfinV]; rfl)⟩ ?_)
        exact absW
    · have h4d := bsT h4
      have hfinV : vlP xs vls = vlK xs vls i := by unfold vlP; rw [show i = xs.length by omega]
      have g'11 := (jn @h4 (jn @h4d g'5))
      refine runTf g'11 ?_
      refine hQ _ _ (end_byG (.inl rfl) hbel (x1 := .agg [.int .i64 W, .int .i64 Hh, .sl (some (H.length + 1, 0)) ((vlK xs vls i).length) none]) (l2 := [.cells true 1 (ints .u8 (vlK xs vls i))]) (.agg [.int .i64 W, .int .i64 Hh, .sl (some (H.length, 0)) ((vlK xs vls i).length) none]) (resT Tryz.results30) [] rfl [1] (by decide) ⟨by first | (rw [hfinV]; done) | (rw [hfinV]; rfl), by first | (rw [hfinV]; done) | (rw [hfinV]; rfl)⟩ ?_)
      exact absW
open Go.RowKit
open Go.RowKit
theorem bld_nz {W Hh : Int} {xs : List Int} (h : bldB W Hh xs = true) (h0 : ∀ z ∈ xs, 0 ≤ z) : ∀ v ∈ xs, 1 ≤ v ∧ v ≤ 2 := fun v hv => by
  unfold bldB at h
  rw [Bool.and_eq_true, Bool.not_eq_true', List.any_eq_false] at h
  have h1 := h.2 v hv
  have h2 := (vld_iff.1 h.1).le v hv
  have h3 := h0 v hv
  have : ¬ v = 0 := by simpa using h1
  omega
open Go.RowKit
theorem lsv_c (H : AHeap) (W : Int) (Hh : Int) (pp : AV) (xs : List Int) (ax : Int) (ay : Int) (ah : Int) (v : AV) (vls : List Int) (mk : AV) (mks : List Int) (er : AV) (ers : List Int) (g : Int) (s : AV) (l : List T6) (rd : Nat) (hpp : Sl H 1 pp xs.length (ints .u8 xs)) (hv : Sl H 1 v vls.length (ints .u8 vls)) (hmk : Sl H 1 mk mks.length (ints .i64 mks)) (her : Sl H 1 er ers.length (ints .i64 ers)) (hs : Sl H 6 s l.length (r6 l)) (hrd : rd ≤ 255) (hp0 : ∀ z ∈ xs, 0 ≤ z) (hvl : vls.length ≤ 9223372036854775807) (hel : ers.length ≤ 9223372036854775807) (hll : l.length ≤ 9223372036854775807) : ACalls Tryz.prog 5 [.agg [.int .i64 W, .int .i64 Hh, pp, .int .i64 ax, .int .i64 ay, .int .i64 ah, v, mk, er, .int .i64 g], s, .int .u8 ((rd : Nat) : Int)] H (fun v H' => v = .bool true ∧ H' = H) := by
  obtain ⟨bpp, opp, cpp, rfl, hbpp⟩ := hpp
  have hblpp := getElem?_lt hbpp
  have hb0pp := fun l => get_app (l := l) hbpp
  obtain ⟨bv, ov, cv, rfl, hbv⟩ := hv
  have hblv := getElem?_lt hbv
  have hb0v := fun l => get_app (l := l) hbv
  obtain ⟨bmk, omk, cmk, rfl, hbmk⟩ := hmk
  have hblmk := getElem?_lt hbmk
  have hb0mk := fun l => get_app (l := l) hbmk
  obtain ⟨ber, oer, cer, rfl, hber⟩ := her
  have hbler := getElem?_lt hber
  have hb0er := fun l => get_app (l := l) hber
  obtain ⟨bs, os, cs, rfl, hbs⟩ := hs
  have hbls := getElem?_lt hbs
  have hb0s := fun l => get_app (l := l) hbs
  refine AcT false Tryz.func5 ?_; intro hbel Q hQ
  have g'1 := (jn @hbpp (jn @hb0pp (jn @hbv (jn @hb0v (jn @hbmk (jn @hb0mk (jn @hber (jn @hb0er (jn @hbs (jn @hb0s @rem_n3))))))))))
  refine runTf g'1 ?_
  refine call_v (by kernel_rfl) (sva_c _) ?_
  refine runTf g'1 ?_
  refine cond_split (fun h1 => ?_) (fun h1 => ?_)
  · have h1d := bsT h1
    have g'2 := (jn @h1 (jn @h1d g'1))
    refine runTf g'2 ?_
    refine call_v (by kernel_rfl) (sva_c _) ?_
    refine runTf g'2 ?_
    exact hQ _ _ (end_plain (.inl rfl) hbel (x := .bool true) (resT Tryz.results5) rfl ⟨rfl, rfl⟩)
  · have h1d := bsT h1
    have hl3 : l.length ≤ 3 := by omega
    have g'3 := (jn @h1 (jn @h1d g'1))
    refine runTf g'3 ?_
    refine call_v (by kernel_rfl) (seen_c _ W Hh _ xs ax ay ah _ vls _ mks _ ers g ⟨_, _, _, rfl, by first | exact hb0pp _ | exact hbpp⟩ ⟨_, _, _, rfl, by first | exact hb0v _ | exact hbv⟩ ⟨_, _, _, rfl, by first | exact hb0mk _ | exact hbmk⟩ ⟨_, _, _, rfl, by first | exact hb0er _ | exact hber⟩ hel) ?_
    refine runTf g'3 ?_
    refine gd_split (fun h2 => ?_) (fun h2 => ?_)
    · have h2d := bsT h2
      obtain ⟨hBl, hx49, hP, hg, ⟨hpx, hpy⟩, hsB, hPl⟩ := senB_ok (ers := ers) h2d
      have hV : vldB W Hh xs = true := by have hh := hBl; unfold bldB at hh; rw [Bool.and_eq_true] at hh; exact hh.1
      have hVV := vld_iff.1 hV
      have hw0 := hVV.w0
      have hh0 := hVV.h0
      have hbt := btw_iff.1 (poseB_iff.1 hP).2
      have hnz := bld_nz hBl hp0
      have hx0 : 0 < xs.length := by have := (hVV.idx (show inB W Hh 0 0 = true from inB_iff.2 (by omega))).2.2.2.2.1; omega
      have hbl0 := vlP_bel xs vls
      have g'4 := (jn @h2 (jn @h2d g'3))
      refine runTf g'4 ?_
      refine call_v (by kernel_rfl) (bset_c _ _ l ⟨_, _, _, rfl, by first | exact hb0s _ | exact hbs⟩ (by omega)) ?_
      refine runTf g'4 ?_
      refine gd_split (fun h3 => ?_) (fun h3 => ?_)
      · have h3d := bsT h3
        have hS := h3d
        have g'5 := (jn @h3 (jn @h3d g'4))
        refine runTf g'5 ?_
        refine call_v (by kernel_rfl) (bcov_c _ _ l ax ay ah ⟨_, _, _, rfl, by first | exact hb0s _ | exact hbs⟩ (by omega)) ?_
        refine runTf g'5 ?_
        refine cond_split (fun h4 => ?_) (fun h4 => ?_)
        · have h4d := bsT h4
          have g'6 := (jn @h4 (jn @h4d g'5))
          refine runTf g'6 ?_
          exact hQ _ _ (end_plain (.inl rfl) hbel (x := .bool true) (resT Tryz.results5) rfl ⟨rfl, rfl⟩)
        · have h4d := bsT h4
          have hcv0 := cov_in (by omega) h4d
          have g'7 := (jn @h4 (jn @h4d g'5))
          refine runTf g'7 ?_
          refine go_loop try_mixed (by kernel_rfl) (fun k F Hx => ∃ j : Nat, j + k = l.length ∧ F = [(1, .sl (some (bs, 0)) l.length cs), (2, .int .u8 ((rd : Nat) : Int)), (3, .ptr (some (H.length, 0))), (7, .sl (some (H.length + 1, 0)) ((senL W Hh xs ax ay ah mks ers g).length) (capG (senL W Hh xs ax ay ah mks ers g).length)), (9, .int .i64 ((j : Nat) : Int))] ∧ Hx = H ++ [.cells true 0 [.int .i64 W, .int .i64 Hh, .sl (some (bpp, 0)) xs.length cpp, .int .i64 ax, .int .i64 ay, .int .i64 ah, .sl (some (bv, 0)) vls.length cv, .sl (some (bmk, 0)) mks.length cmk, .sl (some (ber, 0)) ers.length cer, .int .i64 g], .cells (ownG (senL W Hh xs ax ay ah mks ers g).length) 2 (prs (senL W Hh xs ax ay ah mks ers g))]) (l.length) ?_ ?_
          · refine ⟨_, _, _, ⟨0, by omega, rfl, rfl⟩, Abs.byG hbel [] rfl [0, 1] (by decide) ?_⟩
            exact absR
          · rintro k0 F Hx ⟨j, hm0, rfl, rfl⟩ J0 hJ0
            have g'8 := (jn @prs_len (jn @prs_one g'7))
            refine runTf g'8 ?_
            refine cond_split (fun h5 => ?_) (fun h5 => ?_)
            · have h5d := bsT h5
              have hlt : j < l.length := by omega
              have q6 := r6_at5 (l := l) (j := j) (by omega)
              have g'9 := (jn @h5 (jn @h5d (jn @r6_len (jn @q6 g'8))))
              refine runTf g'9 ?_
              refine cond_split (fun h7 => ?_) (fun h7 => ?_)
              · have h7d := bsT h7
                have g'10 := (jn @h7 (jn @h7d g'9))
                refine runTf g'10 ?_
                exact hQ _ _ (end_plain (.inl rfl) hbel (x := .bool true) (resT Tryz.results5) rfl ⟨rfl, rfl⟩)
              · have h7d := bsT h7
                have g'11 := (jn @h7 (jn @h7d g'9))
                refine runTf g'11 ?_
                refine hJ0 _ _ ⟨k0 - 1, by omega, _, _, _, ⟨j + 1, by omega, rfl, rfl⟩, Abs.byG hbel [] rfl [0, 1] (by decide) ?_⟩
                exact absR
            · have h5d := bsT h5
              have g'12 := (jn @h5 (jn @h5d g'8))
              refine runTf g'12 ?_
              refine call_v (by kernel_rfl) (veil_c _ W Hh _ xs _ vls ⟨_, _, _, rfl, by first | exact hb0pp _ | exact hbpp⟩ ⟨_, _, _, rfl, by first | exact hb0v _ | exact hbv⟩ hx0 (by omega) (by omega)) ?_
              refine runTf g'12 ?_
              refine go_loop try_mixed (by kernel_rfl) (fun k F Hx => ∃ i : Nat, ∃ ks : List Int, ∃ Q : List T6, i + k = 1 + rd % 3 ∧ BelP ks xs ∧ setB Q = true ∧ Q.length ≤ 3 + 4 * i ∧ (∃ b ∈ Q, InP b ax ay ah) ∧ (i = 0 → Q = l) ∧ F = [(1, .sl (some (fl i bs (H.length + 4), 0)) Q.length none), (2, .int .u8 ((rd : Nat) : Int)), (3, .ptr (some (H.length, 0))), (7, .sl (some (H.length + 1, 0)) ((senL W Hh xs ax ay ah mks ers g).length) (capG (senL W Hh xs ax ay ah mks ers g).length)), (10, .ptr (some (H.length + 3, 0))), (11, .int .i64 ((i : Nat) : Int))] ∧ Hx = H ++ [.cells true 0 [.int .i64 W, .int .i64 Hh, .sl (some (bpp, 0)) xs.length cpp, .int .i64 ax, .int .i64 ay, .int .i64 ah, .sl (some (bv, 0)) vls.length cv, .sl (some (bmk, 0)) mks.length cmk, .sl (some (ber, 0)) ers.length cer, .int .i64 g], .cells (ownG (senL W Hh xs ax ay ah mks ers g).length) 2 (prs (senL W Hh xs ax ay ah mks ers g)), .cells true 1 (ints .u8 ks), .cells true 0 [.int .i64 W, .int .i64 Hh, .sl (some (H.length + 2, 0)) ks.length none], .cells (ow i) 6 (r6 (fq i Q))]) (1 + rd % 3) ?_ ?_
              · refine ⟨_, _, _, ⟨0, (vlP xs vls), l, by omega, hbl0, hS, by omega, hcv0, (fun _ => rfl), rfl, rfl⟩, Abs.byG hbel [.cells false 6 []] rfl [0, 1, 2, 3, 4] (by decide) ?_⟩
                exact absRf (jn @fl_0 (jn @fq_0 (jn @ow_0 (jn @r6_append (jn @r6_cons (jn @r6_nil @mvs_r6))))))
              · rintro k1 F Hx ⟨i, ks, Q, hm1, hbk, hQS, hQl, hQc, hQ0, rfl, rfl⟩ J1 hJ1
                obtain rfl | ⟨i0, rfl⟩ : i = 0 ∨ ∃ i0, i = i0 + 1 := by cases i; exact .inl rfl; exact .inr ⟨_, rfl⟩
                · obtain rfl : l = Q := (hQ0 rfl).symm
                  have g'13 := (jn @ints_len (jn @ints_ones (jn @r6_len (jn @r6_one (jn @fl_0 (jn @fq_0 (jn @ow_0 g'12)))))))
                  refine runTf g'13 ?_
                  refine cond_split (fun h8 => ?_) (fun h8 => ?_)
                  · have h8d := bsT h8
                    have g'14 := (jn @h8 (jn @h8d g'13))
                    refine runTf g'14 ?_
                    have hVk := bel_vld hbk hV
                    obtain ⟨b0, hb0m, hb0i⟩ := id hQc
                    have hQp := List.length_pos_of_mem hb0m
                    refine call_v (by kernel_rfl) (refine_c _ W Hh _ ks _ l _ (senL W Hh xs ax ay ah mks ers g) g 4 ⟨_, _, _, by first | rfl | (rw [List.length_append]; done) | (rw [List.length_append]; rfl), by first | rfl | (rw [get_newk]; rfl) | (rw [get_new0]; rfl) | (rw [get_newk, prs_append]; rfl) | (rw [get_new0, prs_append]; rfl)⟩ ⟨_, _, _, rfl, by first | exact hb0s _ | exact hbs⟩ ⟨_, _, _, by first | rfl | (rw [List.length_append]; done) | (rw [List.length_append]; rfl), by first | rfl | (rw [get_newk]; rfl) | (rw [get_new0]; rfl) | (rw [get_newk, prs_append]; rfl) | (rw [get_new0, prs_append]; rfl)⟩ (by assumption) (by assumption) (by assumption) (by assumption) (by assumption) (by omega)) ?_
                    have hsurv := surv_step hV hnz hbk hpx hpy (by omega) hg hsB hPl hQS (by omega) hQc
                    obtain ⟨hRS, hRl, hRc, hRv, hR0, hRb, o, ho, hbo, hRg, hbko⟩ := hsurv
                    have hVo := bel_vld hbo hV
                    have hoo : ownG o.length = true := ownG_p (by rw [hbo.1]; exact hx0)
                    refine runTf g'14 ?_
                    refine call_v (by kernel_rfl) (bcov_c _ _ (rfnL W Hh ks l (senL W Hh xs ax ay ah mks ers g) g 4) ax ay ah ⟨_, _, _, by first | rfl | (rw [List.length_append]; done) | (rw [List.length_append]; rfl), by first | rfl | (rw [get_newk]; rfl) | (rw [get_new0]; rfl) | (rw [get_newk, prs_append]; rfl) | (rw [get_new0, prs_append]; rfl)⟩ (by omega)) ?_
                    refine runTf g'14 ?_
                    refine cond_split (fun h9 => ?_) (fun h9 => ?_)
                    · have h9d := bsT h9
                      exact absurd (hRv.symm.trans h9d) (by decide)
                    · have h9d := bsT h9
                      have g'15 := (jn @h9 (jn @h9d g'14))
                      refine runTf g'15 ?_
                      refine call_v (by kernel_rfl) (cmp16_c _ _ (rfnL W Hh ks l (senL W Hh xs ax ay ah mks ers g) g 4) ⟨_, _, _, by first | rfl | (rw [List.length_append]; done) | (rw [List.length_append]; rfl), by first | rfl | (rw [get_newk]; rfl) | (rw [get_new0]; rfl) | (rw [get_newk, prs_append]; rfl) | (rw [get_new0, prs_append]; rfl)⟩ (by omega) (by assumption) (by assumption)) ?_
                      refine runTf g'15 ?_
                      refine call_v (by kernel_rfl) (learnT_c _ W Hh _ ks _ (rfnL W Hh ks l (senL W Hh xs ax ay ah mks ers g) g 4) _ (senL W Hh xs ax ay ah mks ers g) g o ⟨_, _, _, by first | rfl | (rw [List.length_append]; done) | (rw [List.length_append]; rfl), by first | rfl | (rw [get_newk]; rfl) | (rw [get_new0]; rfl) | (rw [get_newk, prs_append]; rfl) | (rw [get_new0, prs_append]; rfl)⟩ ⟨_, _, _, by first | rfl | (rw [List.length_append]; done) | (rw [List.length_append]; rfl), by first | rfl | (rw [get_newk]; rfl) | (rw [get_new0]; rfl) | (rw [get_newk, prs_append]; rfl) | (rw [get_new0, prs_append]; rfl)⟩ ⟨_, _, _, by first | rfl | (rw [List.length_append]; done) | (rw [List.length_append]; rfl), by first | rfl | (rw [get_newk]; rfl) | (rw [get_new0]; rfl) | (rw [get_newk, prs_append]; rfl) | (rw [get_new0, prs_append]; rfl)⟩ (by assumption) (by assumption)) ?_
                      refine runTf g'15 ?_
                      refine call_v (by kernel_rfl) (bcov_c _ _ (rfnL W Hh ks l (senL W Hh xs ax ay ah mks ers g) g 4) ax ay ah ⟨_, _, _, by first | rfl | (rw [List.length_append]; done) | (rw [List.length_append]; rfl), by first | rfl | (rw [get_newk]; rfl) | (rw [get_new0]; rfl) | (rw [get_newk, prs_append]; rfl) | (rw [get_new0, prs_append]; rfl)⟩ (by omega)) ?_
                      refine runTf g'15 ?_
                      refine call_v (by kernel_rfl) (below_c _ W Hh _ ks W Hh _ o ⟨_, _, _, by first | rfl | (rw [List.length_append]; done) | (rw [List.length_append]; rfl), by first | rfl | (rw [get_newk]; rfl) | (rw [get_new0]; rfl) | (rw [get_newk, prs_append]; rfl) | (rw [get_new0, prs_append]; rfl)⟩ ⟨_, _, _, by first | rfl | (rw [List.length_append]; done) | (rw [List.length_append]; rfl), by first | rfl | (rw [get_newk]; rfl) | (rw [get_new0]; rfl) | (rw [get_newk, prs_append]; rfl) | (rw [get_new0, prs_append]; rfl)⟩ (by assumption) (by assumption) rfl rfl (by assumption)) ?_
                      refine runTf g'15 ?_
                      refine call_v (by kernel_rfl) (below_c _ W Hh _ o W Hh _ xs ⟨_, _, _, by first | rfl | (rw [List.length_append]; done) | (rw [List.length_append]; rfl), by first | rfl | (rw [get_newk]; rfl) | (rw [get_new0]; rfl) | (rw [get_newk, prs_append]; rfl) | (rw [get_new0, prs_append]; rfl)⟩ ⟨_, _, _, rfl, by first | exact hb0pp _ | exact hbpp⟩ (by assumption) (by assumption) rfl rfl (by assumption)) ?_
                      refine runTf g'15 ?_
                      refine hJ1 _ _ ⟨k1 - 1, by omega, _, _, _, ⟨0 + 1, o, rfnL W Hh ks l (senL W Hh xs ax ay ah mks ers g) g 4, by omega, hbo, hRS, by omega, hRc, (fun e => by omega), rfl, rfl⟩, Abs.byG hbel [] rfl [0, 1, 7, 3, 6] (by decide) ?_⟩
                      exact absRf (jn @hoo (jn @fl_s (jn @fq_s (jn @ow_s (jn @fl_1 (jn @fq_1 (jn @ow_1 (jn @r6_append (jn @r6_cons (jn @r6_nil @mvs_r6))))))))))
                  · have h8d := bsT h8
                    have g'16 := (jn @h8 (jn @h8d g'13))
                    refine runTf g'16 ?_
                    exact hQ _ _ (end_plain (.inl rfl) hbel (x := .bool true) (resT Tryz.results5) rfl ⟨rfl, rfl⟩)
                · skip
                  have g'17 := (jn @ints_len (jn @ints_ones (jn @r6_len (jn @r6_one (jn @fl_s (jn @fq_s (jn @ow_s g'12)))))))
                  refine runTf g'17 ?_
                  refine cond_split (fun h10 => ?_) (fun h10 => ?_)
                  · have h10d := bsT h10
                    have g'18 := (jn @h10 (jn @h10d g'17))
                    refine runTf g'18 ?_
                    have hVk := bel_vld hbk hV
                    obtain ⟨b0, hb0m, hb0i⟩ := id hQc
                    have hQp := List.length_pos_of_mem hb0m
                    refine call_v (by kernel_rfl) (refine_c _ W Hh _ ks _ Q _ (senL W Hh xs ax ay ah mks ers g) g 4 ⟨_, _, _, by first | rfl | (rw [List.length_append]; done) | (rw [List.length_append]; rfl), by first | rfl | (rw [get_newk]; rfl) | (rw [get_new0]; rfl) | (rw [get_newk, prs_append]; rfl) | (rw [get_new0, prs_append]; rfl)⟩ ⟨_, _, _, by first | rfl | (rw [List.length_append]; done) | (rw [List.length_append]; rfl), by first | rfl | (rw [get_newk]; rfl) | (rw [get_new0]; rfl) | (rw [get_newk, prs_append]; rfl) | (rw [get_new0, prs_append]; rfl)⟩ ⟨_, _, _, by first | rfl | (rw [List.length_append]; done) | (rw [List.length_append]; rfl), by first | rfl | (rw [get_newk]; rfl) | (rw [get_new0]; rfl) | (rw [get_newk, prs_append]; rfl) | (rw [get_new0, prs_append]; rfl)⟩ (by assumption) (by assumption) (by assumption) (by assumption) (by assumption) (by omega)) ?_
                    have hsurv := surv_step hV hnz hbk hpx hpy (by omega) hg hsB hPl hQS (by omega) hQc
                    obtain ⟨hRS, hRl, hRc, hRv, hR0, hRb, o, ho, hbo, hRg, hbko⟩ := hsurv
                    have hVo := bel_vld hbo hV
                    have hoo : ownG o.length = true := ownG_p (by rw [hbo.1]; exact hx0)
                    refine runTf g'18 ?_
                    refine call_v (by kernel_rfl) (bcov_c _ _ (rfnL W Hh ks Q (senL W Hh xs ax ay ah mks ers g) g 4) ax ay ah ⟨_, _, _, by first | rfl | (rw [List.length_append]; done) | (rw [List.length_append]; rfl), by first | rfl | (rw [get_newk]; rfl) | (rw [get_new0]; rfl) | (rw [get_newk, prs_append]; rfl) | (rw [get_new0, prs_append]; rfl)⟩ (by omega)) ?_
                    refine runTf g'18 ?_
                    refine cond_split (fun h11 => ?_) (fun h11 => ?_)
                    · have h11d := bsT h11
                      exact absurd (hRv.symm.trans h11d) (by decide)
                    · have h11d := bsT h11
                      have g'19 := (jn @h11 (jn @h11d g'18))
                      refine runTf g'19 ?_
                      refine call_v (by kernel_rfl) (cmp16_c _ _ (rfnL W Hh ks Q (senL W Hh xs ax ay ah mks ers g) g 4) ⟨_, _, _, by first | rfl | (rw [List.length_append]; done) | (rw [List.length_append]; rfl), by first | rfl | (rw [get_newk]; rfl) | (rw [get_new0]; rfl) | (rw [get_newk, prs_append]; rfl) | (rw [get_new0, prs_append]; rfl)⟩ (by omega) (by assumption) (by assumption)) ?_
                      refine runTf g'19 ?_
                      refine call_v (by kernel_rfl) (learnT_c _ W Hh _ ks _ (rfnL W Hh ks Q (senL W Hh xs ax ay ah mks ers g) g 4) _ (senL W Hh xs ax ay ah mks ers g) g o ⟨_, _, _, by first | rfl | (rw [List.length_append]; done) | (rw [List.length_append]; rfl), by first | rfl | (rw [get_newk]; rfl) | (rw [get_new0]; rfl) | (rw [get_newk, prs_append]; rfl) | (rw [get_new0, prs_append]; rfl)⟩ ⟨_, _, _, by first | rfl | (rw [List.length_append]; done) | (rw [List.length_append]; rfl), by first | rfl | (rw [get_newk]; rfl) | (rw [get_new0]; rfl) | (rw [get_newk, prs_append]; rfl) | (rw [get_new0, prs_append]; rfl)⟩ ⟨_, _, _, by first | rfl | (rw [List.length_append]; done) | (rw [List.length_append]; rfl), by first | rfl | (rw [get_newk]; rfl) | (rw [get_new0]; rfl) | (rw [get_newk, prs_append]; rfl) | (rw [get_new0, prs_append]; rfl)⟩ (by assumption) (by assumption)) ?_
                      refine runTf g'19 ?_
                      refine call_v (by kernel_rfl) (bcov_c _ _ (rfnL W Hh ks Q (senL W Hh xs ax ay ah mks ers g) g 4) ax ay ah ⟨_, _, _, by first | rfl | (rw [List.length_append]; done) | (rw [List.length_append]; rfl), by first | rfl | (rw [get_newk]; rfl) | (rw [get_new0]; rfl) | (rw [get_newk, prs_append]; rfl) | (rw [get_new0, prs_append]; rfl)⟩ (by omega)) ?_
                      refine runTf g'19 ?_
                      refine call_v (by kernel_rfl) (below_c _ W Hh _ ks W Hh _ o ⟨_, _, _, by first | rfl | (rw [List.length_append]; done) | (rw [List.length_append]; rfl), by first | rfl | (rw [get_newk]; rfl) | (rw [get_new0]; rfl) | (rw [get_newk, prs_append]; rfl) | (rw [get_new0, prs_append]; rfl)⟩ ⟨_, _, _, by first | rfl | (rw [List.length_append]; done) | (rw [List.length_append]; rfl), by first | rfl | (rw [get_newk]; rfl) | (rw [get_new0]; rfl) | (rw [get_newk, prs_append]; rfl) | (rw [get_new0, prs_append]; rfl)⟩ (by assumption) (by assumption) rfl rfl (by assumption)) ?_
                      refine runTf g'19 ?_
                      refine call_v (by kernel_rfl) (below_c _ W Hh _ o W Hh _ xs ⟨_, _, _, by first | rfl | (rw [List.length_append]; done) | (rw [List.length_append]; rfl), by first | rfl | (rw [get_newk]; rfl) | (rw [get_new0]; rfl) | (rw [get_newk, prs_append]; rfl) | (rw [get_new0, prs_append]; rfl)⟩ ⟨_, _, _, rfl, by first | exact hb0pp _ | exact hbpp⟩ (by assumption) (by assumption) rfl rfl (by assumption)) ?_
                      refine runTf g'19 ?_
                      refine hJ1 _ _ ⟨k1 - 1, by omega, _, _, _, ⟨i0 + 1 + 1, o, rfnL W Hh ks Q (senL W Hh xs ax ay ah mks ers g) g 4, by omega, hbo, hRS, by omega, hRc, (fun e => by omega), rfl, rfl⟩, Abs.byG hbel [] rfl [0, 1, 7, 3, 6] (by decide) ?_⟩
                      exact absRf (jn @hoo (jn @fl_s (jn @fq_s (jn @ow_s (jn @fl_1 (jn @fq_1 (jn @ow_1 (jn @r6_append (jn @r6_cons (jn @r6_nil @mvs_r6))))))))))
                  · have h10d := bsT h10
                    have g'20 := (jn @h10 (jn @h10d g'17))
                    refine runTf g'20 ?_
                    exact hQ _ _ (end_plain (.inl rfl) hbel (x := .bool true) (resT Tryz.results5) rfl ⟨rfl, rfl⟩)
      · have h3d := bsT h3
        have g'21 := (jn @h3 (jn @h3d g'4))
        refine runTf g'21 ?_
        exact hQ _ _ (end_plain (.inl rfl) hbel (x := .bool true) (resT Tryz.results5) rfl ⟨rfl, rfl⟩)
    · have h2d := bsT h2
      have g'22 := (jn @h2 (jn @h2d g'3))
      refine runTf g'22 ?_
      exact hQ _ _ (end_plain (.inl rfl) hbel (x := .bool true) (resT Tryz.results5) rfl ⟨rfl, rfl⟩)
open Go.RowKit
set_option maxRecDepth 100000 in
theorem wholeSurvives_top (H : AHeap) (xs : List AV) (hn : xs.length = 3) (hy : ∀ (j : Nat) (t : TypeId) (x : AV), [60, 47, 5][j]? = some t → xs[j]? = some x → ATy Tryz.prog H 9 t x) : ACalls Tryz.prog 5 xs H (fun v H' => v = .bool true ∧ H' = H) := by
  match xs, hn, hy with
  | [a0, a1, a2], _, hy =>
    obtain ⟨ys0, e0, r0_0⟩ := (hy 0 _ a0 rfl rfl).agg (ls := [3, 3, 22, 3, 3, 3, 22, 31, 31, 3]) (by kernel_rfl) (by kernel_rfl)
    obtain ⟨y0_0, q0_0, rfl, t0_0, r0_1⟩ := r0_0.cons
    obtain ⟨z1, rfl, w1⟩ := t0_0.int (k := .i64) (by kernel_rfl)
    obtain ⟨y0_1, q0_1, rfl, t0_1, r0_2⟩ := r0_1.cons
    obtain ⟨z2, rfl, w2⟩ := t0_1.int (k := .i64) (by kernel_rfl)
    obtain ⟨y0_2, q0_2, rfl, t0_2, r0_3⟩ := r0_2.cons
    obtain ⟨l3, s3, m3, w3⟩ := t0_2.intsU (n := 7) (t := 22) (e := 5) (by kernel_rfl) (by kernel_rfl) (by kernel_rfl)
    obtain ⟨y0_3, q0_3, rfl, t0_3, r0_4⟩ := r0_3.cons
    obtain ⟨z4, rfl, w4⟩ := t0_3.int (k := .i64) (by kernel_rfl)
    obtain ⟨y0_4, q0_4, rfl, t0_4, r0_5⟩ := r0_4.cons
    obtain ⟨z5, rfl, w5⟩ := t0_4.int (k := .i64) (by kernel_rfl)
    obtain ⟨y0_5, q0_5, rfl, t0_5, r0_6⟩ := r0_5.cons
    obtain ⟨z6, rfl, w6⟩ := t0_5.int (k := .i64) (by kernel_rfl)
    obtain ⟨y0_6, q0_6, rfl, t0_6, r0_7⟩ := r0_6.cons
    obtain ⟨l7, s7, m7, w7⟩ := t0_6.intsU (n := 7) (t := 22) (e := 5) (by kernel_rfl) (by kernel_rfl) (by kernel_rfl)
    obtain ⟨y0_7, q0_7, rfl, t0_7, r0_8⟩ := r0_7.cons
    obtain ⟨l8, s8, m8, w8⟩ := t0_7.intsU (n := 7) (t := 31) (e := 3) (by kernel_rfl) (by kernel_rfl) (by kernel_rfl)
    obtain ⟨y0_8, q0_8, rfl, t0_8, r0_9⟩ := r0_8.cons
    obtain ⟨l9, s9, m9, w9⟩ := t0_8.intsU (n := 7) (t := 31) (e := 3) (by kernel_rfl) (by kernel_rfl) (by kernel_rfl)
    obtain ⟨y0_9, q0_9, rfl, t0_9, r0_10⟩ := r0_9.cons
    obtain ⟨z10, rfl, w10⟩ := t0_9.int (k := .i64) (by kernel_rfl)
    obtain rfl := r0_10.nil
    subst e0
    have t1 := (hy 1 _ a1 rfl rfl).one (by kernel_rfl) (by kernel_rfl)
    obtain ⟨l11, s11, m11, w11⟩ := t1.rec6 (n := 7) (t := 47) (e := 45) (t1 := 3) (t2 := 3) (t3 := 3) (t4 := 3) (t5 := 3) (t6 := 3) (by kernel_rfl) (by kernel_rfl) (by kernel_rfl) (by kernel_rfl) (by kernel_rfl) (by kernel_rfl) (by kernel_rfl) (by kernel_rfl)
    have t2 := (hy 2 _ a2 rfl rfl).one (by kernel_rfl) (by kernel_rfl)
    obtain ⟨y12, rfl, v12⟩ := t2.int (k := .u8) (by kernel_rfl)
    obtain ⟨z12, rfl, w12⟩ := wf_nat_u8 v12
    exact lsv_c H z1 z2 _ l3 z4 z5 z6 _ l7 _ l8 _ l9 z10 _ l11 z12 s3 s7 s8 s9 s11 w12 (fun z hz => (wf_u8 (w3 z hz)).1) (by have q := m7; unfold maxLen at q; exact q) (by have q := m9; unfold maxLen at q; exact q) (by have q := m11; unfold maxLen at q; exact q)
section
open Go.ChangeShapes Go.WideShapes Go.ChangeAt Go.RowKit Go.Joins
open Go.ChangeMaps (open_string shut_string)
set_option maxRecDepth 100000 in
theorem wholeSurvives_lifted (os : Os) (started : os.Started) (H : Type) (enc : TypeId × Value → H) :
    ReturnsInHanded {} Tryz.checked os 5 .any (Rows.wholeSurvivesSpec.pre6 enc Tryz.prog Tryz.f5 Rows.wholeSurvivesRow.domain false) (Rows.wholeSurvivesSpec.post enc Tryz.prog Tryz.f5 false true false false) := by
  refine returnsInHanded_of_change (C := Tryz.checked) own started (by kernel_rfl) Tryz.func5
    (ChangeSpec.witness6 (enc := enc) (C := Tryz.checked) false ⟨#[], #[.agg #[.int .i64 0, .int .i64 0, .slice none 0 0, .int .i64 0, .int .i64 0, .int .i64 0, .slice none 0 0, .slice none 0 0, .slice none 0 0, .int .i64 0], .slice none 0 0, .int .u8 0], []⟩ 8 (by kernel_rfl) (by kernel_rfl) (by kernel_rfl) (by kernel_rfl)) ?_
  intro W base args ds gs before hval0 hW hcnd _
  have hval : ∀ (j : Nat) t v, Tryz.f5.params[j]? = some t → args[j]? = some v → Value.okWide Tryz.prog W .any base t v := hval0
  have hW' := hW
  obtain ⟨p, q, hA0, hV, rfl, hfz, hnd⟩ := hW
  have hA : DataW.TrodAll enc Tryz.prog W 0 (fun _ => true) true Tryz.f5.params.toList args.toList ds p := hA0
  rw [Tryz.params5] at hA hval
  have hwalk := calls_top (n := 9) (f := 5) hA (fun j t v a b => hval j t v (by simpa using a) (by simpa using b)) (by kernel_rfl) (fun H xs hn hy => wholeSurvives_top H xs hn hy)
  rw [Array.toArray_toList] at hwalk
  obtain ⟨v0, vs0, d0, ds0, p0, q0, hargs, rfl, rfl, h0, r0⟩ := trodAll_cons hA
  obtain ⟨v1, vs1, d1, ds1, p1, q1, rfl, rfl, rfl, h1, r1⟩ := trodAll_cons r0
  obtain ⟨v2, vs2, d2, ds2, p2, q2, rfl, rfl, rfl, h2, r2⟩ := trodAll_cons r1
  obtain ⟨rfl, rfl, rfl⟩ := trodAll_nil r2
  obtain rfl : args = #[v0, v1, v2] := by cases args; simp_all
  obtain ⟨rfl, rfl⟩ := trodVars_none hV
  have k0 := h0
  have lt0 : ∀ x ∈ p0, x.block < W.heap.size := by obtain ⟨m, hm⟩ := k0; exact DataW.trod_lt m _ _ _ hm
  have k1 := h1
  have lt1 : ∀ x ∈ p1, x.block < W.heap.size := by obtain ⟨m, hm⟩ := k1; exact DataW.trod_lt m _ _ _ hm
  have k2 := h2
  have lt2 : ∀ x ∈ p2, x.block < W.heap.size := by obtain ⟨m, hm⟩ := k2; exact DataW.trod_lt m _ _ _ hm
  clear hA0 hval0
  refine hwalk.mono fun e W' ⟨he, bel⟩ => ?_
  subst he
  exact ⟨_, rfl, _, _, _, [], _, [], hW', trodAll_mk1 (shut_bool Tryz.underlying4 _), (trodAll_cons_mk (Below.trod laidOut (by kernel_rfl) (of_decide_eq_true (by kernel_rfl)) k0 bel lt0) (trodAll_cons_mk (Below.trod laidOut (by kernel_rfl) (of_decide_eq_true (by kernel_rfl)) k1 bel lt1) (trodAll_cons_mk (Below.trod laidOut (by kernel_rfl) (of_decide_eq_true (by kernel_rfl)) k2 bel lt2) trodAll_mk0))), rfl, bel.frame _, fun h => by cases h⟩
theorem and_t {a b : Bool} (h : a = true) (k : b = true) : (a && b) = true := by rw [h, k]; rfl
theorem wholeSurvives_h0 : (Rows.wholeSurvivesRow.inPlace == Tryz.pinned.checked.prog.inPlace 5) = true := by kernel_rfl
theorem wholeSurvives_h1 : (Rows.wholeSurvivesRow.unfollowed == Tryz.pinned.checked.prog.unfollowed 5) = true := by kernel_rfl
theorem wholeSurvives_h2 : (Rows.wholeSurvivesRow.recurses == Tryz.pinned.checked.prog.recurses 5) = true := by kernel_rfl
theorem wholeSurvives_h3 : (Rows.wholeSurvivesRow.named == Tryz.pinned.checked.prog.varsNamed 5) = true := by kernel_rfl
theorem wholeSurvives_h4 : Tryz.pinned.checked.prog.stopsHeard = true := by kernel_rfl
theorem wholeSurvives_h5 : Tryz.pinned.checked.prog.mayEnter = true := by kernel_rfl
theorem wholeSurvives_h6 : (Rows.wholeSurvivesRow.lifted == Tryz.pinned.checked.prog.liftsFinal) = true := by kernel_rfl
theorem wholeSurvives_closed : joinedFacts Tryz.pinned.checked.prog 5 Tryz.f5 Rows.wholeSurvivesSpec Rows.wholeSurvivesRow = true := by
  unfold joinedFacts
  exact (and_t (and_t (and_t (and_t (and_t (and_t (and_t (and_t (and_t (and_t (and_t (and_t (and_t (and_t (and_t (and_t (and_t (and_t (and_t (and_t (and_t (and_t (and_t (and_t (and_t (and_t (and_t (and_t (and_t (and_t (and_t (by kernel_rfl) laidOut) (by kernel_rfl)) (by kernel_rfl)) (by kernel_rfl)) (by kernel_rfl)) (by kernel_rfl)) (by kernel_rfl)) (by kernel_rfl)) wholeSurvives_h0) wholeSurvives_h1) wholeSurvives_h2) wholeSurvives_h3) (by kernel_rfl)) (by kernel_rfl)) (by kernel_rfl)) (by kernel_rfl)) (by kernel_rfl)) (by kernel_rfl)) (by kernel_rfl)) (by kernel_rfl)) (by kernel_rfl)) (by kernel_rfl)) (by kernel_rfl)) wholeSurvives_h4) wholeSurvives_h5) wholeSurvives_h6) (by kernel_rfl)) (by kernel_rfl)) (by kernel_rfl)) (by kernel_rfl)) (by kernel_rfl))
theorem wholeSurvives_over : Rows.wholeSurvivesRow.holds Tryz.pinned (OpenSpec.ofChange Rows.wholeSurvivesSpec) :=
  OpenClaim.holds_of_wide 5 Tryz.f5 rfl rfl rfl rfl rfl rfl rfl ⟨rfl, rfl, rfl, rfl, rfl⟩ rfl rfl rfl rfl rfl (by kernel_rfl) Tryz.func5 wholeSurvives_closed
    (of_decide_eq_true (by kernel_rfl)) (by unfold Func.isWrapper; rw [if_neg (by decide +kernel)]; exact ⟨rfl, rfl⟩)
    (fun os started H enc _ => wholeSurvives_lifted os started H enc)
/-- The given statement. -/
theorem wholeSurvives_proved : Rows.WholeSurvivesSaid := wholeSurvives_over
end
end Go.Proofs.YtcokgigjmjlmnaaGreat
