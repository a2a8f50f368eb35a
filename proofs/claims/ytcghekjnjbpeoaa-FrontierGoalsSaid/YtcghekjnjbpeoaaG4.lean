/- Proved: the law FrontierGoals returns true on every input, and its arguments read afterwards as before. Conditions: none beyond the given row's. -/
import Derived.Test.YtcghekjnjbpeoaaG3
import Derived.Test.YtcghekjnjbpeoaaG2
namespace Go.Proofs.Ytcghekjnjbpeoaa
set_option linter.unusedSimpArgs false
set_option linter.unusedVariables false
open Go.RowKit
set_option maxHeartbeats 4000000
set_option maxRecDepth 100000
theorem prs_allC {l : List (Int × Int)} : (prs l).take (l.length * 2) = prs l := List.take_of_length_le (by rw [prs_len]; omega)
theorem fro_bd {W Hh : Int} {xs : List Int} (hV : Vld W Hh xs) : ∀ p ∈ froL W Hh xs, (0 ≤ p.1 ∧ p.1 < 64) ∧ 0 ≤ p.2 ∧ p.2 < 64 := fun p hp => by
  obtain ⟨w0, w1, h0, h1, -⟩ := hV
  have := (gridP_mem _ _ _ p).1 hp
  omega
theorem fcells_u (H : AHeap) (W Hh : Int) (s : AV) (xs : List Int) (A : List (Int × Int)) (hA : froL W Hh xs = A) (hV : Vld W Hh xs) (hs : Sl H 1 s xs.length (ints .u8 xs)) :
    ACalls Try.prog 22 [.agg [iV W, iV Hh, s]] H (fun v H' => v = .sl (some (H.length, 0)) A.length (capG A.length) ∧ H' = H ++ [.cells (ownG A.length) 2 (prs A)]) := by
  obtain ⟨b, own, cap, rfl, hb⟩ := hs
  have h := fcells_c H W Hh xs b own cap _ hV hb rfl
  rw [hA] at h
  rcases Nat.eq_zero_or_pos A.length with h0 | h0
  · rw [List.eq_nil_of_length_eq_zero h0] at h ⊢
    simp only [retP_nil] at h
    refine ACalls.weak0 h [.cells false 2 []] rfl [0] (by decide) _ _ ?_
    exact absTf (jn @List.length_nil.{0} (jn @capG_0 (jn @ownG_0 @prs_nil)))
  rw [retP_pos h0] at h
  refine ACalls.weak h [] rfl [0] (by decide) _ _ ?_
  rw [capG_p h0, ownG_p h0]
  generalize A = L
  exact absT
theorem clus_y (H : AHeap) (A : List (Int × Int)) (n0 : Nat) (W Hh : Int) (pp : AV) (xs : List Int) (hpp : Sl H 1 pp xs.length (ints .u8 xs)) (hv : vldB W Hh xs = true) (hA : froL W Hh xs = A) (hn0 : n0 = H.length) : ACalls Try.prog 10 [.agg [iV W, iV Hh, pp]] H (fun v H' => ∃ X : AHeap, (∀ x ∈ X, ABlk.bel (H ++ X).length x = true) ∧ (X = (cluL A).map cblk) ∧ v = .tup [.sl (some ((H ++ X).length, 0)) ((cluL A).length) (capG (cluL A).length), iV 0] ∧ H' = H ++ X ++ [.cells (ownG (cluL A).length) 1 (slr n0 (cluL A))]) := by
  obtain ⟨bpp, opp, cpp, rfl, hbpp⟩ := hpp
  have hblpp := getElem?_lt hbpp
  have hb0pp := fun l => get_app (l := l) hbpp
  have hV := vld_iff.1 hv
  have hAb : ∀ p ∈ A, (0 ≤ p.1 ∧ p.1 < 64) ∧ 0 ≤ p.2 ∧ p.2 < 64 := hA ▸ fro_bd hV
  have hAn : A.Nodup := hA ▸ fro_nodup
  have hAl : A.length ≤ 4096 := hA ▸ fro_len hV
  have hins := insN_all hAn
  refine AcT true Try.func10 ?_; intro hbel Q hQ
  have h0bel := hbel
  simp -implicitDefEqProofs (disch := omega) only [lk_gen, lk_mp, up_eq, de_eq, mset_nil, hbpp, hb0pp, prs_allC, aApp_nil, aApp_none, aApp_some, aApp_grw, simprocAttr, amset, tyset, Function.comp_apply, one1, lenV, calleeOf, lateOk, belowV, aop, AV.ofValue, AV.ofCell, AV.cells, AV.flat, AV.one, arep, aBin, aConv]
  repeat refine And.intro (by omega) ?_
  refine cv (valid_a _ W Hh _ xs (.inr ⟨_, _, _, rfl, by first | exact hb0pp _ | exact hbpp⟩)) ?_
  simp -implicitDefEqProofs (disch := omega) only [lk_gen, lk_mp, up_eq, de_eq, mset_nil, hbpp, hb0pp, prs_allC, aApp_nil, aApp_none, aApp_some, aApp_grw, simprocAttr, amset, tyset, Function.comp_apply, one1, lenV, calleeOf, lateOk, belowV, aop, AV.ofValue, AV.ofCell, AV.cells, AV.flat, AV.one, arep, aBin, aConv]
  repeat refine And.intro (by omega) ?_
  refine cond_split (fun h1 => ?_) (fun h1 => ?_)
  · have h1d := bsT h1
    rw [hv] at h1d; cases h1d
  have h1d := bsT h1
  simp -implicitDefEqProofs (disch := omega) only [lk_gen, lk_mp, up_eq, de_eq, mset_nil, hbpp, hb0pp, h1, h1d, prs_allC, aApp_nil, aApp_none, aApp_some, aApp_grw, simprocAttr, amset, tyset, Function.comp_apply, one1, lenV, calleeOf, lateOk, belowV, aop, AV.ofValue, AV.ofCell, AV.cells, AV.flat, AV.one, arep, aBin, aConv]
  repeat refine And.intro (by omega) ?_
  refine cv (fcells_u _ W Hh _ xs A hA hV (⟨_, _, _, rfl, by first | exact hb0pp _ | exact hbpp⟩)) ?_
  simp -implicitDefEqProofs (disch := omega) only [lk_gen, lk_mp, up_eq, de_eq, mset_nil, hbpp, hb0pp, h1, h1d, prs_allC, aApp_nil, aApp_none, aApp_some, aApp_grw, simprocAttr, amset, tyset, Function.comp_apply, one1, lenV, calleeOf, lateOk, belowV, aop, AV.ofValue, AV.ofCell, AV.cells, AV.flat, AV.one, arep, aBin, aConv]
  repeat refine And.intro (by omega) ?_
  refine glp (fun k F Hx => ∃ i : Nat, i + k = A.length ∧ F = [(4, .mp (some (H.length))), (5, .sl (some (H.length + 1, 0)) A.length (capG A.length)), (22, .sl (some (H.length + 1, 0)) A.length (capG A.length)), (23, iV ((A.length : Nat) : Int)), (24, iV ((i : Nat) : Int))] ∧ Hx = H ++ [.map (mset (insN A i)), .cells (ownG A.length) 2 (prs A)]) (A.length) ?_ ?_
  · refine ⟨_, _, _, ⟨0, by omega, rfl, rfl⟩, bS hbel [1, 2] (absRf (jn @insN.eq_1 (jn @mv_mset @mset_nil)))⟩
  rintro k0 F Hx ⟨i, hm0, rfl, rfl⟩ J0 hJ0
  simp -implicitDefEqProofs (disch := omega) only [lk_gen, lk_mp, up_eq, de_eq, mset_nil, hbpp, hb0pp, h1, h1d, prs_len, prs_one, prs_allC, aApp_nil, aApp_none, aApp_some, aApp_grw, simprocAttr, amset, tyset, Function.comp_apply, one1, lenV, calleeOf, lateOk, belowV, aop, AV.ofValue, AV.ofCell, AV.cells, AV.flat, AV.one, arep, aBin, aConv]
  repeat refine And.intro (by omega) ?_
  refine cond_split (fun h2 => ?_) (fun h2 => ?_)
  · have h2d := bsT h2
    have hlt : i < A.length := by omega
    have q3 := prs_load (l := A) (j := i) (by omega)
    have qm51_l := fun l x y => lk_mblk (P := Try.prog) (t := 51) (kt := 36) (et := 4) (by kernel_rfl) tEq36 (by kernel_rfl) (by kernel_rfl) l x y
    have qm51_u := fun l x y => up_mblk (P := Try.prog) (t := 51) (kt := 36) (et := 4) (by kernel_rfl) tEq36 l x y
    have qm51_d := fun l x y => de_mblk (P := Try.prog) (t := 51) (kt := 36) (et := 4) (by kernel_rfl) tEq36 l x y
    simp -implicitDefEqProofs (disch := omega) only [lk_gen, lk_mp, up_eq, de_eq, mset_nil, hbpp, hb0pp, h1, h1d, prs_len, prs_one, h2, h2d, q3, qm51_l, qm51_u, qm51_d, prs_allC, aApp_nil, aApp_none, aApp_some, aApp_grw, simprocAttr, amset, tyset, Function.comp_apply, one1, lenV, calleeOf, lateOk, belowV, aop, AV.ofValue, AV.ofCell, AV.cells, AV.flat, AV.one, arep, aBin, aConv]
    repeat refine And.intro (by omega) ?_
    refine hJ0 _ _ ⟨k0 - 1, by omega, _, _, _, ⟨i + 1, by omega, rfl, rfl⟩, bS hbel [0, 1] (absRf (jn @insN.eq_2 (jn @mv_mset @mset_nil)))⟩
  have h2d := bsT h2
  obtain rfl : i = A.length := by omega
  simp -implicitDefEqProofs (disch := omega) only [lk_gen, lk_mp, up_eq, de_eq, mset_nil, hbpp, hb0pp, h1, h1d, prs_len, prs_one, h2, h2d, prs_allC, aApp_nil, aApp_none, aApp_some, aApp_grw, simprocAttr, amset, tyset, Function.comp_apply, one1, lenV, calleeOf, lateOk, belowV, aop, AV.ofValue, AV.ofCell, AV.cells, AV.flat, AV.one, arep, aBin, aConv]
  repeat refine And.intro (by omega) ?_
  have hmvs : ∀ m k sel, AV.mvs (sig m k sel) (slr n0 []) = slr n0 [] := fun _ _ _ => rfl
  refine glp (fun k F Hx => ∃ j : Nat, ∃ S : List (Int × Int), ∃ cs : List (List (Int × Int)), ∃ Hg1 : AHeap, ∃ XX1 : AHeap, j + k = A.length ∧ Hg1 = H ++ XX1 ∧ (∀ x ∈ XX1, ABlk.bel Hg1.length x = true) ∧ clN srtC A A j = (S, cs) ∧ n0 + cs.length = Hg1.length ∧ XX1 = cs.map cblk ∧ S.length ≤ 4096 ∧ (∀ p ∈ S, p ∈ A) ∧ cs.length ≤ j ∧ F = [(4, .mp (some (Hg1.length))), (8, .sl (some (Hg1.length + 2, 0)) cs.length (capG cs.length)), (31, .sl (some (Hg1.length + 1, 0)) A.length (capG A.length)), (32, iV ((A.length : Nat) : Int)), (33, iV ((j : Nat) : Int))] ∧ Hx = Hg1 ++ [.map (mset S), .cells (ownG A.length) 2 (prs A), .cells (ownG cs.length) 1 (slr n0 cs)]) (A.length) ?_ ?_
  · refine ⟨_, _, _, ⟨0, A, [], H, [], by omega, (List.append_nil _).symm, (fun x h => by cases h), rfl, hn0, rfl, hAl, fun _ h => h, Nat.le_refl _, rfl, rfl⟩, Abs.byG hbel [.cells false 1 []] rfl [0, 1, 2] (by decide) ?_⟩
    exact absRf (jn @hins (jn @slr_nil (jn @mv_mset @mset_nil)))
  rintro k1 F Hx ⟨j, S, cs, Hg1, XX1, hm1, hgX1, hXb_g1, hst, hgl, hXX, hSl, hSA, hcj, rfl, rfl⟩ J1 hJ1
  have hbel_g1 := hbel_grow hgX1 hbel hXb_g1
  have hbpp_g1 := grow1 hgX1 hb0pp
  have hblpp_g1 := getElem?_lt hbpp_g1
  have hb0pp_g1 := fun l => get_app (l := l) hbpp_g1
  have hpre_g1 : ∃ X, Hg1 = H ++ X := ⟨_, hgX1⟩
  have hle_g1 := pre_le hpre_g1
  have hmvs := fun k sel => mvs_slr (m := Hg1.length) (k := k) (sel := sel) (n := n0) (cs := cs) (by omega)
  simp -implicitDefEqProofs (disch := omega) only [lk_gen, lk_mp, up_eq, de_eq, mset_nil, hbpp_g1, hb0pp_g1, h1, h1d, prs_len, prs_one, h2, h2d, slr_len, slr_ones, prs_allC, aApp_nil, aApp_none, aApp_some, aApp_grw, simprocAttr, amset, tyset, Function.comp_apply, one1, lenV, calleeOf, lateOk, belowV, aop, AV.ofValue, AV.ofCell, AV.cells, AV.flat, AV.one, arep, aBin, aConv]
  repeat refine And.intro (by omega) ?_
  refine cond_split (fun h4 => ?_) (fun h4 => ?_)
  · have h4d := bsT h4
    have hlt : j < A.length := by omega
    have q5 := prs_load (l := A) (j := j) (by omega)
    have qm51_l := fun l x y => lk_mblk (P := Try.prog) (t := 51) (kt := 36) (et := 4) (by kernel_rfl) tEq36 (by kernel_rfl) (by kernel_rfl) l x y
    have qm51_u := fun l x y => up_mblk (P := Try.prog) (t := 51) (kt := 36) (et := 4) (by kernel_rfl) tEq36 l x y
    have qm51_d := fun l x y => de_mblk (P := Try.prog) (t := 51) (kt := 36) (et := 4) (by kernel_rfl) tEq36 l x y
    simp -implicitDefEqProofs (disch := omega) only [lk_gen, lk_mp, up_eq, de_eq, mset_nil, hbpp_g1, hb0pp_g1, h1, h1d, prs_len, prs_one, h2, h2d, slr_len, slr_ones, h4, h4d, q5, qm51_l, qm51_u, qm51_d, prs_allC, aApp_nil, aApp_none, aApp_some, aApp_grw, simprocAttr, amset, tyset, Function.comp_apply, one1, lenV, calleeOf, lateOk, belowV, aop, AV.ofValue, AV.ofCell, AV.cells, AV.flat, AV.one, arep, aBin, aConv]
    repeat refine And.intro (by omega) ?_
    refine cond_split (fun h6 => ?_) (fun h6 => ?_)
    · have h6d := bsT h6
      simp -implicitDefEqProofs (disch := omega) only [lk_gen, lk_mp, up_eq, de_eq, mset_nil, hbpp_g1, hb0pp_g1, h1, h1d, prs_len, prs_one, h2, h2d, slr_len, slr_ones, h4, h4d, q5, qm51_l, qm51_u, qm51_d, h6, h6d, prs_allC, aApp_nil, aApp_none, aApp_some, aApp_grw, simprocAttr, amset, tyset, Function.comp_apply, one1, lenV, calleeOf, lateOk, belowV, aop, AV.ofValue, AV.ofCell, AV.cells, AV.flat, AV.one, arep, aBin, aConv]
      repeat refine And.intro (by omega) ?_
      refine hJ1 _ _ ⟨k1 - 1, by omega, _, _, _, ⟨j + 1, S, cs, Hg1, XX1, by omega, by assumption, by assumption, by rw [clN, hst]; exact if_neg (by rw [h6d]; decide), by assumption, by assumption, by assumption, by assumption, by omega, rfl, rfl⟩, (Abs.byG hbel_g1 [] rfl [0, 1, 2] (by decide) ?_).le hle_g1⟩
      exact absRf (jn @hmvs (jn @slr_snoc (jn @hgl (jn @mv_mset (jn @mset_nil @slr_nil)))))
    have h6d := bsT h6
    have hmS := memP_iff.1 h6d
    have hel := List.length_erase_of_mem hmS
    have hpos := List.length_pos_of_mem hmS
    simp -implicitDefEqProofs (disch := omega) only [lk_gen, lk_mp, up_eq, de_eq, mset_nil, hbpp_g1, hb0pp_g1, h1, h1d, prs_len, prs_one, h2, h2d, slr_len, slr_ones, h4, h4d, q5, qm51_l, qm51_u, qm51_d, h6, h6d, prs_allC, aApp_nil, aApp_none, aApp_some, aApp_grw, simprocAttr, amset, tyset, Function.comp_apply, one1, lenV, calleeOf, lateOk, belowV, aop, AV.ofValue, AV.ofCell, AV.cells, AV.flat, AV.one, arep, aBin, aConv]
    repeat refine And.intro (by omega) ?_
    refine glp (fun k F Hx => ∃ n : Nat, ∃ T : List (Int × Int), ∃ cl : List (Int × Int), n + k = (S.erase (g1 A j, g2 A j)).length + 1 ∧ bfN n (S.erase (g1 A j, g2 A j), [(g1 A j, g2 A j)]) = (T, cl) ∧ T.length + cl.length = (S.erase (g1 A j, g2 A j)).length + 1 ∧ n ≤ cl.length ∧ (∀ p ∈ T, p ∈ A) ∧ (∀ p ∈ cl, p ∈ A) ∧ F = [(4, .mp (some (Hg1.length))), (8, .sl (some (Hg1.length + 2, 0)) cs.length (capG cs.length)), (11, .sl (some (Hg1.length + 3, 0)) cl.length none), (12, iV ((n : Nat) : Int)), (31, .sl (some (Hg1.length + 1, 0)) A.length (capG A.length)), (32, iV ((A.length : Nat) : Int)), (33, iV ((j : Nat) : Int))] ∧ Hx = Hg1 ++ [.map (mset T), .cells (ownG A.length) 2 (prs A), .cells (ownG cs.length) 1 (slr n0 cs), .cells true 2 (prs cl)]) ((S.erase (g1 A j, g2 A j)).length + 1) ?_ ?_
    · refine ⟨_, _, _, ⟨0, S.erase (g1 A j, g2 A j), [(g1 A j, g2 A j)], by omega, rfl, rfl, by omega, (fun p hp => hSA p (List.mem_of_mem_erase hp)), (fun p hp => hSA p ((List.mem_singleton.1 hp) ▸ hmS)), rfl, rfl⟩, (Abs.byG hbel_g1 [] rfl [0, 1, 2, 4] (by decide) ?_).le hle_g1⟩
      exact absRf (jn @hmvs (jn @mv_mset (jn @mset_nil @slr_nil)))
    rintro k2 F Hx ⟨n, T, cl, hm2, hbf, hln, hnl, hTA, hcA, rfl, rfl⟩ J2 hJ2
    simp -implicitDefEqProofs (disch := omega) only [lk_gen, lk_mp, up_eq, de_eq, mset_nil, hbpp_g1, hb0pp_g1, h1, h1d, prs_len, prs_one, h2, h2d, slr_len, slr_ones, h4, h4d, q5, qm51_l, qm51_u, qm51_d, h6, h6d, prs_allC, aApp_nil, aApp_none, aApp_some, aApp_grw, simprocAttr, amset, tyset, Function.comp_apply, one1, lenV, calleeOf, lateOk, belowV, aop, AV.ofValue, AV.ofCell, AV.cells, AV.flat, AV.one, arep, aBin, aConv]
    repeat refine And.intro (by omega) ?_
    refine cond_split (fun h7 => ?_) (fun h7 => ?_)
    · have h7d := bsT h7
      have hlt2 : n < cl.length := by omega
      simp -implicitDefEqProofs (disch := omega) only [lk_gen, lk_mp, up_eq, de_eq, mset_nil, hbpp_g1, hb0pp_g1, h1, h1d, prs_len, prs_one, h2, h2d, slr_len, slr_ones, h4, h4d, q5, qm51_l, qm51_u, qm51_d, h6, h6d, h7, h7d, prs_allC, aApp_nil, aApp_none, aApp_some, aApp_grw, simprocAttr, amset, tyset, Function.comp_apply, one1, lenV, calleeOf, lateOk, belowV, aop, AV.ofValue, AV.ofCell, AV.cells, AV.flat, AV.one, arep, aBin, aConv]
      repeat refine And.intro (by omega) ?_
      have hzz1 : ((0 : Nat) : Int) - 1 = -1 := rfl
      refine glp (fun k F Hx => ∃ a : Nat, ∃ T3 : List (Int × Int), ∃ cl3 : List (Int × Int), a + k = 3 ∧ dyF n a (T, cl) = (T3, cl3) ∧ T3.length + cl3.length = T.length + cl.length ∧ n < cl3.length ∧ (∀ p ∈ T3, p ∈ A) ∧ (∀ p ∈ cl3, p ∈ A) ∧ F = [(4, .mp (some (Hg1.length))), (8, .sl (some (Hg1.length + 2, 0)) cs.length (capG cs.length)), (11, .sl (some (Hg1.length + 3, 0)) cl3.length none), (12, iV ((n : Nat) : Int)), (13, iV (((a : Nat) : Int) - 1)), (31, .sl (some (Hg1.length + 1, 0)) A.length (capG A.length)), (32, iV ((A.length : Nat) : Int)), (33, iV ((j : Nat) : Int))] ∧ Hx = Hg1 ++ [.map (mset T3), .cells (ownG A.length) 2 (prs A), .cells (ownG cs.length) 1 (slr n0 cs), .cells true 2 (prs cl3)]) (3) ?_ ?_
      · refine ⟨_, _, _, ⟨0, T, cl, by omega, rfl, rfl, hlt2, hTA, hcA, rfl, rfl⟩, (Abs.byG hbel_g1 [] rfl [0, 1, 2, 3] (by decide) ?_).le hle_g1⟩
        exact absRf (jn @hmvs (jn @hzz1 (jn @mv_mset (jn @mset_nil @slr_nil))))
      rintro k3 F Hx ⟨a, T3, cl3, hm3, hdy, hln3, hnl3, hTA3, hcA3, rfl, rfl⟩ J3 hJ3
      have ha1 : ((a : Nat) : Int) - 1 + 1 = ((a + 1 : Nat) : Int) - 1 := by omega
      simp -implicitDefEqProofs (disch := omega) only [lk_gen, lk_mp, up_eq, de_eq, mset_nil, hbpp_g1, hb0pp_g1, h1, h1d, prs_len, prs_one, h2, h2d, slr_len, slr_ones, h4, h4d, q5, qm51_l, qm51_u, qm51_d, h6, h6d, h7, h7d, prs_allC, aApp_nil, aApp_none, aApp_some, aApp_grw, simprocAttr, amset, tyset, Function.comp_apply, one1, lenV, calleeOf, lateOk, belowV, aop, AV.ofValue, AV.ofCell, AV.cells, AV.flat, AV.one, arep, aBin, aConv]
      repeat refine And.intro (by omega) ?_
      refine cond_split (fun h8 => ?_) (fun h8 => ?_)
      · have h8d := bsT h8
        simp -implicitDefEqProofs (disch := omega) only [lk_gen, lk_mp, up_eq, de_eq, mset_nil, hbpp_g1, hb0pp_g1, h1, h1d, prs_len, prs_one, h2, h2d, slr_len, slr_ones, h4, h4d, q5, qm51_l, qm51_u, qm51_d, h6, h6d, h7, h7d, h8, h8d, prs_allC, aApp_nil, aApp_none, aApp_some, aApp_grw, simprocAttr, amset, tyset, Function.comp_apply, one1, lenV, calleeOf, lateOk, belowV, aop, AV.ofValue, AV.ofCell, AV.cells, AV.flat, AV.one, arep, aBin, aConv]
        repeat refine And.intro (by omega) ?_
        have hzz2 : ((0 : Nat) : Int) - 1 = -1 := rfl
        refine glp (fun k F Hx => ∃ b : Nat, ∃ T4 : List (Int × Int), ∃ cl4 : List (Int × Int), b + k = 3 ∧ dxF n (((a : Nat) : Int) - 1) b (T3, cl3) = (T4, cl4) ∧ T4.length + cl4.length = T3.length + cl3.length ∧ n < cl4.length ∧ (∀ p ∈ T4, p ∈ A) ∧ (∀ p ∈ cl4, p ∈ A) ∧ F = [(4, .mp (some (Hg1.length))), (8, .sl (some (Hg1.length + 2, 0)) cs.length (capG cs.length)), (11, .sl (some (Hg1.length + 3, 0)) cl4.length none), (12, iV ((n : Nat) : Int)), (13, iV (((a : Nat) : Int) - 1)), (14, iV (((b : Nat) : Int) - 1)), (31, .sl (some (Hg1.length + 1, 0)) A.length (capG A.length)), (32, iV ((A.length : Nat) : Int)), (33, iV ((j : Nat) : Int))] ∧ Hx = Hg1 ++ [.map (mset T4), .cells (ownG A.length) 2 (prs A), .cells (ownG cs.length) 1 (slr n0 cs), .cells true 2 (prs cl4)]) (3) ?_ ?_
        · refine ⟨_, _, _, ⟨0, T3, cl3, by omega, rfl, rfl, hnl3, hTA3, hcA3, rfl, rfl⟩, (Abs.byG hbel_g1 [] rfl [0, 1, 2, 3] (by decide) ?_).le hle_g1⟩
          exact absRf (jn @hmvs (jn @hzz2 (jn @mv_mset (jn @mset_nil @slr_nil))))
        rintro k4 F Hx ⟨b, T4, cl4, hm4, hdx, hln4, hnl4, hTA4, hcA4, rfl, rfl⟩ J4 hJ4
        have hb1 : ((b : Nat) : Int) - 1 + 1 = ((b + 1 : Nat) : Int) - 1 := by omega
        simp -implicitDefEqProofs (disch := omega) only [lk_gen, lk_mp, up_eq, de_eq, mset_nil, hbpp_g1, hb0pp_g1, h1, h1d, prs_len, prs_one, h2, h2d, slr_len, slr_ones, h4, h4d, q5, qm51_l, qm51_u, qm51_d, h6, h6d, h7, h7d, h8, h8d, prs_allC, aApp_nil, aApp_none, aApp_some, aApp_grw, simprocAttr, amset, tyset, Function.comp_apply, one1, lenV, calleeOf, lateOk, belowV, aop, AV.ofValue, AV.ofCell, AV.cells, AV.flat, AV.one, arep, aBin, aConv]
        repeat refine And.intro (by omega) ?_
        refine cond_split (fun h9 => ?_) (fun h9 => ?_)
        · have h9d := bsT h9
          have hbn := hAb _ (hcA4 _ (gp_in hnl4))
          simp only [gp] at hbn
          have q10 := prs_at0 (l := cl4) (j := n) (by omega)
          have q11 := prs_at1 (l := cl4) (j := n) (by omega)
          simp -implicitDefEqProofs (disch := omega) only [lk_gen, lk_mp, up_eq, de_eq, mset_nil, hbpp_g1, hb0pp_g1, h1, h1d, prs_len, prs_one, h2, h2d, slr_len, slr_ones, h4, h4d, q5, qm51_l, qm51_u, qm51_d, h6, h6d, h7, h7d, h8, h8d, h9, h9d, q10, q11, prs_allC, aApp_nil, aApp_none, aApp_some, aApp_grw, simprocAttr, amset, tyset, Function.comp_apply, one1, lenV, calleeOf, lateOk, belowV, aop, AV.ofValue, AV.ofCell, AV.cells, AV.flat, AV.one, arep, aBin, aConv]
          repeat refine And.intro (by omega) ?_
          refine cond_split (fun h12 => ?_) (fun h12 => ?_)
          · have h12d := bsT h12
            have hsfx : dxF n (((a : Nat) : Int) - 1) (b + 1) (T3, cl3) = (T4.erase (((g1 cl4 n) + (((b : Nat) : Int) - 1)), ((g2 cl4 n) + (((a : Nat) : Int) - 1))), cl4 ++ [(((g1 cl4 n) + (((b : Nat) : Int) - 1)), ((g2 cl4 n) + (((a : Nat) : Int) - 1)))]) := by
              show stF n (dxF n _ b (T3, cl3)) _ _ = _
              rw [hdx]; exact if_pos h12d
            simp -implicitDefEqProofs (disch := omega) only [lk_gen, lk_mp, up_eq, de_eq, mset_nil, hbpp_g1, hb0pp_g1, h1, h1d, prs_len, prs_one, h2, h2d, slr_len, slr_ones, h4, h4d, q5, qm51_l, qm51_u, qm51_d, h6, h6d, h7, h7d, h8, h8d, h9, h9d, q10, q11, h12, h12d, hsfx, capG_s, prs_allC, aApp_nil, aApp_none, aApp_some, aApp_grw, simprocAttr, amset, tyset, Function.comp_apply, one1, lenV, calleeOf, lateOk, belowV, aop, AV.ofValue, AV.ofCell, AV.cells, AV.flat, AV.one, arep, aBin, aConv]
            repeat refine And.intro (by omega) ?_
            refine hJ4 _ _ ⟨k4 - 1, by omega, _, _, _, ⟨b + 1, T4.erase ((g1 cl4 n) + (((b : Nat) : Int) - 1), (g2 cl4 n) + (((a : Nat) : Int) - 1)), cl4 ++ [((g1 cl4 n) + (((b : Nat) : Int) - 1), (g2 cl4 n) + (((a : Nat) : Int) - 1))], by omega, hsfx, (by have := List.length_erase_of_mem (memP_iff.1 h12d); have := List.length_pos_of_mem (memP_iff.1 h12d); rw [List.length_append, List.length_singleton]; omega), (by rw [List.length_append]; omega), (fun p hp => hTA4 p (List.mem_of_mem_erase hp)), (fun p hp => (List.mem_append.1 hp).elim (hcA4 p) fun q => (List.mem_singleton.1 q) ▸ hTA4 _ (memP_iff.1 h12d)), rfl, rfl⟩, (Abs.byG hbel_g1 [] rfl [0, 1, 2, 6] (by decide) ?_).le hle_g1⟩
            exact absRf (jn @hmvs (jn @hb1 (jn @mv_mset (jn @mset_nil @slr_nil))))
          have h12d := bsT h12
          have hsfx : dxF n (((a : Nat) : Int) - 1) (b + 1) (T3, cl3) = (T4, cl4) := by
            show stF n (dxF n _ b (T3, cl3)) _ _ = _
            rw [hdx]; exact if_neg (by rw [h12d]; decide)
          simp -implicitDefEqProofs (disch := omega) only [lk_gen, lk_mp, up_eq, de_eq, mset_nil, hbpp_g1, hb0pp_g1, h1, h1d, prs_len, prs_one, h2, h2d, slr_len, slr_ones, h4, h4d, q5, qm51_l, qm51_u, qm51_d, h6, h6d, h7, h7d, h8, h8d, h9, h9d, q10, q11, h12, h12d, hsfx, prs_allC, aApp_nil, aApp_none, aApp_some, aApp_grw, simprocAttr, amset, tyset, Function.comp_apply, one1, lenV, calleeOf, lateOk, belowV, aop, AV.ofValue, AV.ofCell, AV.cells, AV.flat, AV.one, arep, aBin, aConv]
          repeat refine And.intro (by omega) ?_
          refine hJ4 _ _ ⟨k4 - 1, by omega, _, _, _, ⟨b + 1, T4, cl4, by omega, hsfx, by omega, by omega, hTA4, hcA4, rfl, rfl⟩, (Abs.byG hbel_g1 [] rfl [0, 1, 2, 3] (by decide) ?_).le hle_g1⟩
          exact absRf (jn @hmvs (jn @hb1 (jn @mv_mset (jn @mset_nil @slr_nil))))
        have h9d := bsT h9
        obtain rfl : b = 3 := by omega
        simp -implicitDefEqProofs (disch := omega) only [lk_gen, lk_mp, up_eq, de_eq, mset_nil, hbpp_g1, hb0pp_g1, h1, h1d, prs_len, prs_one, h2, h2d, slr_len, slr_ones, h4, h4d, q5, qm51_l, qm51_u, qm51_d, h6, h6d, h7, h7d, h8, h8d, h9, h9d, prs_allC, aApp_nil, aApp_none, aApp_some, aApp_grw, simprocAttr, amset, tyset, Function.comp_apply, one1, lenV, calleeOf, lateOk, belowV, aop, AV.ofValue, AV.ofCell, AV.cells, AV.flat, AV.one, arep, aBin, aConv]
        repeat refine And.intro (by omega) ?_
        refine hJ3 _ _ ⟨k3 - 1, by omega, _, _, _, ⟨a + 1, T4, cl4, by omega, by
          show dxF n (((a : Nat) : Int) - 1) 3 (dyF n a (T, cl)) = _
          rw [hdy]; exact hdx, by omega, hnl4, hTA4, hcA4, rfl, rfl⟩, (Abs.byG hbel_g1 [] rfl [0, 1, 2, 3] (by decide) ?_).le hle_g1⟩
        exact absRf (jn @hmvs (jn @ha1 (jn @mv_mset (jn @mset_nil @slr_nil))))
      have h8d := bsT h8
      obtain rfl : a = 3 := by omega
      simp -implicitDefEqProofs (disch := omega) only [lk_gen, lk_mp, up_eq, de_eq, mset_nil, hbpp_g1, hb0pp_g1, h1, h1d, prs_len, prs_one, h2, h2d, slr_len, slr_ones, h4, h4d, q5, qm51_l, qm51_u, qm51_d, h6, h6d, h7, h7d, h8, h8d, prs_allC, aApp_nil, aApp_none, aApp_some, aApp_grw, simprocAttr, amset, tyset, Function.comp_apply, one1, lenV, calleeOf, lateOk, belowV, aop, AV.ofValue, AV.ofCell, AV.cells, AV.flat, AV.one, arep, aBin, aConv]
      repeat refine And.intro (by omega) ?_
      refine hJ2 _ _ ⟨k2 - 1, by omega, _, _, _, ⟨n + 1, T3, cl3, by omega, by
        rw [bfN, hbf, if_pos hlt2]
        show dyF n 3 (T, cl) = _
        exact hdy, by omega, by omega, hTA3, hcA3, rfl, rfl⟩, (Abs.byG hbel_g1 [] rfl [0, 1, 2, 3] (by decide) ?_).le hle_g1⟩
      exact absRf (jn @hmvs (jn @mv_mset (jn @mset_nil @slr_nil)))
    have h7d := bsT h7
    have hne2 : cl.length ≤ n := by omega
    have hbr : bfR (S.erase (g1 A j, g2 A j), [(g1 A j, g2 A j)]) = (T, cl) := by
      rw [bfR_stop (i := n) (by rw [hbf]; exact hne2) (by simp only [List.length_singleton]; omega), hbf]
    have hclp : 0 < cl.length := by have := (bfR_ext (S.erase (g1 A j, g2 A j), [(g1 A j, g2 A j)])).le; rw [hbr] at this; exact this
    have hcll : cl.length ≤ 4097 := by omega
    have hsl := srtC_len cl
    simp -implicitDefEqProofs (disch := omega) only [lk_gen, lk_mp, up_eq, de_eq, mset_nil, hbpp_g1, hb0pp_g1, h1, h1d, prs_len, prs_one, h2, h2d, slr_len, slr_ones, h4, h4d, q5, qm51_l, qm51_u, qm51_d, h6, h6d, h7, h7d, prs_allC, aApp_nil, aApp_none, aApp_some, aApp_grw, simprocAttr, amset, tyset, Function.comp_apply, one1, lenV, calleeOf, lateOk, belowV, aop, AV.ofValue, AV.ofCell, AV.cells, AV.flat, AV.one, arep, aBin, aConv]
    repeat refine And.intro (by omega) ?_
    refine cv (sortc_c _ _ _ cl (by first | rfl | (rw [get_newk]; rfl) | (rw [get_new0]; rfl)) (by omega) (by omega)) ?_
    simp -implicitDefEqProofs (disch := omega) only [lk_gen, lk_mp, up_eq, de_eq, mset_nil, hbpp_g1, hb0pp_g1, h1, h1d, prs_len, prs_one, h2, h2d, slr_len, slr_ones, h4, h4d, q5, qm51_l, qm51_u, qm51_d, h6, h6d, h7, h7d, capG_s, prs_allC, aApp_nil, aApp_none, aApp_some, aApp_grw, simprocAttr, amset, tyset, Function.comp_apply, one1, lenV, calleeOf, lateOk, belowV, aop, AV.ofValue, AV.ofCell, AV.cells, AV.flat, AV.one, arep, aBin, aConv]
    repeat refine And.intro (by omega) ?_
    refine hJ1 _ _ ⟨k1 - 1, by omega, _, _, _, ⟨j + 1, T, cs ++ [srtC cl], (Hg1 ++ [.cells true 2 (prs (srtC cl))]), (XX1 ++ [.cells true 2 (prs (srtC cl))]), by omega, (by rw [hgX1, List.append_assoc]), grow_bel hXb_g1 (by simp only [ABlk.bel, bels_prs, bels_ints]), by
      rw [clN, hst]
      show (if memP S (g1 A j) (g2 A j) = true then _ else _) = _
      rw [if_pos (memP_iff.2 hmS), hbr], (by rw [List.length_append, List.length_singleton, List.length_append, List.length_singleton]; omega), (by rw [List.map_append, ← hXX]; rfl), by omega, (fun p hp => hTA p hp), (by rw [List.length_append, List.length_singleton]; omega), rfl, rfl⟩, Abs.byX hle_g1 hbel_g1 [] rfl [3, 0, 1, 5] (by decide) ?_⟩
    exact absRf (jn @hmvs (jn @slr_snoc (jn @hgl (jn @srtC_len (jn @grow_len (jn @Nat.add_assoc (jn @mv_mset (jn @mset_nil @slr_nil))))))))
  have h4d := bsT h4
  obtain rfl : j = A.length := by omega
  have hcs : cluL A = cs := by unfold cluL; rw [hst]
  simp -implicitDefEqProofs (disch := omega) only [lk_gen, lk_mp, up_eq, de_eq, mset_nil, hbpp_g1, hb0pp_g1, h1, h1d, prs_len, prs_one, h2, h2d, slr_len, slr_ones, h4, h4d, prs_allC, aApp_nil, aApp_none, aApp_some, aApp_grw, simprocAttr, amset, tyset, Function.comp_apply, one1, lenV, calleeOf, lateOk, belowV, aop, AV.ofValue, AV.ofCell, AV.cells, AV.flat, AV.one, arep, aBin, aConv]
  repeat refine And.intro (by omega) ?_
  refine hQ _ _ ((end_byG (.inl rfl) hbel_g1 (x1 := .tup [.sl (some (Hg1.length + 2, 0)) cs.length (capG cs.length), iV 0]) (l2 := [.cells (ownG cs.length) 1 (slr n0 cs)]) (.tup [.sl (some (Hg1.length, 0)) cs.length (capG cs.length), iV 0]) (resT Try.results10) [] rfl [2] (by decide) ⟨XX1, (by rw [← hgX1]; exact hXb_g1), (by rw [hcs]; exact hXX), (by rw [hcs, ← hgX1]), (by rw [hcs, ← hgX1])⟩ ?_).le hle_g1)
  exact absWf @hmvs
theorem awake_a (H : AHeap) : ACalls Try.prog 7 [] H (fun v H' => v = .bool true ∧ H' = H) :=
  ACalls.closed (ran try_mixed ext_ok tb tb_ok 3000 60 (x := .bool true) (o := none) (by kernel_rfl)) rfl rfl H
theorem few38_c (H : AHeap) (W Hh : Int) (pp : AV) (xs : List Int) (hpp : Sl H 1 pp xs.length (ints .u8 xs)) : ACalls Try.prog 8 [.agg [iV W, iV Hh, pp]] H (fun v H' => v = .bool (decide (((xs.length : Nat) : Int) ≤ 200)) ∧ H' = H) := by
  obtain ⟨bpp, opp, cpp, rfl, hbpp⟩ := hpp
  have hblpp := getElem?_lt hbpp
  have hb0pp := fun l => get_app (l := l) hbpp
  refine AcT true Try.func8 ?_; intro hbel Q hQ
  have g'7 := (jn @hbpp @hb0pp)
  exact eR g'7 hQ hbel (.bool (decide (((xs.length : Nat) : Int) ≤ 200))) Try.results8 ⟨rfl, rfl⟩
theorem adj38_c (H : AHeap) (a b : Int) (c d : Int) (ha : -1000000 ≤ a ∧ a ≤ 1000000) (hb : -1000000 ≤ b ∧ b ≤ 1000000) (hc : -1000000 ≤ c ∧ c ≤ 1000000) (hd : -1000000 ≤ d ∧ d ≤ 1000000) : ACalls Try.prog 11 [.agg [iV a, iV b], .agg [iV c, iV d]] H (fun v H' => v = .bool (adjB a b c d) ∧ H' = H) := by
  refine AcT true Try.func11 ?_; intro hbel Q hQ
  refine runT ?_
  refine cv (bsize_c _ _ _ (by decide)) ?_
  refine runT ?_
  refine gd_split (fun h1 => ?_) (fun h1 => ?_)
  · have h1d := bsT h1
    have g'8 := (jn h1 @h1d)
    refine runTf g'8 ?_
    refine cvr g'8 (bsize_c _ _ _ (by decide)) ?_
    exact eP hQ hbel (.bool (within (b - d) 1)) Try.results11 ⟨by refine congrArg _ (adj_w ?_); simp only [h1d, h1, Bool.true_and, Bool.false_and], rfl⟩
  have h1d := bsT h1
  have g'9 := (jn h1 @h1d)
  exact eR g'9 hQ hbel (.bool false) Try.results11 ⟨by refine congrArg _ (adj_w ?_); simp only [h1d, h1, Bool.true_and, Bool.false_and], rfl⟩
theorem clus_k (H : AHeap) (A : List (Int × Int)) (n0 : Nat) (W Hh : Int) (s : AV) (xs : List Int) (cs : List (List (Int × Int))) (hs : Sl H 1 s xs.length (ints .u8 xs)) (hv : vldB W Hh xs = true) (hA : froL W Hh xs = A) (hn0 : n0 = H.length) (hC : cluL A = cs) :
    ACalls Try.prog 10 [.agg [iV W, iV Hh, s]] H (fun v H' => ∃ X : AHeap, (∀ x ∈ X, ABlk.bel (H ++ X).length x = true) ∧ X = cs.map cblk ∧ v = .tup [.sl (some ((H ++ X).length, 0)) cs.length (capG cs.length), iV 0] ∧ H' = H ++ X ++ [.cells (ownG cs.length) 1 (slr n0 cs)]) := by
  subst hC; exact clus_y H A n0 W Hh s xs hs hv hA hn0
def cstN (W H : Int) (xs : List Int) (cx cy dx dy : Int) : Int := if 0 ≤ stI W H xs cx cy dx dy then stI W H xs cx cy dx dy else 0
def cstB (W H : Int) (xs : List Int) (cx cy dx dy : Int) : Bool := decide (0 ≤ stI W H xs cx cy dx dy)
theorem cst_y {W H : Int} {xs : List Int} {cx cy dx dy v : Int} (h : stI W H xs cx cy dx dy = v) (hv : 0 ≤ v) : cstN W H xs cx cy dx dy = v ∧ cstB W H xs cx cy dx dy = true := by
  unfold cstN cstB; rw [h]; exact ⟨if_pos hv, decide_eq_true hv⟩
theorem cst_n {W H : Int} {xs : List Int} {cx cy dx dy : Int} (h : stI W H xs cx cy dx dy = -1) : cstN W H xs cx cy dx dy = 0 ∧ cstB W H xs cx cy dx dy = false := by
  unfold cstN cstB; rw [h]; exact ⟨if_neg (by omega), decide_eq_false (by omega)⟩
theorem isB_n {W H : Int} {xs : List Int} {x y v : Int} (h : ¬ (0 ≤ x ∧ x < W ∧ 0 ≤ y ∧ y < H)) : isB W H xs x y v = false := by
  unfold isB; rw [inB_false.2 h]; rfl
theorem isB_y {W H : Int} {xs : List Int} {x y v : Int} (h : 0 ≤ x ∧ x < W ∧ 0 ≤ y ∧ y < H) : isB W H xs x y v = (gi xs ((y * W) + x).toNat == v) := by
  unfold isB; rw [inB_iff.2 h]; rfl
theorem pfree_c (H : AHeap) (W Hh : Int) (pp : AV) (xs : List Int) (x y : Int) (hpp : Sl H 1 pp xs.length (ints .u8 xs)) (hV : Vld W Hh xs) : ACalls Try.prog 36 [.agg [iV W, iV Hh, pp], .agg [iV x, iV y]] H (fun v H' => v = .bool (isB W Hh xs x y 1) ∧ H' = H) := by
  obtain ⟨bpp, opp, cpp, rfl, hbpp⟩ := hpp
  have hblpp := getElem?_lt hbpp
  have hb0pp := fun l => get_app (l := l) hbpp
  refine AcT true Try.func36 ?_; intro hbel Q hQ
  have g'1 := (jn @hbpp @hb0pp)
  refine rgs g'1 (fun h1 h1d g'2 => ?_) (fun h1 h1d g'9 => ?_)
  · refine rgs g'2 (fun h2 h2d g'3 => ?_) (fun h2 h2d g'8 => ?_)
    · refine rgs g'3 (fun h3 h3d g'4 => ?_) (fun h3 h3d g'7 => ?_)
      · refine rgs g'4 (fun h4 h4d _ => ?_) (fun h4 h4d g'6 => ?_)
        · have hin : 0 ≤ x ∧ x < W ∧ 0 ≤ y ∧ y < Hh := by omega
          have hib := hV.idx (inB_iff.2 hin)
          have hfin := isB_y (xs := xs) (v := 1) hin
          have q5 := ints_get (k := .u8) (xs := xs) (j := ((y * W) + x).toNat) (by omega)
          have g'5 := (jn h4 (jn h4d (jn q5 g'4)))
          exact eR g'5 hQ hbel (.bool ((gi xs (((y * W) + x).toNat)) == 1)) Try.results36 ⟨by first | (rw [hfin]; done) | (rw [hfin]; rfl) | (rw [hfin, h1, h2, h3, h4, hfin]; rfl), rfl⟩
        have hfin : isB W Hh xs x y 1 = false := isB_n (by omega)
        exact eR g'6 hQ hbel (.bool false) Try.results36 ⟨by first | (rw [hfin]; done) | (rw [hfin]; rfl) | (rw [hfin, h1, h2, h3, h4, hfin]; rfl), rfl⟩
      have hfin : isB W Hh xs x y 1 = false := isB_n (by omega)
      exact eR g'7 hQ hbel (.bool false) Try.results36 ⟨by first | (rw [hfin]; done) | (rw [hfin]; rfl) | (rw [hfin, h1, h2, h3, hfin]; rfl), rfl⟩
    have hfin : isB W Hh xs x y 1 = false := isB_n (by omega)
    exact eR g'8 hQ hbel (.bool false) Try.results36 ⟨by first | (rw [hfin]; done) | (rw [hfin]; rfl) | (rw [hfin, h1, h2, hfin]; rfl), rfl⟩
  have hfin : isB W Hh xs x y 1 = false := isB_n (by omega)
  exact eR g'9 hQ hbel (.bool false) Try.results36 ⟨by first | (rw [hfin]; done) | (rw [hfin]; rfl) | (rw [hfin, h1, hfin]; rfl), rfl⟩
theorem turns_c (H : AHeap) : ACalls Try.prog 38 [] H (fun v H' => v = .agg [iV (1), iV (0), iV (1), iV (1), iV (0), iV (1), iV (-1), iV (1), iV (-1), iV (0), iV (-1), iV (-1), iV (0), iV (-1), iV (1), iV (-1)] ∧ H' = H) :=
  ACalls.closed (ran try_mixed ext_ok tb tb_ok 3000 60 (x := .agg [iV (1), iV (0), iV (1), iV (1), iV (0), iV (1), iV (-1), iV (1), iV (-1), iV (0), iV (-1), iV (-1), iV (0), iV (-1), iV (1), iV (-1)]) (o := none) (by kernel_rfl)) rfl rfl H
theorem pcost_c (H : AHeap) (W Hh : Int) (pp : AV) (xs : List Int) (cx cy : Int) (dx dy : Int) (hpp : Sl H 1 pp xs.length (ints .u8 xs)) (hV : Vld W Hh xs) (hcx : -100000 ≤ cx ∧ cx ≤ 100000) (hcy : -100000 ≤ cy ∧ cy ≤ 100000) (hdx : -100000 ≤ dx ∧ dx ≤ 100000) (hdy : -100000 ≤ dy ∧ dy ≤ 100000) : ACalls Try.prog 39 [.agg [iV W, iV Hh, pp], .agg [iV cx, iV cy], .agg [iV dx, iV dy]] H (fun v H' => v = .tup [.agg [iV (cx + dx), iV (cy + dy)], iV (cstN W Hh xs cx cy dx dy), .bool (cstB W Hh xs cx cy dx dy)] ∧ H' = H) := by
  obtain ⟨bpp, opp, cpp, rfl, hbpp⟩ := hpp
  have hblpp := getElem?_lt hbpp
  have hb0pp := fun l => get_app (l := l) hbpp
  refine AcT true Try.func39 ?_; intro hbel Q hQ
  have g'10 := (jn @hbpp @hb0pp)
  refine runTf g'10 ?_
  refine cv (pfree_c _ W _ _ xs _ _ (⟨_, _, _, rfl, by first | exact hb0pp _ | exact hbpp⟩) hV) ?_
  refine rgs g'10 (fun h1 h1d g'11 => ?_) (fun h1 h1d g'22 => ?_)
  · have hk1 := h1d
    refine runTf g'11 ?_
    refine cv (pfree_c _ W _ _ xs _ _ (⟨_, _, _, rfl, by first | exact hb0pp _ | exact hbpp⟩) hV) ?_
    refine rcs g'11 (fun h2 h2d g'12 => ?_) (fun h2 h2d g'13 => ?_)
    · have hst : stI W Hh xs cx cy dx dy = -1 := by unfold stI; rw [h2d, Bool.and_false]; rfl
      have hfc := cst_n hst
      exact eR g'12 hQ hbel (.tup [.agg [iV (cx + dx), iV (cy + dy)], iV 0, .bool false]) Try.results39 ⟨by rw [hfc.1, hfc.2], rfl⟩
    have hk2 : (isB W Hh xs cx cy 1 && isB W Hh xs (cx + dx) (cy + dy) 1) = true := by rw [hk1, h2d]; rfl
    refine rgs g'13 (fun h3 h3d _ => ?_) (fun h3 h3d _ => ?_)
    · have h3n := bnT h3
      have hd1 : ¬ dx = 0 := h3d
      have g'14 := (jn h3 (jn h3n (jn @int_bne (jn @int_beq g'13))))
      refine rcs g'14 (fun h4 h4d _ => ?_) (fun h4 h4d _ => ?_)
      · have h4n := bnT h4
        have hst : stI W Hh xs cx cy dx dy = 70 := by unfold stI; rw [if_pos hk2, if_pos (.inr h4d)]
        have hfc := cst_y hst (by decide)
        have g'15 := j2 h4 h4n g'14
        exact eR g'15 hQ hbel (.tup [.agg [iV (cx + dx), iV (cy + dy)], iV 70, .bool true]) Try.results39 ⟨by rw [hfc.1, hfc.2], rfl⟩
      have h4n := bnT h4
      have hd2 : ¬ (dx = 0 ∨ dy = 0) := fun q => q.elim hd1 h4d
      have g'16 := j2 h4 h4n g'14
      refine runTf g'16 ?_
      refine cv (pfree_c _ W _ _ xs _ _ (⟨_, _, _, rfl, by first | exact hb0pp _ | exact hbpp⟩) hV) ?_
      refine rgs g'16 (fun h5 h5d g'17 => ?_) (fun h5 h5d g'20 => ?_)
      · have hk3 := h5d
        refine runTf g'17 ?_
        refine cv (pfree_c _ W _ _ xs _ _ (⟨_, _, _, rfl, by first | exact hb0pp _ | exact hbpp⟩) hV) ?_
        refine rcs g'17 (fun h6 h6d g'18 => ?_) (fun h6 h6d g'19 => ?_)
        · have hst : stI W Hh xs cx cy dx dy = 99 := by unfold stI; rw [if_pos hk2, if_neg hd2, hk3, h6d]; rfl
          have hfc := cst_y hst (by decide)
          exact eR g'18 hQ hbel (.tup [.agg [iV (cx + dx), iV (cy + dy)], iV 99, .bool true]) Try.results39 ⟨by rw [hfc.1, hfc.2], rfl⟩
        have hst : stI W Hh xs cx cy dx dy = -1 := by unfold stI; rw [if_pos hk2, if_neg hd2, h6d, Bool.and_false]; rfl
        have hfc := cst_n hst
        exact eR g'19 hQ hbel (.tup [.agg [iV (cx + dx), iV (cy + dy)], iV 0, .bool false]) Try.results39 ⟨by rw [hfc.1, hfc.2], rfl⟩
      have hst : stI W Hh xs cx cy dx dy = -1 := by unfold stI; rw [if_pos hk2, if_neg hd2, h5d]; rfl
      have hfc := cst_n hst
      exact eR g'20 hQ hbel (.tup [.agg [iV (cx + dx), iV (cy + dy)], iV 0, .bool false]) Try.results39 ⟨by rw [hfc.1, hfc.2], rfl⟩
    have h3n := bnT h3
    have hst : stI W Hh xs cx cy dx dy = 70 := by unfold stI; rw [if_pos hk2, if_pos (.inl h3d)]
    have hfc := cst_y hst (by decide)
    have g'21 := (jn h3 (jn h3n (jn @int_bne (jn @int_beq g'13))))
    exact eR g'21 hQ hbel (.tup [.agg [iV (cx + dx), iV (cy + dy)], iV 70, .bool true]) Try.results39 ⟨by rw [hfc.1, hfc.2], rfl⟩
  have hst : stI W Hh xs cx cy dx dy = -1 := by unfold stI; rw [h1d]; rfl
  have hfc := cst_n hst
  exact eR g'22 hQ hbel (.tup [.agg [iV (cx + dx), iV (cy + dy)], iV 0, .bool false]) Try.results39 ⟨by rw [hfc.1, hfc.2], rfl⟩
theorem push_c (H : AHeap) (R : List T3) (n : Nat) (ba bz : Nat) (x y c : Int) (ha : H[ba]? = some (.cells true 3 (r3 R))) (hz : H[bz]? = some (.cells true 0 [.sl (some (ba, 0)) (n) none])) (hnR : n ≤ R.length) (hRl : R.length ≤ 1000000) : ACalls Try.prog 53 [.ptr (some (bz, 0)), .agg [iV x, iV y, iV c]] H (fun v H' => v = .tup [] ∧ H' = ((H.set ba .dead).set bz (.cells true 0 [.sl (some (H.length, 0)) (n + 1) none])) ++ [.cells true 3 (r3 (pushH (R.take n) (x, y, c)))]) := by
  have hba := ha
  have hbz := hz
  have hbla := getElem?_lt hba
  have hblz := getElem?_lt hbz
  have hb0a := fun l => get_app (l := l) hba
  have hb0z := fun l => get_app (l := l) hbz
  have hne : ba ≠ bz := fun e => by subst e; rw [ha] at hz; simp at hz
  have hne' : bz ≠ ba := fun e => hne e.symm
  have hsfn : ((n + 1 : Nat) : Int) - 1 = ((n : Nat) : Int) := by omega
  have htl : (R.take n).length = n := by rw [List.length_take]; omega
  refine AcN true Try.func53 ?_; intro hbel Q hQ
  have g'1 := (jn @r3_take (jn @r3_one (jn @r3_len (jn @List.length_take.{0} (jn @hba (jn @hb0a (jn @hbz (jn @hb0z (jn @hbla (jn @hblz (jn @put_put (jn @put_old (jn @get_put (jn @get_put0 (jn @get_pk (jn @get_p0 (jn @set_pk (jn @set_p0 (jn @List.length_set.{0} (jn @List.set_set.{0} (jn @r3_sets @r3_sets2)))))))))))))))))))))
  refine runTf g'1 ?_
  obtain ⟨K1, hK1⟩ : ∃ K, K = H.set ba (.dead) := ⟨_, rfl⟩
  rw [← hK1]
  have hKl1 := rb_len hK1
  try simp only [show ∀ k, H.length + k = K1.length + k from fun k => by rw [hKl1], show ∀ o : Nat, (some (H.length, o) : Option (Nat × Nat)) = some (K1.length, o) from fun o => by rw [hKl1]]
  have hbel_k1 := rb_bel hK1 hbel (by first | rfl | exact bels_r3 | (simp only [ABlk.bel, AV.bels, AV.bel, Bool.and_true, decide_eq_true_eq]; omega))
  have hba_k1 := rb_new hK1 hbla
  have hbla_k1 := getElem?_lt hba_k1
  have hb0a_k1 := fun l => get_app (l := l) hba_k1
  have hbz_k1 := rb_old hK1 (by assumption) hbz
  have hblz_k1 := getElem?_lt hbz_k1
  have hb0z_k1 := fun l => get_app (l := l) hbz_k1
  have hle_k1 : H.length ≤ K1.length := rb_le hK1 (Nat.le_refl _)
  refine glp (fun k F Hx => ∃ i : Nat, ∃ m : List T3, i = k ∧ m.length = n + 1 ∧ i ≤ n ∧ upH i i m = pushH (R.take n) (x, y, c) ∧ F = [(0, .ptr (some (bz, 0))), (4, .sl (some (K1.length, 0)) m.length none), (5, iV ((i : Nat) : Int))] ∧ Hx = K1 ++ [.cells true 3 (r3 m)]) (n) ?_ ?_
  · refine ⟨_, _, _, ⟨n, List.take n R ++ [(x, y, c)], by omega, (by rw [List.length_append, htl]; rfl), Nat.le_refl _, (by unfold pushH; rw [htl]), rfl, rfl⟩, (Abs.byG hbel_k1 [] rfl [2] (by decide) ?_).le hle_k1⟩
    exact absRf (jn @htl (jn @hsfn (jn @r3_append (jn @r3_cons (jn @r3_nil @mvs_r3)))))
  rintro k0 F Hx ⟨i, m, hm0, hml, hin, hup, rfl, rfl⟩ J0 hJ0
  have g'2 := (jn @r3_take (jn @r3_one (jn @r3_len (jn @List.length_take.{0} (jn @hba_k1 (jn @hb0a_k1 (jn @hbz_k1 (jn @hb0z_k1 (jn @hbla_k1 (jn @hblz_k1 (jn @put_put (jn @put_old (jn @get_put (jn @get_put0 (jn @get_pk (jn @get_p0 (jn @set_pk (jn @set_p0 (jn @List.length_set.{0} (jn @List.set_set.{0} (jn @r3_sets @r3_sets2)))))))))))))))))))))
  refine rgs g'2 (fun h1 h1d _ => ?_) (fun h1 h1d g'6 => ?_)
  · obtain ⟨q, rfl⟩ : ∃ q, i = q + 1 := ⟨i - 1, by omega⟩
    have hsfq : ((q + 1 : Nat) : Int) - 1 = ((q : Nat) : Int) := by omega
    have hsfd : Int.tdiv ((q : Nat) : Int) 2 = ((q / 2 : Nat) : Int) := by rw [Int.tdiv_eq_ediv_of_nonneg (by omega)]; omega
    have q2 := r3_at2 (l := m) (j := q / 2) (by omega)
    have q3 := r3_at2 (l := m) (j := q + 1) (by omega)
    have g'3 := (jn h1 (jn h1d (jn @hsfq (jn @hsfd (jn q2 (jn q3 g'2))))))
    refine rcs g'3 (fun h4 h4d _ => ?_) (fun h4 h4d g'5 => ?_)
    · have hltv : g33 m (q + 1) < g33 m (q / 2) := of_decide_eq_true (by assumption)
      have q5 := r3_load (l := m) (j := q / 2) (by omega)
      have q6 := r3_load (l := m) (j := q + 1) (by omega)
      have g'4 := (jn h4 (jn h4d (jn q5 (jn q6 (jn @r3_set g'3)))))
      refine runTf g'4 ?_
      refine hJ0 _ _ ⟨q / 2, by omega, _, _, _, ⟨q / 2, ((m.set (q + 1) (g31 m (q / 2), g32 m (q / 2), g33 m (q / 2))).set (q / 2) (g31 m (q + 1), g32 m (q + 1), g33 m (q + 1))), by omega, (by rw [List.length_set, List.length_set]; exact hml), by omega, (by rw [← hup]; exact (upH_y hltv).symm), rfl, rfl⟩, (Abs.byG hbel_k1 [] rfl [0] (by decide) ?_).le hle_k1⟩
      exact absRf (jn @List.length_set.{0} (jn @r3_append (jn @r3_cons (jn @r3_nil @mvs_r3))))
    have hfinP : m = pushH (R.take n) (x, y, c) := by rw [← hup]; exact (upH_n (of_decide_eq_false (by assumption))).symm
    refine runTf g'5 ?_
    refine hQ _ _ ((end_put (b1 := .cells true 0 [.sl (some (K1.length, 0)) m.length none]) (.cells true 0 [.sl (some (K1.length, 0)) m.length none]) (l1 := [.cells true 3 (r3 m)]) (l2 := [.cells true 3 (r3 m)]) (by first | exact .inl rfl | exact .inr rfl) hbel_k1 hblz_k1 (by first | rfl | simp) (x1 := .tup []) (.tup []) (resT Try.results53) [] rfl [0] (by decide) ⟨rfl, by rw [hK1, List.length_set, hfinP, pushH_len, htl]⟩ ?_).le hle_k1)
    exact absWf @mvs_r3
  have hi0 : i = 0 := by omega
  have hfinP : m = pushH (R.take n) (x, y, c) := by rw [← hup, hi0]; rfl
  refine runTf g'6 ?_
  refine hQ _ _ ((end_put (b1 := .cells true 0 [.sl (some (K1.length, 0)) m.length none]) (.cells true 0 [.sl (some (K1.length, 0)) m.length none]) (l1 := [.cells true 3 (r3 m)]) (l2 := [.cells true 3 (r3 m)]) (by first | exact .inl rfl | exact .inr rfl) hbel_k1 hblz_k1 (by first | rfl | simp) (x1 := .tup []) (.tup []) (resT Try.results53) [] rfl [0] (by decide) ⟨rfl, by rw [hK1, List.length_set, hfinP, pushH_len, htl]⟩ ?_).le hle_k1)
  exact absWf @mvs_r3
theorem pop_c (H : AHeap) (R : List T3) (n : Nat) (ba bz : Nat) (ha : H[ba]? = some (.cells true 3 (r3 R))) (hz : H[bz]? = some (.cells true 0 [.sl (some (ba, 0)) (n + 1) none])) (hnR : n + 1 ≤ R.length) (hRl : R.length ≤ 1000000) : ACalls Try.prog 52 [.ptr (some (bz, 0))] H (fun v H' => v = .agg [iV (g31 R 0), iV (g32 R 0), iV (g33 R 0)] ∧ H' = (H.set ba (.cells true 3 (r3 (popR (n + 1) R)))).set bz (.cells true 0 [.sl (some (ba, 0)) n none])) := by
  have hba := ha
  have hbz := hz
  have hbla := getElem?_lt hba
  have hblz := getElem?_lt hbz
  have hb0a := fun l => get_app (l := l) hba
  have hb0z := fun l => get_app (l := l) hbz
  have hne : ba ≠ bz := fun e => by subst e; rw [ha] at hz; simp at hz
  have hne' : bz ≠ ba := fun e => hne e.symm
  have hsfn : ((n + 1 : Nat) : Int) - 1 = ((n : Nat) : Int) := by omega
  refine AcT true Try.func52 ?_; intro hbel Q hQ
  have q1 := r3_load0 (l := R) (by omega)
  have q2 := r3_load (l := R) (j := n) (by omega)
  have g'7 := (jn @r3_len (jn q1 (jn q2 (jn @r3_set (jn @r3_set0 (jn @List.length_set.{0} (jn @r3_one (jn @hba (jn @hb0a (jn @hbz (jn @hb0z (jn @hbla (jn @hblz (jn @put_put (jn @put_old (jn @get_put (jn @get_put0 (jn @get_pk (jn @get_p0 (jn @set_pk (jn @set_p0 (jn @List.set_set.{0} (jn @r3_sets (jn @r3_sets2 @hsfn))))))))))))))))))))))))
  refine runTf g'7 ?_
  obtain ⟨K1, hK1⟩ : ∃ K, K = H.set ba (.cells true 3 (r3 (R.set 0 (g31 R n, g32 R n, g33 R n)))) := ⟨_, rfl⟩
  rw [← hK1]
  have hKl1 := rb_len hK1
  try simp only [show ∀ k, H.length + k = K1.length + k from fun k => by rw [hKl1], show ∀ o : Nat, (some (H.length, o) : Option (Nat × Nat)) = some (K1.length, o) from fun o => by rw [hKl1]]
  have hbel_k1 := rb_bel hK1 hbel (by first | rfl | exact bels_r3 | (simp only [ABlk.bel, AV.bels, AV.bel, Bool.and_true, decide_eq_true_eq]; omega))
  have hba_k1 := rb_new hK1 hbla
  have hbla_k1 := getElem?_lt hba_k1
  have hb0a_k1 := fun l => get_app (l := l) hba_k1
  have hbz_k1 := rb_old hK1 (by assumption) hbz
  have hblz_k1 := getElem?_lt hbz_k1
  have hb0z_k1 := fun l => get_app (l := l) hbz_k1
  have hle_k1 : H.length ≤ K1.length := rb_le hK1 (Nat.le_refl _)
  refine glp (fun k F Hx => ∃ i : Nat, ∃ m : List T3, ∃ HP0 : AHeap, i + k = n + 1 ∧ HP0 = K1.set ba (.cells true 3 (r3 m)) ∧ m.length = R.length ∧ i ≤ n ∧ dnH n n i m = popR (n + 1) R ∧ F = [(0, .ptr (some (bz, 0))), (2, .ptr (some (HP0.length, 0))), (3, .sl (some (ba, 0)) n none), (4, .ptr (some (HP0.length + 1, 0))), (5, iV ((i : Nat) : Int))] ∧ Hx = HP0 ++ [.cells true 0 [iV 0, iV 0, iV 0], .cells true 0 [iV (g31 R 0), iV (g32 R 0), iV (g33 R 0)]]) (n + 1) ?_ ?_
  · refine ⟨_, _, _, ⟨0, R.set 0 (g31 R n, g32 R n, g33 R n), K1, by omega, rb_self hba_k1, List.length_set, Nat.zero_le _, rfl, rfl, rfl⟩, (Abs.byG hbel_k1 [] rfl [0, 1] (by decide) ?_).le hle_k1⟩
    exact absW
  rintro k0 F Hx ⟨i, m, HP0, hm0, hP0, hml, hin, hdn, rfl, rfl⟩ J0 hJ0
  have hbel_p0 := rb_bel hP0 hbel_k1 (by first | rfl | exact bels_r3 | (simp only [ABlk.bel, AV.bels, AV.bel, Bool.and_true, decide_eq_true_eq]; omega))
  have hba_p0 := rb_new hP0 hbla_k1
  have hbla_p0 := getElem?_lt hba_p0
  have hb0a_p0 := fun l => get_app (l := l) hba_p0
  have hbz_p0 := rb_old hP0 (by assumption) hbz_k1
  have hblz_p0 := getElem?_lt hbz_p0
  have hb0z_p0 := fun l => get_app (l := l) hbz_p0
  have hle_p0 : H.length ≤ HP0.length := rb_le hP0 hle_k1
  have hsf2 : 2 * ((i : Nat) : Int) = ((2 * i : Nat) : Int) := by omega
  have g'8 := (jn @r3_len (jn q1 (jn q2 (jn @r3_set (jn @r3_set0 (jn @List.length_set.{0} (jn @r3_one (jn @hsf2 (jn @hba_p0 (jn @hb0a_p0 (jn @hbz_p0 (jn @hb0z_p0 (jn @hbla_p0 (jn @hblz_p0 (jn @put_put (jn @put_old (jn @get_put (jn @get_put0 (jn @get_pk (jn @get_p0 (jn @set_pk (jn @set_p0 (jn @List.set_set.{0} (jn @r3_sets (jn @r3_sets2 @hsfn)))))))))))))))))))))))))
  refine runTf g'8 ?_
  refine glp (fun k F Hx => ∃ q : Nat, ∃ kk : Nat, q + k = 2 ∧ kk = minK m n i q ∧ ((kk = i ∨ i < kk ∧ kk < n)) ∧ F = [(0, .ptr (some (bz, 0))), (2, .ptr (some (HP0.length, 0))), (3, .sl (some (ba, 0)) n none), (4, .ptr (some (HP0.length + 1, 0))), (5, iV ((i : Nat) : Int)), (6, iV ((kk : Nat) : Int)), (35, .agg [iV ((2 * i + 1 : Nat) : Int), iV ((2 * i + 2 : Nat) : Int)]), (36, iV ((q : Nat) : Int))] ∧ Hx = HP0 ++ [.cells true 0 [iV 0, iV 0, iV 0], .cells true 0 [iV (g31 R 0), iV (g32 R 0), iV (g33 R 0)]]) (2) ?_ ?_
  · refine ⟨_, _, _, ⟨0, i, by omega, rfl, (.inl rfl), rfl, rfl⟩, (Abs.byG hbel_p0 [] rfl [0, 1] (by decide) ?_).le hle_p0⟩
    exact absW
  rintro k1 F Hx ⟨q, kk, hm1, hkk, hkb, rfl, rfl⟩ J1 hJ1
  refine rcs g'8 (fun h3 h3d _ => ?_) (fun h3 h3d g'19 => ?_)
  · obtain rfl | rfl := (by omega : q = 0 ∨ q = 1)
    · have g'9 := j2 h3 h3d g'8
      refine rgs g'9 (fun h4 h4d _ => ?_) (fun h4 h4d g'13 => ?_)
      · have hc0 : 2 * i + 1 + 0 < n := by omega
        have q5 := r3_at2 (l := m) (j := 2 * i + 1) (by omega)
        have q6 := r3_at2 (l := m) (j := kk) (by omega)
        have g'10 := (jn h4 (jn h4d (jn q5 (jn q6 g'9))))
        refine rcs g'10 (fun h7 h7d g'11 => ?_) (fun h7 h7d g'12 => ?_)
        · have hmk := minK_y hkk hc0 (of_decide_eq_true (by assumption))
          refine runTf g'11 ?_
          refine hJ1 _ _ ⟨k1 - 1, by omega, _, _, _, ⟨0 + 1, 2 * i + 1, by omega, hmk, (.inr (by omega)), rfl, rfl⟩, (Abs.byG hbel_p0 [] rfl [0, 1] (by decide) ?_).le hle_p0⟩
          exact absW
        have hno : ¬ (2 * i + 1 + 0 < n ∧ g33 m (2 * i + 1 + 0) < g33 m kk) := fun q => absurd q.2 (of_decide_eq_false (by assumption))
        refine runTf g'12 ?_
        refine hJ1 _ _ ⟨k1 - 1, by omega, _, _, _, ⟨0 + 1, kk, by omega, (minK_n hkk hno), hkb, rfl, rfl⟩, (Abs.byG hbel_p0 [] rfl [0, 1] (by decide) ?_).le hle_p0⟩
        exact absW
      have hno : ¬ (2 * i + 1 + 0 < n ∧ g33 m (2 * i + 1 + 0) < g33 m kk) := fun q => by omega
      refine runTf g'13 ?_
      refine hJ1 _ _ ⟨k1 - 1, by omega, _, _, _, ⟨0 + 1, kk, by omega, (minK_n hkk hno), hkb, rfl, rfl⟩, (Abs.byG hbel_p0 [] rfl [0, 1] (by decide) ?_).le hle_p0⟩
      exact absW
    have g'14 := j2 h3 h3d g'8
    refine rgs g'14 (fun h8 h8d _ => ?_) (fun h8 h8d g'18 => ?_)
    · have hc0 : 2 * i + 1 + 1 < n := by omega
      have q9 := r3_at2 (l := m) (j := 2 * i + 2) (by omega)
      have q10 := r3_at2 (l := m) (j := kk) (by omega)
      have g'15 := (jn h8 (jn h8d (jn q9 (jn q10 g'14))))
      refine rcs g'15 (fun h11 h11d g'16 => ?_) (fun h11 h11d g'17 => ?_)
      · have hmk := minK_y hkk hc0 (of_decide_eq_true (by assumption))
        refine runTf g'16 ?_
        refine hJ1 _ _ ⟨k1 - 1, by omega, _, _, _, ⟨1 + 1, 2 * i + 2, by omega, hmk, (.inr (by omega)), rfl, rfl⟩, (Abs.byG hbel_p0 [] rfl [0, 1] (by decide) ?_).le hle_p0⟩
        exact absW
      have hno : ¬ (2 * i + 1 + 1 < n ∧ g33 m (2 * i + 1 + 1) < g33 m kk) := fun q => absurd q.2 (of_decide_eq_false (by assumption))
      refine runTf g'17 ?_
      refine hJ1 _ _ ⟨k1 - 1, by omega, _, _, _, ⟨1 + 1, kk, by omega, (minK_n hkk hno), hkb, rfl, rfl⟩, (Abs.byG hbel_p0 [] rfl [0, 1] (by decide) ?_).le hle_p0⟩
      exact absW
    have hno : ¬ (2 * i + 1 + 1 < n ∧ g33 m (2 * i + 1 + 1) < g33 m kk) := fun q => by omega
    refine runTf g'18 ?_
    refine hJ1 _ _ ⟨k1 - 1, by omega, _, _, _, ⟨1 + 1, kk, by omega, (minK_n hkk hno), hkb, rfl, rfl⟩, (Abs.byG hbel_p0 [] rfl [0, 1] (by decide) ?_).le hle_p0⟩
    exact absW
  obtain rfl : q = 2 := by omega
  have hkE : kk = minH m n i := hkk
  refine rcs g'19 (fun h12 h12d _ => ?_) (fun h12 h12d _ => ?_)
  · have h12n := bnT h12
    have hki : kk = i := by have := eq_of_beq h12; omega
    have hfinP : m = popR (n + 1) R := by rw [← hdn]; exact (dnH_n (hkE.symm.trans hki)).symm
    have g'20 := (jn h12 (jn h12n (jn @int_bne (jn @int_beq g'19))))
    refine runTf g'20 ?_
    obtain ⟨K2, hK2⟩ : ∃ K, K = HP0.set bz (.cells true 0 [.sl (some (ba, 0)) n none]) := ⟨_, rfl⟩
    rw [← hK2]
    have hKl2 := rb_len hK2
    try simp only [show ∀ k, HP0.length + k = K2.length + k from fun k => by rw [hKl2], show ∀ o : Nat, (some (HP0.length, o) : Option (Nat × Nat)) = some (K2.length, o) from fun o => by rw [hKl2]]
    have hbel_k2 := rb_bel hK2 hbel_p0 (by first | rfl | exact bels_r3 | (simp only [ABlk.bel, AV.bels, AV.bel, Bool.and_true, decide_eq_true_eq]; omega))
    have hba_k2 := rb_old hK2 (by assumption) hba_p0
    have hbla_k2 := getElem?_lt hba_k2
    have hb0a_k2 := fun l => get_app (l := l) hba_k2
    have hbz_k2 := rb_new hK2 hblz_p0
    have hblz_k2 := getElem?_lt hbz_k2
    have hb0z_k2 := fun l => get_app (l := l) hbz_k2
    have hle_k2 : H.length ≤ K2.length := rb_le hK2 hle_p0
    exact hQ _ _ ((end_plain (.inl rfl) hbel_k2 (x := .agg [iV (g31 R 0), iV (g32 R 0), iV (g33 R 0)]) (resT Try.results52) rfl ⟨rfl, by rw [hK2, hP0, hK1, hfinP]; simp only [List.set_set]⟩).le hle_k2)
  have h12n := bnT h12
  have hki : kk ≠ i := fun q => by rw [q] at h12; simp at h12
  have hkn : kk < n := by omega
  have hkm : minH m n i ≠ i := fun q => hki (hkE.trans q)
  have hkl := minH_lt hkm
  have hdn2 := dnH_y hkm
  have q13 := r3_load (l := m) (j := kk) (by omega)
  have q14 := r3_load (l := m) (j := i) (by omega)
  have g'21 := (jn h12 (jn h12n (jn @int_bne (jn @int_beq (jn q13 (jn q14 g'19))))))
  refine runTf g'21 ?_
  obtain ⟨K3, hK3⟩ : ∃ K, K = HP0.set ba (.cells true 3 (r3 ((m.set i (g31 m kk, g32 m kk, g33 m kk)).set kk (g31 m i, g32 m i, g33 m i)))) := ⟨_, rfl⟩
  rw [← hK3]
  have hKl3 := rb_len hK3
  try simp only [show ∀ k, HP0.length + k = K3.length + k from fun k => by rw [hKl3], show ∀ o : Nat, (some (HP0.length, o) : Option (Nat × Nat)) = some (K3.length, o) from fun o => by rw [hKl3]]
  have hbel_k3 := rb_bel hK3 hbel_p0 (by first | rfl | exact bels_r3 | (simp only [ABlk.bel, AV.bels, AV.bel, Bool.and_true, decide_eq_true_eq]; omega))
  have hba_k3 := rb_new hK3 hbla_p0
  have hbla_k3 := getElem?_lt hba_k3
  have hb0a_k3 := fun l => get_app (l := l) hba_k3
  have hbz_k3 := rb_old hK3 (by assumption) hbz_p0
  have hblz_k3 := getElem?_lt hbz_k3
  have hb0z_k3 := fun l => get_app (l := l) hbz_k3
  have hle_k3 : H.length ≤ K3.length := rb_le hK3 hle_p0
  refine hJ0 _ _ ⟨n + 1 - kk, by omega, _, _, _, ⟨kk, ((m.set i (g31 m kk, g32 m kk, g33 m kk)).set kk (g31 m i, g32 m i, g33 m i)), K3, by omega, (by rw [hK3, hP0]; simp only [List.set_set]), (by rw [List.length_set, List.length_set]; exact hml), by omega, (by rw [← hdn, hdn2, hkE]; rfl), rfl, rfl⟩, (Abs.byG hbel_k3 [] rfl [0, 1] (by decide) ?_).le hle_k3⟩
  exact absW
theorem pop_k (H : AHeap) (R : List T3) (n : Nat) (ba bz : Nat) (ha : H[ba]? = some (.cells true 3 (r3 R))) (hz : H[bz]? = some (.cells true 0 [.sl (some (ba, 0)) n none])) (hnR : n ≤ R.length) (hRl : R.length ≤ 1000000) (h0 : 0 < n) :
    ACalls Try.prog 52 [.ptr (some (bz, 0))] H (fun v H' => v = .agg [iV (g31 R 0), iV (g32 R 0), iV (g33 R 0)] ∧ H' = (H.set ba (.cells true 3 (r3 (popR n R)))).set bz (.cells true 0 [.sl (some (ba, 0)) (n - 1) none])) := by
  cases n with
  | zero => omega
  | succ n => exact pop_c H R n ba bz ha hz hnR hRl
theorem pcosts_c (H : AHeap) (W Hh : Int) (pp : AV) (xs : List Int) (gx gy : Int) (hpp : Sl H 1 pp xs.length (ints .u8 xs)) (hV : Vld W Hh xs) (hg : isB W Hh xs gx gy 1 = true) : ACalls Try.prog 37 [.agg [iV W, iV Hh, pp], .agg [iV gx, iV gy]] H (fun v H' => v = .sl (some (H.length, 0)) ((costL W Hh xs (gx, gy)).length) none ∧ H' = H ++ [.cells true 1 (ints .i64 (costL W Hh xs (gx, gy)))]) := by
  obtain ⟨bpp, opp, cpp, rfl, hbpp⟩ := hpp
  have hblpp := getElem?_lt hbpp
  have hb0pp := fun l => get_app (l := l) hbpp
  have hwh := mul_le_64 (a := W) (b := Hh) (by have := hV.w0; omega) hV.w1 (by have := hV.h0; omega) hV.h1
  have hsfl : W * Hh = ((xs.length : Nat) : Int) := hV.len.symm
  have hgi := hV.idx (isB_in hg)
  have hgn := inB_iff.1 (isB_in hg)
  have hWb := hV.w1
  have hHb := hV.h1
  have hDz := dij0 (goal := (gx, gy)) hV.len hg
  refine AcT true Try.func37 ?_; intro hbel Q hQ
  have g'1 := (jn @hbpp (jn @hb0pp @hsfl))
  refine runTf g'1 ?_
  refine cvr g'1 (rept_c _ _ xs.length (slA) (by omega) (by omega)) ?_
  have hmz : 9 * (xs.length - nd (List.replicate xs.length (-1))) + 1 = 9 * xs.length + 1 := by rw [nd_rep]; rfl
  refine glp (fun k F Hx => ∃ L : List Int, ∃ R : List T3, ∃ n : Nat, ∃ v : Pt, 9 * (xs.length - nd L) + n = k ∧ Dij W Hh xs (gx, gy) L (R.take n) v 8 ∧ HO n R ∧ n ≤ R.length ∧ R.length ≤ 40000 ∧ 9 * (xs.length - nd L) + n ≤ 36865 ∧ F = [(2, .ptr (some (H.length, 0))), (5, .sl (some (H.length + 3, 0)) L.length none), (6, .ptr (some (H.length + 2, 0)))] ∧ Hx = H ++ [.cells true 0 [iV W, iV Hh, .sl (some (bpp, 0)) xs.length cpp], .cells true 3 (r3 R), .cells true 0 [.sl (some (H.length + 1, 0)) n none], .cells true 1 (ints .i64 L)]) (9 * xs.length + 1) ?_ ?_
  · refine ⟨_, _, _, ⟨List.replicate xs.length (-1), [(gx, gy, 0)], 1, (gx, gy), by first | exact hmz | rfl, hDz, (fun j h1 h2 => by omega), Nat.le_refl _, (by show 1 ≤ 40000; omega), (by rw [hmz]; omega), rfl, rfl⟩, bS hbel [0, 4, 5, 3] (absRf (jn @List.length_replicate.{0} (jn @r3_cons (jn @r3_nil (jn @r3_append @mvs_r3)))))⟩
  rintro k0 F Hx ⟨L, R, n, v, hm0, D, hHO, hnR, hRl, hkb, rfl, rfl⟩ J0 hJ0
  have hLl : L.length = xs.length := by have := D.len; omega
  have hndl := nd_le L
  have g'2 := (jn @r3_len (jn @r3_one (jn @ints_len (jn @ints_ones g'1))))
  refine rcs g'2 (fun h1 h1d g'3 => ?_) (fun h1 h1d g'48 => ?_)
  · have hn0 : 0 < n := by omega
    obtain ⟨hpo, hpP, hpm, hpx⟩ := pop_ok2 hn0 hnR hHO
    have hpl := popR_len (n := n) (l := R)
    obtain ⟨he1, he2, -⟩ := D.ent _ hpm
    have he1 : isB W Hh xs (g31 R 0) (g32 R 0) 1 = true := he1
    have hei := isB_in he1
    have hib := hV.idx hei
    have hein := inB_iff.1 hei
    have hbde : g33 R 0 ≤ 99 * (nd L : Int) := D.bde _ hpm
    have he2 : 0 ≤ g33 R 0 := he2
    have hR0 : 0 < R.length := by omega
    refine runTf g'3 ?_
    refine cv (pop_k _ R n (H.length + 1) _ (by first | rfl | (rw [get_newk]; rfl) | (rw [get_new0]; rfl)) (by first | rfl | (rw [get_newk]; rfl) | (rw [get_new0]; rfl)) (by omega) (by omega) (by omega)) ?_
    have q2 := ints_get (k := .i64) (xs := L) (j := (((g32 R 0) * W) + (g31 R 0)).toNat) (by omega)
    have g'4 := (jn q2 g'3)
    refine rcs g'4 (fun h3 h3d g'5 => ?_) (fun h3 h3d _ => ?_)
    · have hDo := dij_old D hpP (show 0 ≤ lv L W (g31 R 0, g32 R 0) from h3d)
      refine runTf g'5 ?_
      refine hJ0 _ _ ⟨9 * (xs.length - nd L) + (n - 1), by omega, _, _, _, ⟨L, popR n R, n - 1, v, by first | exact hmz | rfl, hDo, hpo, (by rw [hpl]; omega), (by rw [hpl]; exact hRl), (by omega), rfl, rfl⟩, bS hbel [0, 1, 2, 3] (absRf (jn @r3_append (jn @r3_cons (jn @r3_nil @mvs_r3))))⟩
    have hng : ¬ 0 ≤ lv L W (g31 R 0, g32 R 0) := h3d
    have hDn : Dij W Hh xs (gx, gy) (L.set (((g32 R 0) * W) + (g31 R 0)).toNat (g33 R 0)) ((popR n R).take (n - 1)) (g31 R 0, g32 R 0) 0 := dij_new D hpP hpx hng
    have hndn : nd (L.set (((g32 R 0) * W) + (g31 R 0)).toNat (g33 R 0)) = nd L + 1 := nd_set (by omega) (show gi L (((g32 R 0) * W) + (g31 R 0)).toNat < 0 from Int.not_le.1 hng) he2
    have hlvn : lv (L.set (((g32 R 0) * W) + (g31 R 0)).toNat (g33 R 0)) W (g31 R 0, g32 R 0) = g33 R 0 := by rw [show (((g32 R 0) * W) + (g31 R 0)).toNat = ixc W (g31 R 0, g32 R 0) from rfl, lv_set D.len hei hei, if_pos rfl]
    have g'6 := (jn h3 (jn h3d (jn @ints_set1 (jn @List.length_set.{0} g'4))))
    refine runTf g'6 ?_
    refine cvr g'6 (turns_c _) ?_
    refine glp (fun k F Hx => ∃ q : Nat, ∃ R1 : List T3, ∃ n1 : Nat, ∃ L2 : List Int, q + k = 8 ∧ Dij W Hh xs (gx, gy) L2 (R1.take n1) (g31 R 0, g32 R 0) q ∧ HO n1 R1 ∧ n1 ≤ R1.length ∧ R1.length ≤ 40000 ∧ lv L2 W (g31 R 0, g32 R 0) = g33 R 0 ∧ nd L2 = nd L + 1 ∧ n1 ≤ n - 1 + q ∧ F = [(2, .ptr (some (H.length, 0))), (5, .sl (some (H.length + 4, 0)) L2.length none), (6, .ptr (some (H.length + 2, 0))), (7, .ptr (some (H.length + 3, 0))), (48, .agg [iV 1, iV 0, iV 1, iV 1, iV 0, iV 1, iV (-1), iV 1, iV (-1), iV 0, iV (-1), iV (-1), iV 0, iV (-1), iV 1, iV (-1)]), (49, iV ((q : Nat) : Int))] ∧ Hx = H ++ [.cells true 0 [iV W, iV Hh, .sl (some (bpp, 0)) xs.length cpp], .cells true 3 (r3 R1), .cells true 0 [.sl (some (H.length + 1, 0)) n1 none], .cells true 0 [iV (g31 R 0), iV (g32 R 0), iV (g33 R 0)], .cells true 1 (ints .i64 L2)]) (8) ?_ ?_
    · refine ⟨_, _, _, ⟨0, popR n R, n - 1, L.set (((g32 R 0) * W) + (g31 R 0)).toNat (g33 R 0), by omega, hDn, hpo, (by rw [hpl]; omega), (by rw [hpl]; exact hRl), hlvn, hndn, (by omega), rfl, rfl⟩, bS hbel [0, 1, 2, 4, 3] (absRf (jn @List.length_set.{0} (jn @r3_append (jn @r3_cons (jn @r3_nil @mvs_r3)))))⟩
    rintro k1 F Hx ⟨q, R1, n1, L2, hm1, D1, hHO1, hnR1, hRl1, hlv1, hnd1, hct, rfl, rfl⟩ J1 hJ1
    have hL2 : L2.length = xs.length := by have := D1.len; omega
    have hnd2 := nd_le L2
    refine rcs g'6 (fun h4 h4d _ => ?_) (fun h4 h4d g'47 => ?_)
    · obtain rfl | rfl | rfl | rfl | rfl | rfl | rfl | rfl := (by omega : q = 0 ∨ q = 1 ∨ q = 2 ∨ q = 3 ∨ q = 4 ∨ q = 5 ∨ q = 6 ∨ q = 7)
      · have g'7 := j2 h4 h4d g'6
        refine runTf g'7 ?_
        refine cv (pcost_c _ W _ _ xs _ _ 1 0 (⟨_, _, _, rfl, by first | exact hb0pp _ | exact hbpp⟩) hV (by omega) (by omega) (by omega) (by omega)) ?_
        refine rgs g'7 (fun h5 h5d _ => ?_) (fun h5 h5d g'11 => ?_)
        · have hsk : 0 ≤ stk W Hh xs (g31 R 0, g32 R 0) 0 := of_decide_eq_true (by assumption)
          have hcn : cstN W Hh xs (g31 R 0) (g32 R 0) 1 0 = stk W Hh xs (g31 R 0, g32 R 0) 0 := if_pos hsk
          have hsi := stk_in hsk
          have hib2 := hV.idx (show inB W Hh (g31 R 0 + 1) (g32 R 0 + 0) = true from hsi.2.1)
          have hin2 := inB_iff.1 (show inB W Hh (g31 R 0 + 1) (g32 R 0 + 0) = true from hsi.2.1)
          have q6 := ints_get (k := .i64) (xs := L2) (j := ((((g32 R 0) + 0) * W) + ((g31 R 0) + 1)).toNat) (by omega)
          have g'8 := (jn h5 (jn h5d (jn q6 g'7)))
          refine rcs g'8 (fun h7 h7d g'9 => ?_) (fun h7 h7d g'10 => ?_)
          · obtain ⟨hpo1, hpo2, hpo3⟩ := push_ok2 (v := ((g31 R 0) + 1, (g32 R 0) + 0, (g33 R 0) + (cstN W Hh xs (g31 R 0) (g32 R 0) 1 0))) hnR1 hHO1
            have hpe : lv L2 W (g31 R 0, g32 R 0) + stk W Hh xs (g31 R 0, g32 R 0) 0 = (g33 R 0) + (cstN W Hh xs (g31 R 0) (g32 R 0) 1 0) := by rw [hcn, hlv1]
            have hDp := dij_push (hp2 := (pushH (R1.take n1) ((g31 R 0) + 1, (g32 R 0) + 0, (g33 R 0) + (cstN W Hh xs (g31 R 0) (g32 R 0) 1 0))).take (n1 + 1)) D1 (by omega) (by rw [hlv1]; exact he2) hsk (by rw [hpe]; exact hpo2)
            refine runTf g'9 ?_
            refine cvr g'9 (push_c _ R1 n1 (H.length + 1) _ _ _ _ (by first | rfl | (rw [get_newk]; rfl) | (rw [get_new0]; rfl)) (by first | rfl | (rw [get_newk]; rfl) | (rw [get_new0]; rfl)) (by omega) (by omega)) ?_
            refine hJ1 _ _ ⟨k1 - 1, by omega, _, _, _, ⟨0 + 1, pushH (List.take n1 R1) ((g31 R 0) + 1, (g32 R 0) + 0, (g33 R 0) + (cstN W Hh xs (g31 R 0) (g32 R 0) 1 0)), n1 + 1, L2, by omega, hDp, hpo1, (by rw [hpo3]; exact Nat.le_refl _), (by rw [hpo3]; omega), hlv1, hnd1, (by omega), rfl, rfl⟩, bS hbel [0, 7, 2, 3, 4] (absRf (jn @r3_append (jn @r3_cons (jn @r3_nil @mvs_r3))))⟩
          have hnp : ¬ (0 ≤ stk W Hh xs (g31 R 0, g32 R 0) 0 ∧ lv L2 W (to (g31 R 0, g32 R 0) 0) < 0) := fun q => absurd q.2 (of_decide_eq_false (by assumption))
          refine runTf g'10 ?_
          refine hJ1 _ _ ⟨k1 - 1, by omega, _, _, _, ⟨0 + 1, R1, n1, L2, by omega, (dij_skip D1 hnp), hHO1, hnR1, hRl1, hlv1, hnd1, (by omega), rfl, rfl⟩, bS hbel [0, 1, 2, 3, 4] (absRf (jn @r3_append (jn @r3_cons (jn @r3_nil @mvs_r3))))⟩
        have hnp : ¬ (0 ≤ stk W Hh xs (g31 R 0, g32 R 0) 0 ∧ lv L2 W (to (g31 R 0, g32 R 0) 0) < 0) := fun q => absurd q.1 (of_decide_eq_false (by assumption))
        refine runTf g'11 ?_
        refine hJ1 _ _ ⟨k1 - 1, by omega, _, _, _, ⟨0 + 1, R1, n1, L2, by omega, (dij_skip D1 hnp), hHO1, hnR1, hRl1, hlv1, hnd1, (by omega), rfl, rfl⟩, bS hbel [0, 1, 2, 3, 4] (absRf (jn @r3_append (jn @r3_cons (jn @r3_nil @mvs_r3))))⟩
      · have g'12 := j2 h4 h4d g'6
        refine runTf g'12 ?_
        refine cv (pcost_c _ W _ _ xs _ _ 1 1 (⟨_, _, _, rfl, by first | exact hb0pp _ | exact hbpp⟩) hV (by omega) (by omega) (by omega) (by omega)) ?_
        refine rgs g'12 (fun h8 h8d _ => ?_) (fun h8 h8d g'16 => ?_)
        · have hsk : 0 ≤ stk W Hh xs (g31 R 0, g32 R 0) 1 := of_decide_eq_true (by assumption)
          have hcn : cstN W Hh xs (g31 R 0) (g32 R 0) 1 1 = stk W Hh xs (g31 R 0, g32 R 0) 1 := if_pos hsk
          have hsi := stk_in hsk
          have hib2 := hV.idx (show inB W Hh (g31 R 0 + 1) (g32 R 0 + 1) = true from hsi.2.1)
          have hin2 := inB_iff.1 (show inB W Hh (g31 R 0 + 1) (g32 R 0 + 1) = true from hsi.2.1)
          have q9 := ints_get (k := .i64) (xs := L2) (j := ((((g32 R 0) + 1) * W) + ((g31 R 0) + 1)).toNat) (by omega)
          have g'13 := (jn h8 (jn h8d (jn q9 g'12)))
          refine rcs g'13 (fun h10 h10d g'14 => ?_) (fun h10 h10d g'15 => ?_)
          · obtain ⟨hpo1, hpo2, hpo3⟩ := push_ok2 (v := ((g31 R 0) + 1, (g32 R 0) + 1, (g33 R 0) + (cstN W Hh xs (g31 R 0) (g32 R 0) 1 1))) hnR1 hHO1
            have hpe : lv L2 W (g31 R 0, g32 R 0) + stk W Hh xs (g31 R 0, g32 R 0) 1 = (g33 R 0) + (cstN W Hh xs (g31 R 0) (g32 R 0) 1 1) := by rw [hcn, hlv1]
            have hDp := dij_push (hp2 := (pushH (R1.take n1) ((g31 R 0) + 1, (g32 R 0) + 1, (g33 R 0) + (cstN W Hh xs (g31 R 0) (g32 R 0) 1 1))).take (n1 + 1)) D1 (by omega) (by rw [hlv1]; exact he2) hsk (by rw [hpe]; exact hpo2)
            refine runTf g'14 ?_
            refine cvr g'14 (push_c _ R1 n1 (H.length + 1) _ _ _ _ (by first | rfl | (rw [get_newk]; rfl) | (rw [get_new0]; rfl)) (by first | rfl | (rw [get_newk]; rfl) | (rw [get_new0]; rfl)) (by omega) (by omega)) ?_
            refine hJ1 _ _ ⟨k1 - 1, by omega, _, _, _, ⟨1 + 1, pushH (List.take n1 R1) ((g31 R 0) + 1, (g32 R 0) + 1, (g33 R 0) + (cstN W Hh xs (g31 R 0) (g32 R 0) 1 1)), n1 + 1, L2, by omega, hDp, hpo1, (by rw [hpo3]; exact Nat.le_refl _), (by rw [hpo3]; omega), hlv1, hnd1, (by omega), rfl, rfl⟩, bS hbel [0, 7, 2, 3, 4] (absRf (jn @r3_append (jn @r3_cons (jn @r3_nil @mvs_r3))))⟩
          have hnp : ¬ (0 ≤ stk W Hh xs (g31 R 0, g32 R 0) 1 ∧ lv L2 W (to (g31 R 0, g32 R 0) 1) < 0) := fun q => absurd q.2 (of_decide_eq_false (by assumption))
          refine runTf g'15 ?_
          refine hJ1 _ _ ⟨k1 - 1, by omega, _, _, _, ⟨1 + 1, R1, n1, L2, by omega, (dij_skip D1 hnp), hHO1, hnR1, hRl1, hlv1, hnd1, (by omega), rfl, rfl⟩, bS hbel [0, 1, 2, 3, 4] (absRf (jn @r3_append (jn @r3_cons (jn @r3_nil @mvs_r3))))⟩
        have hnp : ¬ (0 ≤ stk W Hh xs (g31 R 0, g32 R 0) 1 ∧ lv L2 W (to (g31 R 0, g32 R 0) 1) < 0) := fun q => absurd q.1 (of_decide_eq_false (by assumption))
        refine runTf g'16 ?_
        refine hJ1 _ _ ⟨k1 - 1, by omega, _, _, _, ⟨1 + 1, R1, n1, L2, by omega, (dij_skip D1 hnp), hHO1, hnR1, hRl1, hlv1, hnd1, (by omega), rfl, rfl⟩, bS hbel [0, 1, 2, 3, 4] (absRf (jn @r3_append (jn @r3_cons (jn @r3_nil @mvs_r3))))⟩
      · have g'17 := j2 h4 h4d g'6
        refine runTf g'17 ?_
        refine cv (pcost_c _ W _ _ xs _ _ 0 1 (⟨_, _, _, rfl, by first | exact hb0pp _ | exact hbpp⟩) hV (by omega) (by omega) (by omega) (by omega)) ?_
        refine rgs g'17 (fun h11 h11d _ => ?_) (fun h11 h11d g'21 => ?_)
        · have hsk : 0 ≤ stk W Hh xs (g31 R 0, g32 R 0) 2 := of_decide_eq_true (by assumption)
          have hcn : cstN W Hh xs (g31 R 0) (g32 R 0) 0 1 = stk W Hh xs (g31 R 0, g32 R 0) 2 := if_pos hsk
          have hsi := stk_in hsk
          have hib2 := hV.idx (show inB W Hh (g31 R 0 + 0) (g32 R 0 + 1) = true from hsi.2.1)
          have hin2 := inB_iff.1 (show inB W Hh (g31 R 0 + 0) (g32 R 0 + 1) = true from hsi.2.1)
          have q12 := ints_get (k := .i64) (xs := L2) (j := ((((g32 R 0) + 1) * W) + ((g31 R 0) + 0)).toNat) (by omega)
          have g'18 := (jn h11 (jn h11d (jn q12 g'17)))
          refine rcs g'18 (fun h13 h13d g'19 => ?_) (fun h13 h13d g'20 => ?_)
          · obtain ⟨hpo1, hpo2, hpo3⟩ := push_ok2 (v := ((g31 R 0) + 0, (g32 R 0) + 1, (g33 R 0) + (cstN W Hh xs (g31 R 0) (g32 R 0) 0 1))) hnR1 hHO1
            have hpe : lv L2 W (g31 R 0, g32 R 0) + stk W Hh xs (g31 R 0, g32 R 0) 2 = (g33 R 0) + (cstN W Hh xs (g31 R 0) (g32 R 0) 0 1) := by rw [hcn, hlv1]
            have hDp := dij_push (hp2 := (pushH (R1.take n1) ((g31 R 0) + 0, (g32 R 0) + 1, (g33 R 0) + (cstN W Hh xs (g31 R 0) (g32 R 0) 0 1))).take (n1 + 1)) D1 (by omega) (by rw [hlv1]; exact he2) hsk (by rw [hpe]; exact hpo2)
            refine runTf g'19 ?_
            refine cvr g'19 (push_c _ R1 n1 (H.length + 1) _ _ _ _ (by first | rfl | (rw [get_newk]; rfl) | (rw [get_new0]; rfl)) (by first | rfl | (rw [get_newk]; rfl) | (rw [get_new0]; rfl)) (by omega) (by omega)) ?_
            refine hJ1 _ _ ⟨k1 - 1, by omega, _, _, _, ⟨2 + 1, pushH (List.take n1 R1) ((g31 R 0) + 0, (g32 R 0) + 1, (g33 R 0) + (cstN W Hh xs (g31 R 0) (g32 R 0) 0 1)), n1 + 1, L2, by omega, hDp, hpo1, (by rw [hpo3]; exact Nat.le_refl _), (by rw [hpo3]; omega), hlv1, hnd1, (by omega), rfl, rfl⟩, bS hbel [0, 7, 2, 3, 4] (absRf (jn @r3_append (jn @r3_cons (jn @r3_nil @mvs_r3))))⟩
          have hnp : ¬ (0 ≤ stk W Hh xs (g31 R 0, g32 R 0) 2 ∧ lv L2 W (to (g31 R 0, g32 R 0) 2) < 0) := fun q => absurd q.2 (of_decide_eq_false (by assumption))
          refine runTf g'20 ?_
          refine hJ1 _ _ ⟨k1 - 1, by omega, _, _, _, ⟨2 + 1, R1, n1, L2, by omega, (dij_skip D1 hnp), hHO1, hnR1, hRl1, hlv1, hnd1, (by omega), rfl, rfl⟩, bS hbel [0, 1, 2, 3, 4] (absRf (jn @r3_append (jn @r3_cons (jn @r3_nil @mvs_r3))))⟩
        have hnp : ¬ (0 ≤ stk W Hh xs (g31 R 0, g32 R 0) 2 ∧ lv L2 W (to (g31 R 0, g32 R 0) 2) < 0) := fun q => absurd q.1 (of_decide_eq_false (by assumption))
        refine runTf g'21 ?_
        refine hJ1 _ _ ⟨k1 - 1, by omega, _, _, _, ⟨2 + 1, R1, n1, L2, by omega, (dij_skip D1 hnp), hHO1, hnR1, hRl1, hlv1, hnd1, (by omega), rfl, rfl⟩, bS hbel [0, 1, 2, 3, 4] (absRf (jn @r3_append (jn @r3_cons (jn @r3_nil @mvs_r3))))⟩
      · have g'22 := j2 h4 h4d g'6
        refine runTf g'22 ?_
        refine cv (pcost_c _ W _ _ xs _ _ _ 1 (⟨_, _, _, rfl, by first | exact hb0pp _ | exact hbpp⟩) hV (by omega) (by omega) (by omega) (by omega)) ?_
        refine rgs g'22 (fun h14 h14d _ => ?_) (fun h14 h14d g'26 => ?_)
        · have hsk : 0 ≤ stk W Hh xs (g31 R 0, g32 R 0) 3 := of_decide_eq_true (by assumption)
          have hcn : cstN W Hh xs (g31 R 0) (g32 R 0) (-1) 1 = stk W Hh xs (g31 R 0, g32 R 0) 3 := if_pos hsk
          have hsi := stk_in hsk
          have hib2 := hV.idx (show inB W Hh (g31 R 0 + (-1)) (g32 R 0 + 1) = true from hsi.2.1)
          have hin2 := inB_iff.1 (show inB W Hh (g31 R 0 + (-1)) (g32 R 0 + 1) = true from hsi.2.1)
          have q15 := ints_get (k := .i64) (xs := L2) (j := ((((g32 R 0) + 1) * W) + ((g31 R 0) + (-1))).toNat) (by omega)
          have g'23 := (jn h14 (jn h14d (jn q15 g'22)))
          refine rcs g'23 (fun h16 h16d g'24 => ?_) (fun h16 h16d g'25 => ?_)
          · obtain ⟨hpo1, hpo2, hpo3⟩ := push_ok2 (v := ((g31 R 0) + (-1), (g32 R 0) + 1, (g33 R 0) + (cstN W Hh xs (g31 R 0) (g32 R 0) (-1) 1))) hnR1 hHO1
            have hpe : lv L2 W (g31 R 0, g32 R 0) + stk W Hh xs (g31 R 0, g32 R 0) 3 = (g33 R 0) + (cstN W Hh xs (g31 R 0) (g32 R 0) (-1) 1) := by rw [hcn, hlv1]
            have hDp := dij_push (hp2 := (pushH (R1.take n1) ((g31 R 0) + (-1), (g32 R 0) + 1, (g33 R 0) + (cstN W Hh xs (g31 R 0) (g32 R 0) (-1) 1))).take (n1 + 1)) D1 (by omega) (by rw [hlv1]; exact he2) hsk (by rw [hpe]; exact hpo2)
            refine runTf g'24 ?_
            refine cvr g'24 (push_c _ R1 n1 (H.length + 1) _ _ _ _ (by first | rfl | (rw [get_newk]; rfl) | (rw [get_new0]; rfl)) (by first | rfl | (rw [get_newk]; rfl) | (rw [get_new0]; rfl)) (by omega) (by omega)) ?_
            refine hJ1 _ _ ⟨k1 - 1, by omega, _, _, _, ⟨3 + 1, pushH (List.take n1 R1) ((g31 R 0) + (-1), (g32 R 0) + 1, (g33 R 0) + (cstN W Hh xs (g31 R 0) (g32 R 0) (-1) 1)), n1 + 1, L2, by omega, hDp, hpo1, (by rw [hpo3]; exact Nat.le_refl _), (by rw [hpo3]; omega), hlv1, hnd1, (by omega), rfl, rfl⟩, bS hbel [0, 7, 2, 3, 4] (absRf (jn @r3_append (jn @r3_cons (jn @r3_nil @mvs_r3))))⟩
          have hnp : ¬ (0 ≤ stk W Hh xs (g31 R 0, g32 R 0) 3 ∧ lv L2 W (to (g31 R 0, g32 R 0) 3) < 0) := fun q => absurd q.2 (of_decide_eq_false (by assumption))
          refine runTf g'25 ?_
          refine hJ1 _ _ ⟨k1 - 1, by omega, _, _, _, ⟨3 + 1, R1, n1, L2, by omega, (dij_skip D1 hnp), hHO1, hnR1, hRl1, hlv1, hnd1, (by omega), rfl, rfl⟩, bS hbel [0, 1, 2, 3, 4] (absRf (jn @r3_append (jn @r3_cons (jn @r3_nil @mvs_r3))))⟩
        have hnp : ¬ (0 ≤ stk W Hh xs (g31 R 0, g32 R 0) 3 ∧ lv L2 W (to (g31 R 0, g32 R 0) 3) < 0) := fun q => absurd q.1 (of_decide_eq_false (by assumption))
        refine runTf g'26 ?_
        refine hJ1 _ _ ⟨k1 - 1, by omega, _, _, _, ⟨3 + 1, R1, n1, L2, by omega, (dij_skip D1 hnp), hHO1, hnR1, hRl1, hlv1, hnd1, (by omega), rfl, rfl⟩, bS hbel [0, 1, 2, 3, 4] (absRf (jn @r3_append (jn @r3_cons (jn @r3_nil @mvs_r3))))⟩
      · have g'27 := j2 h4 h4d g'6
        refine runTf g'27 ?_
        refine cv (pcost_c _ W _ _ xs _ _ _ 0 (⟨_, _, _, rfl, by first | exact hb0pp _ | exact hbpp⟩) hV (by omega) (by omega) (by omega) (by omega)) ?_
        refine rgs g'27 (fun h17 h17d _ => ?_) (fun h17 h17d g'31 => ?_)
        · have hsk : 0 ≤ stk W Hh xs (g31 R 0, g32 R 0) 4 := of_decide_eq_true (by assumption)
          have hcn : cstN W Hh xs (g31 R 0) (g32 R 0) (-1) 0 = stk W Hh xs (g31 R 0, g32 R 0) 4 := if_pos hsk
          have hsi := stk_in hsk
          have hib2 := hV.idx (show inB W Hh (g31 R 0 + (-1)) (g32 R 0 + 0) = true from hsi.2.1)
          have hin2 := inB_iff.1 (show inB W Hh (g31 R 0 + (-1)) (g32 R 0 + 0) = true from hsi.2.1)
          have q18 := ints_get (k := .i64) (xs := L2) (j := ((((g32 R 0) + 0) * W) + ((g31 R 0) + (-1))).toNat) (by omega)
          have g'28 := (jn h17 (jn h17d (jn q18 g'27)))
          refine rcs g'28 (fun h19 h19d g'29 => ?_) (fun h19 h19d g'30 => ?_)
          · obtain ⟨hpo1, hpo2, hpo3⟩ := push_ok2 (v := ((g31 R 0) + (-1), (g32 R 0) + 0, (g33 R 0) + (cstN W Hh xs (g31 R 0) (g32 R 0) (-1) 0))) hnR1 hHO1
            have hpe : lv L2 W (g31 R 0, g32 R 0) + stk W Hh xs (g31 R 0, g32 R 0) 4 = (g33 R 0) + (cstN W Hh xs (g31 R 0) (g32 R 0) (-1) 0) := by rw [hcn, hlv1]
            have hDp := dij_push (hp2 := (pushH (R1.take n1) ((g31 R 0) + (-1), (g32 R 0) + 0, (g33 R 0) + (cstN W Hh xs (g31 R 0) (g32 R 0) (-1) 0))).take (n1 + 1)) D1 (by omega) (by rw [hlv1]; exact he2) hsk (by rw [hpe]; exact hpo2)
            refine runTf g'29 ?_
            refine cvr g'29 (push_c _ R1 n1 (H.length + 1) _ _ _ _ (by first | rfl | (rw [get_newk]; rfl) | (rw [get_new0]; rfl)) (by first | rfl | (rw [get_newk]; rfl) | (rw [get_new0]; rfl)) (by omega) (by omega)) ?_
            refine hJ1 _ _ ⟨k1 - 1, by omega, _, _, _, ⟨4 + 1, pushH (List.take n1 R1) ((g31 R 0) + (-1), (g32 R 0) + 0, (g33 R 0) + (cstN W Hh xs (g31 R 0) (g32 R 0) (-1) 0)), n1 + 1, L2, by omega, hDp, hpo1, (by rw [hpo3]; exact Nat.le_refl _), (by rw [hpo3]; omega), hlv1, hnd1, (by omega), rfl, rfl⟩, bS hbel [0, 7, 2, 3, 4] (absRf (jn @r3_append (jn @r3_cons (jn @r3_nil @mvs_r3))))⟩
          have hnp : ¬ (0 ≤ stk W Hh xs (g31 R 0, g32 R 0) 4 ∧ lv L2 W (to (g31 R 0, g32 R 0) 4) < 0) := fun q => absurd q.2 (of_decide_eq_false (by assumption))
          refine runTf g'30 ?_
          refine hJ1 _ _ ⟨k1 - 1, by omega, _, _, _, ⟨4 + 1, R1, n1, L2, by omega, (dij_skip D1 hnp), hHO1, hnR1, hRl1, hlv1, hnd1, (by omega), rfl, rfl⟩, bS hbel [0, 1, 2, 3, 4] (absRf (jn @r3_append (jn @r3_cons (jn @r3_nil @mvs_r3))))⟩
        have hnp : ¬ (0 ≤ stk W Hh xs (g31 R 0, g32 R 0) 4 ∧ lv L2 W (to (g31 R 0, g32 R 0) 4) < 0) := fun q => absurd q.1 (of_decide_eq_false (by assumption))
        refine runTf g'31 ?_
        refine hJ1 _ _ ⟨k1 - 1, by omega, _, _, _, ⟨4 + 1, R1, n1, L2, by omega, (dij_skip D1 hnp), hHO1, hnR1, hRl1, hlv1, hnd1, (by omega), rfl, rfl⟩, bS hbel [0, 1, 2, 3, 4] (absRf (jn @r3_append (jn @r3_cons (jn @r3_nil @mvs_r3))))⟩
      · have g'32 := j2 h4 h4d g'6
        refine runTf g'32 ?_
        refine cv (pcost_c _ W _ _ xs _ _ _ _ (⟨_, _, _, rfl, by first | exact hb0pp _ | exact hbpp⟩) hV (by omega) (by omega) (by omega) (by omega)) ?_
        refine rgs g'32 (fun h20 h20d _ => ?_) (fun h20 h20d g'36 => ?_)
        · have hsk : 0 ≤ stk W Hh xs (g31 R 0, g32 R 0) 5 := of_decide_eq_true (by assumption)
          have hcn : cstN W Hh xs (g31 R 0) (g32 R 0) (-1) (-1) = stk W Hh xs (g31 R 0, g32 R 0) 5 := if_pos hsk
          have hsi := stk_in hsk
          have hib2 := hV.idx (show inB W Hh (g31 R 0 + (-1)) (g32 R 0 + (-1)) = true from hsi.2.1)
          have hin2 := inB_iff.1 (show inB W Hh (g31 R 0 + (-1)) (g32 R 0 + (-1)) = true from hsi.2.1)
          have q21 := ints_get (k := .i64) (xs := L2) (j := ((((g32 R 0) + (-1)) * W) + ((g31 R 0) + (-1))).toNat) (by omega)
          have g'33 := (jn h20 (jn h20d (jn q21 g'32)))
          refine rcs g'33 (fun h22 h22d g'34 => ?_) (fun h22 h22d g'35 => ?_)
          · obtain ⟨hpo1, hpo2, hpo3⟩ := push_ok2 (v := ((g31 R 0) + (-1), (g32 R 0) + (-1), (g33 R 0) + (cstN W Hh xs (g31 R 0) (g32 R 0) (-1) (-1)))) hnR1 hHO1
            have hpe : lv L2 W (g31 R 0, g32 R 0) + stk W Hh xs (g31 R 0, g32 R 0) 5 = (g33 R 0) + (cstN W Hh xs (g31 R 0) (g32 R 0) (-1) (-1)) := by rw [hcn, hlv1]
            have hDp := dij_push (hp2 := (pushH (R1.take n1) ((g31 R 0) + (-1), (g32 R 0) + (-1), (g33 R 0) + (cstN W Hh xs (g31 R 0) (g32 R 0) (-1) (-1)))).take (n1 + 1)) D1 (by omega) (by rw [hlv1]; exact he2) hsk (by rw [hpe]; exact hpo2)
            refine runTf g'34 ?_
            refine cvr g'34 (push_c _ R1 n1 (H.length + 1) _ _ _ _ (by first | rfl | (rw [get_newk]; rfl) | (rw [get_new0]; rfl)) (by first | rfl | (rw [get_newk]; rfl) | (rw [get_new0]; rfl)) (by omega) (by omega)) ?_
            refine hJ1 _ _ ⟨k1 - 1, by omega, _, _, _, ⟨5 + 1, pushH (List.take n1 R1) ((g31 R 0) + (-1), (g32 R 0) + (-1), (g33 R 0) + (cstN W Hh xs (g31 R 0) (g32 R 0) (-1) (-1))), n1 + 1, L2, by omega, hDp, hpo1, (by rw [hpo3]; exact Nat.le_refl _), (by rw [hpo3]; omega), hlv1, hnd1, (by omega), rfl, rfl⟩, bS hbel [0, 7, 2, 3, 4] (absRf (jn @r3_append (jn @r3_cons (jn @r3_nil @mvs_r3))))⟩
          have hnp : ¬ (0 ≤ stk W Hh xs (g31 R 0, g32 R 0) 5 ∧ lv L2 W (to (g31 R 0, g32 R 0) 5) < 0) := fun q => absurd q.2 (of_decide_eq_false (by assumption))
          refine runTf g'35 ?_
          refine hJ1 _ _ ⟨k1 - 1, by omega, _, _, _, ⟨5 + 1, R1, n1, L2, by omega, (dij_skip D1 hnp), hHO1, hnR1, hRl1, hlv1, hnd1, (by omega), rfl, rfl⟩, bS hbel [0, 1, 2, 3, 4] (absRf (jn @r3_append (jn @r3_cons (jn @r3_nil @mvs_r3))))⟩
        have hnp : ¬ (0 ≤ stk W Hh xs (g31 R 0, g32 R 0) 5 ∧ lv L2 W (to (g31 R 0, g32 R 0) 5) < 0) := fun q => absurd q.1 (of_decide_eq_false (by assumption))
        refine runTf g'36 ?_
        refine hJ1 _ _ ⟨k1 - 1, by omega, _, _, _, ⟨5 + 1, R1, n1, L2, by omega, (dij_skip D1 hnp), hHO1, hnR1, hRl1, hlv1, hnd1, (by omega), rfl, rfl⟩, bS hbel [0, 1, 2, 3, 4] (absRf (jn @r3_append (jn @r3_cons (jn @r3_nil @mvs_r3))))⟩
      · have g'37 := j2 h4 h4d g'6
        refine runTf g'37 ?_
        refine cv (pcost_c _ W _ _ xs _ _ 0 _ (⟨_, _, _, rfl, by first | exact hb0pp _ | exact hbpp⟩) hV (by omega) (by omega) (by omega) (by omega)) ?_
        refine rgs g'37 (fun h23 h23d _ => ?_) (fun h23 h23d g'41 => ?_)
        · have hsk : 0 ≤ stk W Hh xs (g31 R 0, g32 R 0) 6 := of_decide_eq_true (by assumption)
          have hcn : cstN W Hh xs (g31 R 0) (g32 R 0) 0 (-1) = stk W Hh xs (g31 R 0, g32 R 0) 6 := if_pos hsk
          have hsi := stk_in hsk
          have hib2 := hV.idx (show inB W Hh (g31 R 0 + 0) (g32 R 0 + (-1)) = true from hsi.2.1)
          have hin2 := inB_iff.1 (show inB W Hh (g31 R 0 + 0) (g32 R 0 + (-1)) = true from hsi.2.1)
          have q24 := ints_get (k := .i64) (xs := L2) (j := ((((g32 R 0) + (-1)) * W) + ((g31 R 0) + 0)).toNat) (by omega)
          have g'38 := (jn h23 (jn h23d (jn q24 g'37)))
          refine rcs g'38 (fun h25 h25d g'39 => ?_) (fun h25 h25d g'40 => ?_)
          · obtain ⟨hpo1, hpo2, hpo3⟩ := push_ok2 (v := ((g31 R 0) + 0, (g32 R 0) + (-1), (g33 R 0) + (cstN W Hh xs (g31 R 0) (g32 R 0) 0 (-1)))) hnR1 hHO1
            have hpe : lv L2 W (g31 R 0, g32 R 0) + stk W Hh xs (g31 R 0, g32 R 0) 6 = (g33 R 0) + (cstN W Hh xs (g31 R 0) (g32 R 0) 0 (-1)) := by rw [hcn, hlv1]
            have hDp := dij_push (hp2 := (pushH (R1.take n1) ((g31 R 0) + 0, (g32 R 0) + (-1), (g33 R 0) + (cstN W Hh xs (g31 R 0) (g32 R 0) 0 (-1)))).take (n1 + 1)) D1 (by omega) (by rw [hlv1]; exact he2) hsk (by rw [hpe]; exact hpo2)
            refine runTf g'39 ?_
            refine cvr g'39 (push_c _ R1 n1 (H.length + 1) _ _ _ _ (by first | rfl | (rw [get_newk]; rfl) | (rw [get_new0]; rfl)) (by first | rfl | (rw [get_newk]; rfl) | (rw [get_new0]; rfl)) (by omega) (by omega)) ?_
            refine hJ1 _ _ ⟨k1 - 1, by omega, _, _, _, ⟨6 + 1, pushH (List.take n1 R1) ((g31 R 0) + 0, (g32 R 0) + (-1), (g33 R 0) + (cstN W Hh xs (g31 R 0) (g32 R 0) 0 (-1))), n1 + 1, L2, by omega, hDp, hpo1, (by rw [hpo3]; exact Nat.le_refl _), (by rw [hpo3]; omega), hlv1, hnd1, (by omega), rfl, rfl⟩, bS hbel [0, 7, 2, 3, 4] (absRf (jn @r3_append (jn @r3_cons (jn @r3_nil @mvs_r3))))⟩
          have hnp : ¬ (0 ≤ stk W Hh xs (g31 R 0, g32 R 0) 6 ∧ lv L2 W (to (g31 R 0, g32 R 0) 6) < 0) := fun q => absurd q.2 (of_decide_eq_false (by assumption))
          refine runTf g'40 ?_
          refine hJ1 _ _ ⟨k1 - 1, by omega, _, _, _, ⟨6 + 1, R1, n1, L2, by omega, (dij_skip D1 hnp), hHO1, hnR1, hRl1, hlv1, hnd1, (by omega), rfl, rfl⟩, bS hbel [0, 1, 2, 3, 4] (absRf (jn @r3_append (jn @r3_cons (jn @r3_nil @mvs_r3))))⟩
        have hnp : ¬ (0 ≤ stk W Hh xs (g31 R 0, g32 R 0) 6 ∧ lv L2 W (to (g31 R 0, g32 R 0) 6) < 0) := fun q => absurd q.1 (of_decide_eq_false (by assumption))
        refine runTf g'41 ?_
        refine hJ1 _ _ ⟨k1 - 1, by omega, _, _, _, ⟨6 + 1, R1, n1, L2, by omega, (dij_skip D1 hnp), hHO1, hnR1, hRl1, hlv1, hnd1, (by omega), rfl, rfl⟩, bS hbel [0, 1, 2, 3, 4] (absRf (jn @r3_append (jn @r3_cons (jn @r3_nil @mvs_r3))))⟩
      have g'42 := j2 h4 h4d g'6
      refine runTf g'42 ?_
      refine cv (pcost_c _ W _ _ xs _ _ 1 _ (⟨_, _, _, rfl, by first | exact hb0pp _ | exact hbpp⟩) hV (by omega) (by omega) (by omega) (by omega)) ?_
      refine rgs g'42 (fun h26 h26d _ => ?_) (fun h26 h26d g'46 => ?_)
      · have hsk : 0 ≤ stk W Hh xs (g31 R 0, g32 R 0) 7 := of_decide_eq_true (by assumption)
        have hcn : cstN W Hh xs (g31 R 0) (g32 R 0) 1 (-1) = stk W Hh xs (g31 R 0, g32 R 0) 7 := if_pos hsk
        have hsi := stk_in hsk
        have hib2 := hV.idx (show inB W Hh (g31 R 0 + 1) (g32 R 0 + (-1)) = true from hsi.2.1)
        have hin2 := inB_iff.1 (show inB W Hh (g31 R 0 + 1) (g32 R 0 + (-1)) = true from hsi.2.1)
        have q27 := ints_get (k := .i64) (xs := L2) (j := ((((g32 R 0) + (-1)) * W) + ((g31 R 0) + 1)).toNat) (by omega)
        have g'43 := (jn h26 (jn h26d (jn q27 g'42)))
        refine rcs g'43 (fun h28 h28d g'44 => ?_) (fun h28 h28d g'45 => ?_)
        · obtain ⟨hpo1, hpo2, hpo3⟩ := push_ok2 (v := ((g31 R 0) + 1, (g32 R 0) + (-1), (g33 R 0) + (cstN W Hh xs (g31 R 0) (g32 R 0) 1 (-1)))) hnR1 hHO1
          have hpe : lv L2 W (g31 R 0, g32 R 0) + stk W Hh xs (g31 R 0, g32 R 0) 7 = (g33 R 0) + (cstN W Hh xs (g31 R 0) (g32 R 0) 1 (-1)) := by rw [hcn, hlv1]
          have hDp := dij_push (hp2 := (pushH (R1.take n1) ((g31 R 0) + 1, (g32 R 0) + (-1), (g33 R 0) + (cstN W Hh xs (g31 R 0) (g32 R 0) 1 (-1)))).take (n1 + 1)) D1 (by omega) (by rw [hlv1]; exact he2) hsk (by rw [hpe]; exact hpo2)
          refine runTf g'44 ?_
          refine cvr g'44 (push_c _ R1 n1 (H.length + 1) _ _ _ _ (by first | rfl | (rw [get_newk]; rfl) | (rw [get_new0]; rfl)) (by first | rfl | (rw [get_newk]; rfl) | (rw [get_new0]; rfl)) (by omega) (by omega)) ?_
          refine hJ1 _ _ ⟨k1 - 1, by omega, _, _, _, ⟨7 + 1, pushH (List.take n1 R1) ((g31 R 0) + 1, (g32 R 0) + (-1), (g33 R 0) + (cstN W Hh xs (g31 R 0) (g32 R 0) 1 (-1))), n1 + 1, L2, by omega, hDp, hpo1, (by rw [hpo3]; exact Nat.le_refl _), (by rw [hpo3]; omega), hlv1, hnd1, (by omega), rfl, rfl⟩, bS hbel [0, 7, 2, 3, 4] (absRf (jn @r3_append (jn @r3_cons (jn @r3_nil @mvs_r3))))⟩
        have hnp : ¬ (0 ≤ stk W Hh xs (g31 R 0, g32 R 0) 7 ∧ lv L2 W (to (g31 R 0, g32 R 0) 7) < 0) := fun q => absurd q.2 (of_decide_eq_false (by assumption))
        refine runTf g'45 ?_
        refine hJ1 _ _ ⟨k1 - 1, by omega, _, _, _, ⟨7 + 1, R1, n1, L2, by omega, (dij_skip D1 hnp), hHO1, hnR1, hRl1, hlv1, hnd1, (by omega), rfl, rfl⟩, bS hbel [0, 1, 2, 3, 4] (absRf (jn @r3_append (jn @r3_cons (jn @r3_nil @mvs_r3))))⟩
      have hnp : ¬ (0 ≤ stk W Hh xs (g31 R 0, g32 R 0) 7 ∧ lv L2 W (to (g31 R 0, g32 R 0) 7) < 0) := fun q => absurd q.1 (of_decide_eq_false (by assumption))
      refine runTf g'46 ?_
      refine hJ1 _ _ ⟨k1 - 1, by omega, _, _, _, ⟨7 + 1, R1, n1, L2, by omega, (dij_skip D1 hnp), hHO1, hnR1, hRl1, hlv1, hnd1, (by omega), rfl, rfl⟩, bS hbel [0, 1, 2, 3, 4] (absRf (jn @r3_append (jn @r3_cons (jn @r3_nil @mvs_r3))))⟩
    obtain rfl : q = 8 := by omega
    refine runTf g'47 ?_
    refine hJ0 _ _ ⟨9 * (xs.length - nd L2) + n1, by omega, _, _, _, ⟨L2, R1, n1, (g31 R 0, g32 R 0), by first | exact hmz | rfl, D1, hHO1, hnR1, hRl1, (by omega), rfl, rfl⟩, bS hbel [0, 1, 2, 4] (absRf (jn @r3_append (jn @r3_cons (jn @r3_nil @mvs_r3))))⟩
  have hnE : n = 0 := by omega
  have hend : CostP W Hh xs (gx, gy) L := by subst hnE; rw [List.take_zero] at D; exact dij_end D
  have hfin := costL_eq hV.w0 (isB_in hg) hend
  refine runTf g'48 ?_
  refine hQ _ _ (end_byG (.inl rfl) hbel (x1 := .sl (some (H.length + 3, 0)) L.length none) (l2 := [.cells true 1 (ints .i64 L)]) (.sl (some (H.length, 0)) L.length none) (resT Try.results37) [] rfl [3] (by decide) ⟨by rw [hfin], by rw [hfin]⟩ ?_)
  exact absW
theorem pcs_y (H : AHeap) (W Hh : Int) (pp : AV) (xs : List Int) (gx gy : Int) (hpp : Sl H 1 pp xs.length (ints .u8 xs)) (hv : vldB W Hh xs = true) (hg : isB W Hh xs gx gy 1 = true) : ACalls Try.prog 27 [.agg [iV W, iV Hh, pp], .agg [iV gx, iV gy]] H (fun v H' => v = .tup [.sl (some (H.length, 0)) ((costL W Hh xs (gx, gy)).length) none, iV 0] ∧ H' = H ++ [.cells true 1 (ints .i64 (costL W Hh xs (gx, gy)))]) := by
  obtain ⟨bpp, opp, cpp, rfl, hbpp⟩ := hpp
  have hblpp := getElem?_lt hbpp
  have hb0pp := fun l => get_app (l := l) hbpp
  have hV := vld_iff.1 hv
  refine AcT true Try.func27 ?_; intro hbel Q hQ
  have g'1 := (jn @hbpp @hb0pp)
  refine runTf g'1 ?_
  refine cv (valid_a _ W Hh _ xs (.inr ⟨_, _, _, rfl, by first | exact hb0pp _ | exact hbpp⟩)) ?_
  refine rcs g'1 (fun h1 h1d _ => ?_) (fun h1 h1d g'2 => ?_)
  · rw [hv] at h1d; cases h1d
  refine runTf g'2 ?_
  refine cv (pfree_c _ W _ _ xs _ _ (⟨_, _, _, rfl, by first | exact hb0pp _ | exact hbpp⟩) hV) ?_
  refine rcs g'2 (fun h2 h2d _ => ?_) (fun h2 h2d g'3 => ?_)
  · rw [hg] at h2d; cases h2d
  refine runTf g'3 ?_
  refine cvr g'3 (pcosts_c _ W _ _ xs _ _ (⟨_, _, _, rfl, by first | exact hb0pp _ | exact hbpp⟩) hV hg) ?_
  refine hQ _ _ (end_byG (.inl rfl) hbel (x1 := .tup [.sl (some (H.length + 2, 0)) ((costL W Hh xs (gx, gy)).length) none, iV 0]) (l2 := [.cells true 1 (ints .i64 (costL W Hh xs (gx, gy)))]) (.tup [.sl (some (H.length, 0)) ((costL W Hh xs (gx, gy)).length) none, iV 0]) (resT Try.results27) [] rfl [2] (by decide) ⟨rfl, rfl⟩ ?_)
  exact absW
theorem pcs_f (H : AHeap) (W Hh : Int) (pp : AV) (xs : List Int) (gx gy : Int) (hpp : Sl H 1 pp xs.length (ints .u8 xs)) (hv : vldB W Hh xs = true) (hg : isB W Hh xs gx gy 1 = false) : ACalls Try.prog 27 [.agg [iV W, iV Hh, pp], .agg [iV gx, iV gy]] H (fun v H' => v = .tup [.sl none 0 (some 0), iV 7] ∧ H' = H) := by
  obtain ⟨bpp, opp, cpp, rfl, hbpp⟩ := hpp
  have hblpp := getElem?_lt hbpp
  have hb0pp := fun l => get_app (l := l) hbpp
  have hV := vld_iff.1 hv
  refine AcT true Try.func27 ?_; intro hbel Q hQ
  have g'4 := (jn @hbpp @hb0pp)
  refine runTf g'4 ?_
  refine cv (valid_a _ W Hh _ xs (.inr ⟨_, _, _, rfl, by first | exact hb0pp _ | exact hbpp⟩)) ?_
  refine rcs g'4 (fun h1 h1d _ => ?_) (fun h1 h1d g'5 => ?_)
  · rw [hv] at h1d; cases h1d
  refine runTf g'5 ?_
  refine cv (pfree_c _ W _ _ xs _ _ (⟨_, _, _, rfl, by first | exact hb0pp _ | exact hbpp⟩) hV) ?_
  refine rcs g'5 (fun h2 h2d g'6 => ?_) (fun h2 h2d _ => ?_)
  · exact eR g'6 hQ hbel (.tup [.sl none 0 (some 0), iV 7]) Try.results27 ⟨rfl, rfl⟩
  rw [hg] at h2d; cases h2d
theorem pcs_n (H : AHeap) (W Hh : Int) (pp : AV) (xs : List Int) (gx gy : Int) (hpp : Sl H 1 pp xs.length (ints .u8 xs)) (hv : vldB W Hh xs = false) : ACalls Try.prog 27 [.agg [iV W, iV Hh, pp], .agg [iV gx, iV gy]] H (fun v H' => v = .tup [.sl none 0 (some 0), iV 1] ∧ H' = H) := by
  obtain ⟨bpp, opp, cpp, rfl, hbpp⟩ := hpp
  have hblpp := getElem?_lt hbpp
  have hb0pp := fun l => get_app (l := l) hbpp
  refine AcT true Try.func27 ?_; intro hbel Q hQ
  have g'7 := (jn @hbpp @hb0pp)
  refine runTf g'7 ?_
  refine cv (valid_a _ W Hh _ xs (.inr ⟨_, _, _, rfl, by first | exact hb0pp _ | exact hbpp⟩)) ?_
  refine rcs g'7 (fun h1 h1d g'8 => ?_) (fun h1 h1d _ => ?_)
  · exact eR g'8 hQ hbel (.tup [.sl none 0 (some 0), iV 1]) Try.results27 ⟨rfl, rfl⟩
  rw [hv] at h1d; cases h1d
theorem rowP_sorted (p : Int → Int → Bool) (y : Nat) : ∀ j, (rowP p y j).Pairwise befP
  | 0 => .nil
  | j + 1 => by
    unfold rowP
    refine List.pairwise_append.2 ⟨rowP_sorted p y j, by split <;> simp, fun a ha b hb => ?_⟩
    split at hb
    · rw [List.mem_singleton] at hb
      have := (rowP_mem p y j a).1 ha
      subst hb
      unfold befP; simp only; omega
    cases hb
theorem gridP_sorted (p : Int → Int → Bool) (w : Nat) : ∀ i, (gridP p w i).Pairwise befP
  | 0 => .nil
  | i + 1 => by
    unfold gridP
    refine List.pairwise_append.2 ⟨gridP_sorted p w i, rowP_sorted p i w, fun a ha b hb => ?_⟩
    have h1 := (gridP_mem p w i a).1 ha
    have h2 := (rowP_mem p i w b).1 hb
    unfold befP; omega
theorem fro_sorted {W Hh : Int} {xs : List Int} : (froL W Hh xs).Pairwise befP := gridP_sorted _ _ _
theorem srtC_strict {l : List Pt} (h : l.Nodup) : (srtC l).Pairwise befP := by
  have hn : (srtC l).Nodup := (srtC_perm l).nodup_iff.2 h
  refine List.Pairwise.imp (fun {a b} q => ?_) ((srtC_sorted l).and hn)
  exact q.1.resolve_left q.2
/-- The cells with a number, below k. -/
def selF (A : List Pt) (nm : List Int) (v : Int) : Nat → List Pt
  | 0 => []
  | k + 1 => if (gi nm k == v) = true then selF A nm v k ++ [(g1 A k, g2 A k)] else selF A nm v k
/-- The clusters of the cells below i. -/
def rclF (A : List Pt) (nm : List Int) : Nat → List (List Pt)
  | 0 => []
  | i + 1 => if (gi nm i == (i : Int)) = true then rclF A nm i ++ [selF A nm i A.length] else rclF A nm i
theorem selF_mem {A : List Pt} {nm : List Int} {v : Int} {x : Pt} : ∀ {k : Nat}, x ∈ selF A nm v k ↔ ∃ j, j < k ∧ gi nm j = v ∧ gp A j = x
  | 0 => by simp [selF]
  | k + 1 => by
    unfold selF
    split
    · rename_i h
      have h := eq_of_beq h
      rw [List.mem_append, selF_mem, List.mem_singleton]
      constructor
      · rintro (⟨j, h1, h2⟩ | rfl)
        · exact ⟨j, by omega, h2⟩
        exact ⟨k, by omega, h, rfl⟩
      rintro ⟨j, h1, h2, h3⟩
      rcases (by omega : j < k ∨ j = k) with q | q
      · exact .inl ⟨j, q, h2, h3⟩
      subst q; exact .inr h3.symm
    rename_i h
    rw [selF_mem]
    constructor
    · rintro ⟨j, h1, h2⟩; exact ⟨j, by omega, h2⟩
    rintro ⟨j, h1, h2, h3⟩
    rcases (by omega : j < k ∨ j = k) with q | q
    · exact ⟨j, q, h2, h3⟩
    subst q; exact (h (by rw [h2]; exact beq_self_eq_true v)).elim
theorem selF_sorted {A : List Pt} (hA : A.Pairwise befP) {nm : List Int} {v : Int} : ∀ {k : Nat}, k ≤ A.length → (selF A nm v k).Pairwise befP
  | 0, _ => .nil
  | k + 1, hk => by
    unfold selF
    split
    · refine List.pairwise_append.2 ⟨selF_sorted hA (by omega), List.pairwise_singleton _ _, fun a ha b hb => ?_⟩
      obtain ⟨j, h1, -, h3⟩ := selF_mem.1 ha
      rw [List.mem_singleton.1 hb, ← h3]
      have := List.pairwise_iff_getElem.1 hA j k (by omega) (by omega) h1
      rw [← gp_eq (l := A) (i := j) (by omega), ← gp_eq (l := A) (i := k) (by omega)] at this
      exact this
    exact selF_sorted hA (by omega)
theorem selF_len {A : List Pt} {nm : List Int} {v : Int} : ∀ k : Nat, (selF A nm v k).length ≤ k
  | 0 => Nat.le_refl _
  | k + 1 => by
    have := selF_len (A := A) (nm := nm) (v := v) k
    unfold selF
    split
    · rw [List.length_append, List.length_singleton]; omega
    omega
/-- Each number is that of a cell that is not behind, and is joined with it. -/
def labP (A : List Pt) (nm : List Int) : Prop := nm.length = A.length ∧ ∀ j, j < A.length → ∃ t : Nat, gi nm j = (t : Int) ∧ t ≤ j ∧ ∀ Q, carP A Q → Q (gp A t) → Q (gp A j)
def fixP (A : List Pt) (nm : List Int) : Prop := ∀ i k, i < A.length → k < A.length → adjP (gp A i) (gp A k) → ¬ gi nm k < gi nm i
theorem lab0 {A : List Pt} {nm : List Int} (hl : nm.length = A.length) (h : ∀ j, j < A.length → gi nm j = j) : labP A nm := ⟨hl, fun j hj => ⟨j, h j hj, Nat.le_refl _, fun _ _ q => q⟩⟩
theorem lab_set {A : List Pt} {nm : List Int} (h : labP A nm) {i k : Nat} (hi : i < A.length) (hk : k < A.length) (ha : adjP (gp A i) (gp A k)) (hlt : gi nm k < gi nm i) : labP A (nm.set i (gi nm k)) := by
  refine ⟨by rw [List.length_set]; exact h.1, fun j hj => ?_⟩
  rw [gi_setC (by rw [h.1]; exact hi)]
  by_cases e : i = j
  · subst e
    rw [if_pos rfl]
    obtain ⟨t, h1, h2, h3⟩ := h.2 k hk
    obtain ⟨u, k1, k2, -⟩ := h.2 i hi
    refine ⟨t, h1, by omega, fun Q hQ q => ?_⟩
    exact hQ _ _ (gp_mem hk) (gp_mem hi) (adjP_symm ha) (h3 Q hQ q)
  rw [if_neg e]; exact h.2 j hj
def sN (nm : List Int) : Nat := (nm.map Int.toNat).sum
theorem sN_set : ∀ {nm : List Int} {i : Nat} {v : Int}, i < nm.length → 0 ≤ v → v < gi nm i → sN (nm.set i v) < sN nm
  | [], i, _, h, _, _ => by simp at h
  | x :: r, 0, v, _, h0, hv => by
    have e : gi (x :: r) 0 = x := rfl
    rw [e] at hv
    simp only [sN, List.set_cons_zero, List.map_cons, List.sum_cons]; omega
  | x :: r, i + 1, v, h, h0, hv => by
    have e : gi (x :: r) (i + 1) = gi r i := rfl
    rw [e] at hv
    have ih := sN_set (nm := r) (i := i) (v := v) (by simpa using h) h0 hv
    simp only [sN, List.set_cons_succ, List.map_cons, List.sum_cons] at ih ⊢; omega
/-- The cells of a cluster carry all that touches them. -/
theorem ClInv.car {all : List Pt} {n : Nat} {r : List Pt × List (List Pt)} (I : ClInv all n r) {c : List Pt} (hc : c ∈ r.2) : carP all fun x => x ∈ c := fun a b ha hb hab hac => by
  rcases List.mem_append.1 (I.perm.mem_iff.2 hb) with q | q
  · exact (I.off c hc a hac b q hab).elim
  obtain ⟨d, hd, hbd⟩ := List.mem_flatten.1 q
  obtain ⟨i, hi, e1⟩ := List.mem_iff_getElem.1 hc
  obtain ⟨j, hj, e2⟩ := List.mem_iff_getElem.1 hd
  have hp := List.pairwise_iff_getElem.1 I.apart
  rcases Nat.lt_trichotomy i j with k | k | k
  · exact (hp i j hi hj k a (by rw [e1]; exact hac) b (by rw [e2]; exact hbd) hab).elim
  · subst k; rw [e1] at e2; rw [e2]; exact hbd
  exact (hp j i hj hi k b (by rw [e2]; exact hbd) a (by rw [e1]; exact hac) (adjP_symm hab)).elim
theorem lab_car {A : List Pt} {nm : List Int} (hn : A.Nodup) (hF : fixP A nm) (v : Int) : carP A fun x => ∃ j, j < A.length ∧ gp A j = x ∧ gi nm j = v := fun a b ha hb hab ⟨j, hj, e, hv⟩ => by
  obtain ⟨k, hk, e2⟩ := List.mem_iff_getElem.1 hb
  have e3 : gp A k = b := by rw [gp_eq hk, e2]
  refine ⟨k, hk, e3, ?_⟩
  have h1 := hF j k hj hk (by rw [e, e3]; exact hab)
  have h2 := hF k j hk hj (by rw [e, e3]; exact adjP_symm hab)
  omega
/-- What is found by passing numbers on is what is found by search. -/
theorem rcl_clN {A : List Pt} {nm : List Int} (hn : A.Nodup) (hs : A.Pairwise befP) (hL : labP A nm) (hF : fixP A nm) : ∀ n, n ≤ A.length → (clN srtC A A n).2 = rclF A nm n ∧ ∀ c ∈ (clN srtC A A n).2, ∃ k, k < n ∧ gp A k ∈ c
  | 0, _ => ⟨rfl, fun c h => by cases h⟩
  | n + 1, hl => by
    obtain ⟨ih, ihk⟩ := rcl_clN hn hs hL hF n (by omega)
    have I := clN_inv srtC_perm (S0 := A) (List.Perm.refl _) hn n (by omega)
    have I2 := clN_inv srtC_perm (S0 := A) (List.Perm.refl _) hn (n + 1) hl
    have hnA : n < A.length := by omega
    have hnd : ((clN srtC A A n).1 ++ (clN srtC A A n).2.flatten).Nodup := I.perm.nodup_iff.2 hn
    have key : memP (clN srtC A A n).1 (g1 A n) (g2 A n) = true ↔ gi nm n = (n : Int) := by
      rw [memP_iff]
      constructor
      · intro hm
        obtain ⟨t, h1, h2, h3⟩ := hL.2 n hnA
        rcases (by omega : t = n ∨ t < n) with q | q
        · rw [h1, q]
        have hg := I.gone t q
        have ht := I.perm.mem_iff.2 (gp_mem (l := A) (b := t) (by omega))
        rcases List.mem_append.1 ht with k | k
        · exact (hg k).elim
        obtain ⟨c, hc, hx⟩ := List.mem_flatten.1 k
        have := h3 _ (I.car hc) hx
        exact ((List.nodup_append.1 hnd).2.2 _ hm _ (List.mem_flatten.2 ⟨c, hc, this⟩) rfl).elim
      intro hv
      rcases List.mem_append.1 (I.perm.mem_iff.2 (gp_mem hnA)) with q0 | q0
      · exact q0
      obtain ⟨c, hc, hx⟩ := List.mem_flatten.1 q0
      obtain ⟨k, hk, hkc⟩ := ihk c hc
      obtain ⟨j, hj, e1, e2⟩ := I.conn _ (lab_car hn hF (gi nm k)) c hc _ hkc ⟨k, by omega, rfl, rfl⟩ _ hx
      have := gp_inj hn hj hnA e1
      subst this
      obtain ⟨t, h1, h2, -⟩ := hL.2 k (by omega)
      omega
    unfold clN at I2 ⊢
    unfold rclF
    by_cases hm : memP (clN srtC A A n).1 (g1 A n) (g2 A n) = true
    · rw [if_pos hm] at I2 ⊢
      have hv := key.1 hm
      rw [if_pos (by rw [hv]; exact beq_self_eq_true _)]
      have hmem := memP_iff.1 hm
      have hndS : (clN srtC A A n).1.Nodup := (List.nodup_append.1 hnd).1
      have p0 : ((clN srtC A A n).1.erase (g1 A n, g2 A n) ++ [(g1 A n, g2 A n)]).Perm (clN srtC A A n).1 := (List.perm_append_singleton _ _).trans (List.perm_cons_erase hmem).symm
      have hin : ∀ x, x ∈ (clN srtC A A n).1 → x ∈ A := fun x hx => I.perm.mem_iff.1 (List.mem_append.2 (.inl hx))
      have e := bfR_ext ((clN srtC A A n).1.erase (g1 A n, g2 A n), [(g1 A n, g2 A n)])
      have hcar := fun Q (hQ : carP A Q) (hq : Q (gp A n)) => bfR_car hQ (s := ((clN srtC A A n).1.erase (g1 A n, g2 A n), [(g1 A n, g2 A n)])) (fun x hx => hin x (p0.mem_iff.1 hx)) (fun x hx => (List.mem_singleton.1 hx) ▸ hq)
      have hnd2 : ((bfR ((clN srtC A A n).1.erase (g1 A n, g2 A n), [(g1 A n, g2 A n)])).1 ++ (bfR ((clN srtC A A n).1.erase (g1 A n, g2 A n), [(g1 A n, g2 A n)])).2).Nodup := nodup_ext e (p0.nodup_iff.2 hndS)
      have hself : gp A n ∈ (bfR ((clN srtC A A n).1.erase (g1 A n, g2 A n), [(g1 A n, g2 A n)])).2 := by
        obtain ⟨⟨m, hm2⟩, -⟩ := e
        rw [hm2]; exact List.mem_append.2 (.inl (List.mem_singleton.2 rfl))
      generalize bfR ((clN srtC A A n).1.erase (g1 A n, g2 A n), [(g1 A n, g2 A n)]) = t at *
      have hc2 := I2.car (c := srtC t.2) (List.mem_append.2 (.inr (List.mem_singleton.2 rfl)))
      have hmain : srtC t.2 = selF A nm n A.length := by
        refine eq_sorted (srtC_strict (List.nodup_append.1 hnd2).2.1) (selF_sorted hs (Nat.le_refl _)) fun x => ?_
        rw [selF_mem]
        constructor
        · intro hx
          obtain ⟨j, hj, e1, e2⟩ := hcar _ (lab_car hn hF (n : Int)) ⟨n, hnA, rfl, hv⟩ x ((srtC_perm _).mem_iff.1 hx)
          exact ⟨j, hj, e2, e1⟩
        rintro ⟨j, hj, e2, e1⟩
        obtain ⟨u, h1, h2, h3⟩ := hL.2 j hj
        have hu : u = n := by omega
        subst hu
        rw [← e1]
        exact h3 _ hc2 ((srtC_perm _).mem_iff.2 hself)
      refine ⟨by simp only; rw [ih, hmain], fun c hc => ?_⟩
      rcases List.mem_append.1 hc with q | q
      · obtain ⟨k, hk, hx⟩ := ihk c q
        exact ⟨k, by omega, hx⟩
      rw [List.mem_singleton.1 q]
      exact ⟨n, by omega, (srtC_perm _).mem_iff.2 hself⟩
    rw [if_neg hm, if_neg (fun q => hm (key.2 (eq_of_beq q)))]
    exact ⟨ih, fun c hc => by obtain ⟨k, hk, hx⟩ := ihk c hc; exact ⟨k, by omega, hx⟩⟩
theorem rcl_eq {A : List Pt} {nm : List Int} (hn : A.Nodup) (hs : A.Pairwise befP) (hL : labP A nm) (hF : fixP A nm) : rclF A nm A.length = cluL A := (rcl_clN hn hs hL hF A.length (Nat.le_refl _)).1.symm
theorem IsI.parts {H : AHeap} {k : IntKind} {s : AV} {l : List Int} (h : IsI H k s l) : ∃ a c, s = .sl a l.length c := by
  rcases h with ⟨rfl, rfl⟩ | ⟨b, own, cap, rfl, hb⟩
  · exact ⟨_, _, rfl⟩
  exact ⟨_, _, rfl⟩
theorem IsI.pos {H : AHeap} {k : IntKind} {a : Option (Nat × Nat)} {c : Option Nat} {n : Nat} {l : List Int} (h : IsI H k (.sl a n c) l) (h0 : 0 < l.length) : ∃ b own, a = some (b, 0) ∧ n = l.length ∧ H[b]? = some (.cells own 1 (ints k l)) := by
  rcases h with ⟨rfl, h⟩ | ⟨b, own, cap, h, hb⟩
  · simp at h0
  injection h with h1 h2 h3
  exact ⟨b, own, h1, h2, hb⟩
set_option maxRecDepth 100000 in
theorem rcells_v (H : AHeap) (W Hh : Int) (xs : List Int) (g : Nat) (own : Bool) (cap : Option Nat) (n : Nat) (hV : Vld W Hh xs) (hg : H[g]? = some (.cells own 1 (ints .u8 xs))) (hn : n = xs.length) :
    ACalls Try.prog 26 [.agg [.int .i64 W, .int .i64 Hh, .sl (some (g, 0)) n cap]] H (fun v H' => v = .tup [(retP H (gridP (froB W Hh xs) W.toNat Hh.toNat)).1, .int .i64 0] ∧ H' = (retP H (gridP (froB W Hh xs) W.toNat Hh.toNat)).2) := by
  have hW : 1 ≤ W ∧ W ≤ 64 ∧ 1 ≤ Hh ∧ Hh ≤ 64 := ⟨hV.w0, hV.w1, hV.h0, hV.h1⟩
  have hgl := getElem?_lt hg
  have hv := vld_iff.2 hV
  (refine ACalls_run try_mixed Try.func26 true _ rfl (Nat.le_of_ble_eq_true (by kernel_rfl)) (by kernel_rfl) ?_; intro hbel Q hQ hQ' c hc; unfold Try.f26 at hc; simp only [Option.some.injEq] at hc; subst hc; clear hQ')
  have hg0 := fun l => get_app (l := l) hg
  simp -implicitDefEqProofs (disch := omega) only [hg0, simprocAttr, amset, tyset, Function.comp_apply, one1, lenV, calleeOf, lateOk, belowV, aop, AV.ofValue, AV.ofCell, AV.cells, AV.flat, AV.one, arep, aBin, aAppend, aConv]
  refine call_v (by kernel_rfl) (rplan_a _ W Hh _ xs (.inr ⟨g, own, cap, by rw [hn], hg0 _⟩)) ?_
  simp -implicitDefEqProofs (disch := omega) only [hv, simprocAttr, amset, tyset, Function.comp_apply, one1, lenV, calleeOf, lateOk, belowV, aop, AV.ofValue, AV.ofCell, AV.cells, AV.flat, AV.one, arep, aBin, aAppend, aConv]
  refine go_loop try_mixed (by kernel_rfl) (fun k F Hx => ∃ (y : Nat) (s : AV) (X : ABlk), y + k = Hh.toNat ∧ OutP (H.length + 1) s X (gridP (froB W Hh xs) W.toNat y) ∧
    F = [(1, .ptr (some (H.length, 0))), (4, s), (5, .int .i64 (y : Nat))] ∧ Hx = H ++ [.cells true 0 [.int .i64 W, .int .i64 Hh, .sl (some (g, 0)) n cap], X]) Hh.toNat ?_ ?_
  · refine ⟨_, _, _, ⟨0, _, _, by omega, .inl ⟨rfl, rfl, rfl⟩, rfl, rfl⟩, Abs.by hbel [0, 1] (by decide) ?_⟩
    exact absT
  rintro k F Hx ⟨y, s, X, hyk, hO, rfl, rfl⟩ J1 hJ1
  by_cases hy : (y : Int) < Hh
  · have hgrl := gridP_len (froB W Hh xs) W.toNat y
    have hgl2 : y * W.toNat ≤ 64 * 64 := Nat.mul_le_mul (by omega) (by omega)
    simp -implicitDefEqProofs (disch := omega) only [hy, simprocAttr, amset, tyset, Function.comp_apply, one1, lenV, calleeOf, lateOk, belowV, aop, AV.ofValue, AV.ofCell, AV.cells, AV.flat, AV.one, arep, aBin, aAppend, aConv]
    refine go_loop try_mixed (by kernel_rfl) (fun k F Hx => ∃ (x : Nat) (s : AV) (X : ABlk), x + k = W.toNat ∧ OutP (H.length + 1) s X (gridP (froB W Hh xs) W.toNat y ++ rowP (froB W Hh xs) y x) ∧
      F = [(1, .ptr (some (H.length, 0))), (4, s), (5, .int .i64 (y : Nat)), (6, .int .i64 (x : Nat))] ∧ Hx = H ++ [.cells true 0 [.int .i64 W, .int .i64 Hh, .sl (some (g, 0)) n cap], X]) W.toNat ?_ ?_
    · refine ⟨_, _, _, ⟨0, s, X, by omega, by simpa [rowP] using hO, rfl, rfl⟩, Abs.by hbel [0, 1] (by decide) ?_⟩
      rcases hO with ⟨-, rfl, rfl⟩ | ⟨-, rfl, rfl⟩
      · exact absT
      exact absT
    rintro k F Hx ⟨x, s, X, hxk, hO, rfl, rfl⟩ J hJ
    by_cases hx : (x : Int) < W
    · have hrl := rowP_len (froB W Hh xs) y x
      have hrow : rowP (froB W Hh xs) y (x + 1) = rowP (froB W Hh xs) y x ++ if (froB W Hh xs) x y = true then [((x : Int), (y : Int))] else [] := rfl
      have hend0 : (froB W Hh xs) x y = false → gridP (froB W Hh xs) W.toNat y ++ rowP (froB W Hh xs) y (x + 1) = gridP (froB W Hh xs) W.toNat y ++ rowP (froB W Hh xs) y x := fun h => by rw [hrow, if_neg (by rw [h]; simp), List.append_nil]
      have hend1 : (froB W Hh xs) x y = true → gridP (froB W Hh xs) W.toNat y ++ rowP (froB W Hh xs) y (x + 1) = gridP (froB W Hh xs) W.toNat y ++ rowP (froB W Hh xs) y x ++ [((x : Int), (y : Int))] := fun h => by rw [hrow, if_pos h, List.append_assoc]
      have hLl : (gridP (froB W Hh xs) W.toNat y ++ rowP (froB W Hh xs) y x).length ≤ 5000 := by rw [List.length_append]; omega
      generalize gridP (froB W Hh xs) W.toNat y ++ rowP (froB W Hh xs) y x = L at *
      have hLt : List.take (L.length * 2) (prs L) = prs L := List.take_of_length_le (by rw [prs_len]; omega)
      have fin0 : (froB W Hh xs) x y = false → ∀ (F : Fr) (l1 : AHeap), (absF (H.length + l1.length) (sig H.length l1.length [0, 1]) F [(1, .ptr (some (H.length, 0))), (4, s), (5, .int .i64 (y : Nat)), (6, .int .i64 ((x + 1 : Nat) : Int))] ∧ absH (H.length + l1.length) (sig H.length l1.length [0, 1]) l1 [0, 1] [.cells true 0 [.int .i64 W, .int .i64 Hh, .sl (some (g, 0)) n cap], X]) → J F (H ++ l1) := fun hf F l1 ha =>
        hJ _ _ ⟨k - 1, by omega, _, _, _, ⟨x + 1, _, _, by omega, by rw [hend0 hf]; exact hO, rfl, rfl⟩, Abs.by hbel [0, 1] (by decide) ha⟩
      have fin1 : (froB W Hh xs) x y = true → ∀ (F : Fr) (l1 : AHeap), (absF (H.length + l1.length) (sig H.length l1.length [0, 3]) F [(1, .ptr (some (H.length, 0))), (4, .sl (some (H.length + 1, 0)) (L.length + 1) none), (5, .int .i64 (y : Nat)), (6, .int .i64 ((x + 1 : Nat) : Int))] ∧ absH (H.length + l1.length) (sig H.length l1.length [0, 3]) l1 [0, 3] [.cells true 0 [.int .i64 W, .int .i64 Hh, .sl (some (g, 0)) n cap], .cells true 2 (prs (L ++ [((x : Int), (y : Int))]))]) → J F (H ++ l1) := fun hf F l1 ha =>
        hJ _ _ ⟨k - 1, by omega, _, _, _, ⟨x + 1, _, _, by omega, by rw [hend1 hf]; exact .inr ⟨by simp, by simp, rfl⟩, rfl, rfl⟩, Abs.by hbel [0, 3] (by decide) ha⟩
      simp -implicitDefEqProofs (disch := omega) only [hx, hg0, simprocAttr, amset, tyset, Function.comp_apply, one1, lenV, calleeOf, lateOk, belowV, aop, AV.ofValue, AV.ofCell, AV.cells, AV.flat, AV.one, arep, aBin, aAppend, aConv]
      refine call_v (by kernel_rfl) (ris_c hV (hg0 _) hn (by omega)) ?_
      cases h1 : froB W Hh xs x y
      · simp -implicitDefEqProofs (disch := omega) only [simprocAttr, amset, tyset, Function.comp_apply, one1, lenV, calleeOf, lateOk, belowV, aop, AV.ofValue, AV.ofCell, AV.cells, AV.flat, AV.one, arep, aBin, aAppend, aConv]
        refine fin0 (h1) _ _ ?_
        rcases hO with ⟨-, rfl, rfl⟩ | ⟨-, rfl, rfl⟩
        · exact absT
        exact absT
      rcases hO with ⟨rfl, rfl, rfl⟩ | ⟨hL0, rfl, rfl⟩
      · simp -implicitDefEqProofs (disch := omega) only [simprocAttr, amset, tyset, Function.comp_apply, one1, lenV, calleeOf, lateOk, belowV, aop, AV.ofValue, AV.ofCell, AV.cells, AV.flat, AV.one, arep, aBin, aAppend, aConv]
        repeat refine And.intro (by omega) ?_
        refine fin1 (h1) _ _ ?_
        exact absT
      simp -implicitDefEqProofs (disch := omega) only [prs_snoc, hLt, simprocAttr, amset, tyset, Function.comp_apply, one1, lenV, calleeOf, lateOk, belowV, aop, AV.ofValue, AV.ofCell, AV.cells, AV.flat, AV.one, arep, aBin, aAppend, aConv]
      repeat refine And.intro (by omega) ?_
      refine fin1 (h1) _ _ ?_
      exact absT
    have hxe : x = W.toNat := by omega
    subst hxe
    have hrow : gridP (froB W Hh xs) W.toNat (y + 1) = gridP (froB W Hh xs) W.toNat y ++ rowP (froB W Hh xs) y W.toNat := rfl
    rw [← hrow] at hO
    simp -implicitDefEqProofs (disch := omega) only [hx, simprocAttr, amset, tyset, Function.comp_apply, one1, lenV, calleeOf, lateOk, belowV, aop, AV.ofValue, AV.ofCell, AV.cells, AV.flat, AV.one, arep, aBin, aAppend, aConv]
    refine hJ1 _ _ ⟨Hh.toNat - (y + 1), by omega, _, _, _, ⟨y + 1, s, X, by omega, hO, rfl, rfl⟩, Abs.by hbel [0, 1] (by decide) ?_⟩
    rcases hO with ⟨-, rfl, rfl⟩ | ⟨-, rfl, rfl⟩
    · exact absT
    exact absT
  have hye : y = Hh.toNat := by omega
  subst hye
  simp -implicitDefEqProofs (disch := omega) only [hy, simprocAttr, amset, tyset, Function.comp_apply, one1, lenV, calleeOf, lateOk, belowV, aop, AV.ofValue, AV.ofCell, AV.cells, AV.flat, AV.one, arep, aBin, aAppend, aConv]
  generalize gridP (froB W Hh xs) W.toNat Hh.toNat = L at *
  rcases hO with ⟨h, rfl, rfl⟩ | ⟨h, rfl, rfl⟩
  · rw [h, retP_nil] at hQ
    exact hQ _ _ (end_plain (.inl rfl) hbel (x := .tup [.sl none 0 (some 0), .int .i64 0]) (resT Try.results26) rfl ⟨rfl, rfl⟩)
  rw [retP_pos h] at hQ
  refine hQ _ _ (end_by (.inl rfl) hbel (x1 := .tup [.sl (some (H.length + 1, 0)) L.length none, .int .i64 0]) (.tup [.sl (some (H.length, 0)) L.length none, .int .i64 0]) (resT Try.results26) [1] (by decide) ⟨rfl, rfl⟩ ?_)
  exact absT
theorem rcell_y (H : AHeap) (A : List (Int × Int)) (W Hh : Int) (s : AV) (xs : List Int) (hs : Sl H 1 s xs.length (ints .u8 xs)) (hA : froL W Hh xs = A) (hv : vldB W Hh xs = true) :
    ACalls Try.prog 26 [.agg [iV W, iV Hh, s]] H (fun v H' => v = .tup [.sl (some (H.length, 0)) A.length (capG A.length), iV 0] ∧ H' = H ++ [.cells (ownG A.length) 2 (prs A)]) := by
  obtain ⟨b, own, cap, rfl, hb⟩ := hs
  have h := rcells_v H W Hh xs b own cap _ (vld_iff.1 hv) hb rfl
  rw [show gridP (froB W Hh xs) W.toNat Hh.toNat = A from hA] at h
  rcases Nat.eq_zero_or_pos A.length with h0 | h0
  · rw [List.eq_nil_of_length_eq_zero h0] at h ⊢
    simp only [retP_nil] at h
    refine ACalls.weak0 h [.cells false 2 []] rfl [0] (by decide) _ _ ?_
    exact absTf (jn @List.length_nil.{0} (jn @capG_0 (jn @ownG_0 @prs_nil)))
  rw [retP_pos h0] at h
  refine ACalls.weak h [] rfl [0] (by decide) _ _ ?_
  rw [capG_p h0, ownG_p h0]
  generalize A = L
  exact absT
/-- No number is passed on between the pairs of cells so far. -/
def parF (A : List Pt) (nm : List Int) (i k : Nat) : Prop := ∀ i' k', (i' < i ∨ (i' = i ∧ k' < k)) → i' < A.length → k' < A.length → adjP (gp A i') (gp A k') → ¬ gi nm k' < gi nm i'
theorem parF_0 {A : List Pt} {nm : List Int} : parF A nm 0 0 := fun i' k' h => by omega
theorem parF_row {A : List Pt} {nm : List Int} {i m : Nat} (h : parF A nm i m) (hm : A.length ≤ m) : parF A nm (i + 1) 0 := fun i' k' q h1 h2 => h i' k' (by omega) h1 h2
theorem parF_step {A : List Pt} {nm : List Int} {i m : Nat} (h : parF A nm i m) (hn : adjP (gp A i) (gp A m) → ¬ gi nm m < gi nm i) : parF A nm i (m + 1) := fun i' k' q h1 h2 ha => by
  by_cases e : i' = i ∧ k' = m
  · obtain ⟨rfl, rfl⟩ := e; exact hn ha
  exact h i' k' (by omega) h1 h2 ha
theorem parF_fix {A : List Pt} {nm : List Int} {i : Nat} (h : parF A nm i 0) (hi : A.length ≤ i) : fixP A nm := fun i' k' h1 h2 ha => h i' k' (by omega) h1 h2 ha
theorem adj_gp {A : List Pt} {i k : Nat} : adjB (g1 A i) (g2 A i) (g1 A k) (g2 A k) = true ↔ adjP (gp A i) (gp A k) := adjB_iff (p := gp A i) (q := gp A k)
theorem gp_bd {A : List Pt} (hAb : ∀ p ∈ A, (0 ≤ p.1 ∧ p.1 < 64) ∧ 0 ≤ p.2 ∧ p.2 < 64) {i : Nat} (hi : i < A.length) : (0 ≤ g1 A i ∧ g1 A i < 64) ∧ 0 ≤ g2 A i ∧ g2 A i < 64 := hAb _ (gp_mem hi)
theorem selF_pos {A : List Pt} {nm : List Int} {i : Nat} (hi : i < A.length) (h : gi nm i = (i : Int)) : 0 < (selF A nm i A.length).length := List.length_pos_of_mem (selF_mem.2 ⟨i, hi, h, rfl⟩)
theorem rclu_y (H : AHeap) (A : List (Int × Int)) (n0 : Nat) (W Hh : Int) (pp : AV) (xs : List Int) (hpp : Sl H 1 pp xs.length (ints .u8 xs)) (hv : vldB W Hh xs = true) (hA : froL W Hh xs = A) (hn0 : n0 = H.length) : ACalls Try.prog 12 [.agg [iV W, iV Hh, pp]] H (fun v H' => ∃ X : AHeap, (∀ x ∈ X, ABlk.bel (H ++ X).length x = true) ∧ (X = (cluL A).map cblk) ∧ v = .tup [.sl (some ((H ++ X).length, 0)) ((cluL A).length) (capG (cluL A).length), iV 0] ∧ H' = H ++ X ++ [.cells (ownG (cluL A).length) 1 (slr n0 (cluL A))]) := by
  obtain ⟨bpp, opp, cpp, rfl, hbpp⟩ := hpp
  have hblpp := getElem?_lt hbpp
  have hb0pp := fun l => get_app (l := l) hbpp
  have hV := vld_iff.1 hv
  have hAb : ∀ p ∈ A, (0 ≤ p.1 ∧ p.1 < 64) ∧ 0 ≤ p.2 ∧ p.2 < 64 := hA ▸ fro_bd hV
  have hAn : A.Nodup := hA ▸ fro_nodup
  have hAs : A.Pairwise befP := hA ▸ fro_sorted
  have hAl : A.length ≤ 4096 := hA ▸ fro_len hV
  refine AcT true Try.func12 ?_; intro hbel Q hQ
  have h0bel := hbel
  have g'3 := (jn @hbpp @hb0pp)
  refine runTf g'3 ?_
  rcases Bool.eq_false_or_eq_true (vldB W Hh xs) with h1 | h1
  · have h1d := h1
    refine cv (rcell_y _ A W Hh _ xs (⟨_, _, _, rfl, by first | exact hb0pp _ | exact hbpp⟩) hA (by assumption)) ?_
    have g'4 := (jn h1 (jn h1d (jn @ints_rep (jn @List.length_replicate.{0} g'3))))
    refine runTf g'4 ?_
    refine glp (fun k F Hx => ∃ i0 : Nat, ∃ nm : List Int, i0 + k = A.length ∧ nm.length = A.length ∧ (∀ j, j < i0 → gi nm j = j) ∧ F = [(4, .sl (some (H.length, 0)) A.length (capG A.length)), (6, .sl (some (H.length + 1, 0)) nm.length none), (7, iV ((i0 : Nat) : Int))] ∧ Hx = H ++ [.cells (ownG A.length) 2 (prs A), .cells true 1 (ints .i64 nm)]) (A.length) ?_ ?_
    · refine ⟨_, _, _, ⟨0, List.replicate A.length 0, by omega, List.length_replicate, (fun j h => by omega), rfl, rfl⟩, bS hbel [1, 2] (absRf @List.length_replicate.{0})⟩
    rintro k0 F Hx ⟨i0, nm, hm0, hnl, hnj, rfl, rfl⟩ J0 hJ0
    have g'5 := (jn @prs_len (jn @prs_one (jn @ints_len (jn @ints_ones g'4))))
    refine rcs g'5 (fun h2 h2d _ => ?_) (fun h2 h2d g'7 => ?_)
    · have hli : i0 < A.length := by omega
      have g'6 := (jn h2 (jn h2d (jn @ints_set1 (jn @List.length_set.{0} g'5))))
      refine runTf g'6 ?_
      refine hJ0 _ _ ⟨k0 - 1, by omega, _, _, _, ⟨i0 + 1, (nm.set i0 ((i0 : Nat) : Int)), by omega, (by rw [List.length_set]; exact hnl), (fun j hj => by
        rw [gi_setC (by omega)]
        by_cases e : i0 = j
        · rw [if_pos e, e]
        rw [if_neg e]; exact hnj j (by omega)), rfl, rfl⟩, bS hbel [0, 1] (absRf @List.length_set.{0})⟩
    have hLab0 : labP A nm := lab0 hnl (fun j hj => hnj j (by omega))
    refine runTf g'7 ?_
    refine glp (fun k F Hx => ∃ nm2 : List Int, ∃ ch : Bool, sN nm2 + ch.toNat = k ∧ labP A nm2 ∧ (ch = false → fixP A nm2) ∧ F = [(4, .sl (some (H.length, 0)) A.length (capG A.length)), (6, .sl (some (H.length + 1, 0)) nm2.length none), (8, .bool ch)] ∧ Hx = H ++ [.cells (ownG A.length) 2 (prs A), .cells true 1 (ints .i64 nm2)]) (sN nm + 1) ?_ ?_
    · refine ⟨_, _, _, ⟨nm, true, rfl, hLab0, (fun q => by cases q), rfl, rfl⟩, bS hbel [0, 1] absR⟩
    rintro k1 F Hx ⟨nm2, ch, hm1, hL2, hfx, rfl, rfl⟩ J1 hJ1
    have hl2 := hL2.1
    refine rcs g'7 (fun h3 h3d g'8 => ?_) (fun h3 h3d g'17 => ?_)
    · have hcn : ch.toNat = 1 := by rw [h3]; rfl
      refine runTf g'8 ?_
      refine glp (fun k F Hx => ∃ i : Nat, ∃ nm3 : List Int, ∃ ch3 : Bool, i + k = A.length ∧ labP A nm3 ∧ sN nm3 ≤ sN nm2 ∧ (ch3 = true → sN nm3 < sN nm2) ∧ (ch3 = false → parF A nm3 i 0) ∧ F = [(4, .sl (some (H.length, 0)) A.length (capG A.length)), (6, .sl (some (H.length + 1, 0)) nm3.length none), (8, .bool ch3), (9, iV ((i : Nat) : Int))] ∧ Hx = H ++ [.cells (ownG A.length) 2 (prs A), .cells true 1 (ints .i64 nm3)]) (A.length) ?_ ?_
      · refine ⟨_, _, _, ⟨0, nm2, false, by omega, hL2, Nat.le_refl _, (fun q => by cases q), (fun _ => parF_0), rfl, rfl⟩, bS hbel [0, 1] absR⟩
      rintro k2 F Hx ⟨i, nm3, ch3, hm2, hL3, hle3, hc3, hf3, rfl, rfl⟩ J2 hJ2
      have hl3 := hL3.1
      refine rcs g'8 (fun h4 h4d g'9 => ?_) (fun h4 h4d g'16 => ?_)
      · have hli : i < A.length := by omega
        have hbi := gp_bd hAb hli
        refine runTf g'9 ?_
        refine glp (fun k F Hx => ∃ m : Nat, ∃ nm4 : List Int, ∃ ch4 : Bool, m + k = A.length ∧ labP A nm4 ∧ sN nm4 ≤ sN nm2 ∧ (ch4 = true → sN nm4 < sN nm2) ∧ (ch4 = false → parF A nm4 i m) ∧ F = [(4, .sl (some (H.length, 0)) A.length (capG A.length)), (6, .sl (some (H.length + 1, 0)) nm4.length none), (8, .bool ch4), (9, iV ((i : Nat) : Int)), (10, iV ((m : Nat) : Int))] ∧ Hx = H ++ [.cells (ownG A.length) 2 (prs A), .cells true 1 (ints .i64 nm4)]) (A.length) ?_ ?_
        · refine ⟨_, _, _, ⟨0, nm3, ch3, by omega, hL3, hle3, hc3, hf3, rfl, rfl⟩, bS hbel [0, 1] absR⟩
        rintro k3 F Hx ⟨m, nm4, ch4, hm3, hL4, hle4, hc4, hf4, rfl, rfl⟩ J3 hJ3
        have hl4 := hL4.1
        refine rcs g'9 (fun h5 h5d _ => ?_) (fun h5 h5d g'15 => ?_)
        · have hlm : m < A.length := by omega
          have hbm := gp_bd hAb hlm
          have q6 := prs_load (l := A) (j := i) (by omega)
          have q7 := prs_load (l := A) (j := m) (by omega)
          have g'10 := (jn h5 (jn h5d (jn q6 (jn q7 g'9))))
          refine runTf g'10 ?_
          refine cd (adj38_c _ _ _ _ _ (by omega) (by omega) (by omega) (by omega)) ?_
          refine rgs g'10 (fun h8 h8d _ => ?_) (fun h8 h8d g'14 => ?_)
          · have hadj := adj_gp.1 h8
            have q9 := ints_get (k := .i64) (xs := nm4) (j := m) (by omega)
            have q10 := ints_get (k := .i64) (xs := nm4) (j := i) (by omega)
            have g'11 := (jn h8 (jn h8d (jn q9 (jn q10 g'10))))
            refine rcs g'11 (fun h11 h11d _ => ?_) (fun h11 h11d g'13 => ?_)
            · have hltv : gi nm4 m < gi nm4 i := of_decide_eq_true (by assumption)
              have hset := lab_set hL4 hli hlm hadj hltv
              obtain ⟨tv, htv, -⟩ := hL4.2 m hlm
              have hsum := sN_set (nm := nm4) (i := i) (v := gi nm4 m) (by omega) (by omega) hltv
              have q12 := ints_get (k := .i64) (xs := nm4) (j := m) (by omega)
              have g'12 := (jn h11 (jn h11d (jn q12 (jn @ints_set1 (jn @List.length_set.{0} g'11)))))
              refine runTf g'12 ?_
              refine hJ3 _ _ ⟨k3 - 1, by omega, _, _, _, ⟨m + 1, (nm4.set i (gi nm4 m)), true, by omega, hset, by omega, (fun _ => by omega), (fun q => by cases q), rfl, rfl⟩, bS hbel [0, 1] (absRf @List.length_set.{0})⟩
            have hnad : adjP (gp A i) (gp A m) → ¬ gi nm4 m < gi nm4 i := fun _ => of_decide_eq_false (by assumption)
            refine runTf g'13 ?_
            refine hJ3 _ _ ⟨k3 - 1, by omega, _, _, _, ⟨m + 1, nm4, ch4, by omega, hL4, hle4, hc4, (fun q => parF_step (hf4 q) hnad), rfl, rfl⟩, bS hbel [0, 1] (absRf @List.length_set.{0})⟩
          have hnad : adjP (gp A i) (gp A m) → ¬ gi nm4 m < gi nm4 i := fun q => absurd (adj_gp.2 q) (by rw [h8]; decide)
          refine runTf g'14 ?_
          refine hJ3 _ _ ⟨k3 - 1, by omega, _, _, _, ⟨m + 1, nm4, ch4, by omega, hL4, hle4, hc4, (fun q => parF_step (hf4 q) hnad), rfl, rfl⟩, bS hbel [0, 1] (absRf @List.length_set.{0})⟩
        refine runTf g'15 ?_
        refine hJ2 _ _ ⟨k2 - 1, by omega, _, _, _, ⟨i + 1, nm4, ch4, by omega, hL4, hle4, hc4, (fun q => parF_row (hf4 q) (by omega)), rfl, rfl⟩, bS hbel [0, 1] absR⟩
      refine runTf g'16 ?_
      have hdec : sN nm3 + ch3.toNat < sN nm2 + 1 := by
        cases ch3
        · show sN nm3 + 0 < _; omega
        have := hc3 rfl; show sN nm3 + 1 < _; omega
      refine hJ1 _ _ ⟨sN nm3 + ch3.toNat, by omega, _, _, _, ⟨nm3, ch3, rfl, hL3, (fun q => parF_fix (hf3 q) (by omega)), rfl, rfl⟩, bS hbel [0, 1] absR⟩
    have hF := hfx h3
    refine runTf g'17 ?_
    have hmvs : ∀ m k sel, AV.mvs (sig m k sel) (slr n0 []) = slr n0 [] := fun _ _ _ => rfl
    refine glp (fun k F Hx => ∃ v : Nat, ∃ cs : List (List (Int × Int)), ∃ Hg4 : AHeap, ∃ XX4 : AHeap, v + k = A.length ∧ Hg4 = H ++ XX4 ∧ (∀ x ∈ XX4, ABlk.bel Hg4.length x = true) ∧ rclF A nm2 v = cs ∧ n0 + cs.length = Hg4.length ∧ XX4 = cs.map cblk ∧ cs.length ≤ v ∧ F = [(4, .sl (some (Hg4.length, 0)) A.length (capG A.length)), (6, .sl (some (Hg4.length + 1, 0)) nm2.length none), (11, .sl (some (Hg4.length + 2, 0)) cs.length (capG cs.length)), (12, iV ((v : Nat) : Int))] ∧ Hx = Hg4 ++ [.cells (ownG A.length) 2 (prs A), .cells true 1 (ints .i64 nm2), .cells (ownG cs.length) 1 (slr n0 cs)]) (A.length) ?_ ?_
    · refine ⟨_, _, _, ⟨0, [], H, [], by omega, (List.append_nil _).symm, (fun x h => by cases h), rfl, hn0, rfl, Nat.le_refl _, rfl, rfl⟩, Abs.byG hbel [.cells false 1 []] rfl [0, 1, 2] (by decide) ?_⟩
      exact absRf @slr_nil
    rintro k4 F Hx ⟨v, cs, Hg4, XX4, hm4, hgX4, hXb_g4, hce, hgl, hXX, hcj, rfl, rfl⟩ J4 hJ4
    have hbel_g4 := hbel_grow hgX4 hbel hXb_g4
    have hbpp_g4 := grow1 hgX4 hb0pp
    have hblpp_g4 := getElem?_lt hbpp_g4
    have hb0pp_g4 := fun l => get_app (l := l) hbpp_g4
    have hpre_g4 : ∃ X, Hg4 = H ++ X := ⟨_, hgX4⟩
    have hle_g4 := pre_le hpre_g4
    have hmvs := fun k sel => mvs_slr (m := Hg4.length) (k := k) (sel := sel) (n := n0) (cs := cs) (by omega)
    have g'18 := (jn @hbpp_g4 (jn @hb0pp_g4 (jn h1 (jn h1d (jn @ints_rep (jn @List.length_replicate.{0} (jn @prs_len (jn @prs_one (jn @ints_len (jn @ints_ones (jn h2 (jn h2d (jn h3 (jn h3d (jn @slr_len @slr_ones)))))))))))))))
    refine rcs g'18 (fun h13 h13d _ => ?_) (fun h13 h13d g'26 => ?_)
    · have hli : v < A.length := by omega
      have q14 := ints_get (k := .i64) (xs := nm2) (j := v) (by omega)
      have g'19 := (jn h13 (jn h13d (jn q14 g'18)))
      refine rcs g'19 (fun h15 h15d _ => ?_) (fun h15 h15d _ => ?_)
      · have h15n := bnT h15
        have hne : ¬ (gi nm2 v == (v : Int)) = true := fun q => by rw [eq_of_beq q] at h15; simp at h15
        have g'20 := (jn h15 (jn h15n (jn @int_bne (jn @int_beq g'19))))
        refine runTf g'20 ?_
        refine hJ4 _ _ ⟨k4 - 1, by omega, _, _, _, ⟨v + 1, cs, Hg4, XX4, by omega, by assumption, by assumption, (by rw [rclF, if_neg hne]; exact hce), by assumption, by assumption, by omega, rfl, rfl⟩, (Abs.byG hbel_g4 [] rfl [0, 1, 2] (by decide) ?_).le hle_g4⟩
        exact absRf (jn @hmvs (jn @slr_snoc (jn @hgl @slr_nil)))
      have h15n := bnT h15
      have hei : gi nm2 v = (v : Int) := by simpa using h15
      have hpos := selF_pos hli hei
      have hcap := capG_p hpos
      have how := ownG_p hpos
      have g'21 := (jn h15 (jn h15n (jn @int_bne (jn @int_beq g'19))))
      refine runTf g'21 ?_
      refine glp (fun k F Hx => ∃ w : Nat, w + k = A.length ∧ F = [(4, .sl (some (Hg4.length, 0)) A.length (capG A.length)), (6, .sl (some (Hg4.length + 1, 0)) nm2.length none), (11, .sl (some (Hg4.length + 2, 0)) cs.length (capG cs.length)), (12, iV ((v : Nat) : Int)), (13, .sl (some (Hg4.length + 3, 0)) ((selF A nm2 ((v : Nat) : Int) w).length) (capG (selF A nm2 ((v : Nat) : Int) w).length)), (14, iV ((w : Nat) : Int))] ∧ Hx = Hg4 ++ [.cells (ownG A.length) 2 (prs A), .cells true 1 (ints .i64 nm2), .cells (ownG cs.length) 1 (slr n0 cs), .cells (ownG (selF A nm2 ((v : Nat) : Int) w).length) 2 (prs (selF A nm2 ((v : Nat) : Int) w))]) (A.length) ?_ ?_
      · refine ⟨_, _, _, ⟨0, by omega, rfl, rfl⟩, (Abs.byG hbel_g4 [.cells false 2 []] rfl [0, 1, 2, 3] (by decide) ?_).le hle_g4⟩
        exact absRf (jn @hmvs (jn @selF.eq_1 @slr_nil))
      rintro k5 F Hx ⟨w, hm5, rfl, rfl⟩ J5 hJ5
      refine rcs g'21 (fun h16 h16d _ => ?_) (fun h16 h16d _ => ?_)
      · have hlm : w < A.length := by omega
        have hsl5 := selF_len (A := A) (nm := nm2) (v := (v : Int)) w
        have q17 := ints_get (k := .i64) (xs := nm2) (j := w) (by omega)
        have g'22 := (jn h16 (jn h16d (jn q17 g'21)))
        refine rcs g'22 (fun h18 h18d _ => ?_) (fun h18 h18d _ => ?_)
        · have h18n := bnT h18
          have q19 := prs_load (l := A) (j := w) (by omega)
          have g'23 := (jn h18 (jn h18n (jn q19 (jn @capG_s g'22))))
          refine runTf g'23 ?_
          have hst5 : selF A nm2 ((v : Nat) : Int) (w + 1) = selF A nm2 ((v : Nat) : Int) w ++ [(g1 A w, g2 A w)] := if_pos (by simpa using h18)
          refine hJ5 _ _ ⟨k5 - 1, by omega, _, _, _, ⟨w + 1, by omega, rfl, rfl⟩, (Abs.byG hbel_g4 [] rfl [0, 1, 2, 5] (by decide) ?_).le hle_g4⟩
          exact absRf (jn @hmvs (jn @hst5 @slr_nil))
        have h18n := bnT h18
        have g'24 := j2 h18 h18n g'22
        refine runTf g'24 ?_
        have hst5 : selF A nm2 ((v : Nat) : Int) (w + 1) = selF A nm2 ((v : Nat) : Int) w := if_neg (by simpa using h18)
        refine hJ5 _ _ ⟨k5 - 1, by omega, _, _, _, ⟨w + 1, by omega, rfl, rfl⟩, (Abs.byG hbel_g4 [] rfl [0, 1, 2, 3] (by decide) ?_).le hle_g4⟩
        exact absRf (jn @hmvs (jn @hst5 @slr_nil))
      obtain rfl : w = A.length := by omega
      have g'25 := (jn h16 (jn h16d (jn @capG_s g'21)))
      refine runTf g'25 ?_
      refine hJ4 _ _ ⟨k4 - 1, by omega, _, _, _, ⟨v + 1, cs ++ [selF A nm2 ((v : Nat) : Int) A.length], (Hg4 ++ [.cells (ownG (selF A nm2 ((v : Nat) : Int) A.length).length) 2 (prs (selF A nm2 ((v : Nat) : Int) A.length))]), (XX4 ++ [.cells (ownG (selF A nm2 ((v : Nat) : Int) A.length).length) 2 (prs (selF A nm2 ((v : Nat) : Int) A.length))]), by omega, (by rw [hgX4, List.append_assoc]), grow_bel hXb_g4 (by simp only [ABlk.bel, bels_prs, bels_ints]), (by rw [rclF, if_pos (by rw [hei]; exact beq_self_eq_true _), hce]), (by rw [List.length_append, List.length_singleton, List.length_append, List.length_singleton]; omega), (by rw [List.map_append, ← hXX, how]; rfl), (by rw [List.length_append, List.length_singleton]; omega), rfl, rfl⟩, Abs.byX hle_g4 hbel_g4 [] rfl [3, 0, 1, 5] (by decide) ?_⟩
      exact absRf (jn @hmvs (jn @slr_snoc (jn @hgl (jn @hcap (jn @how (jn @grow_len (jn @Nat.add_assoc @slr_nil)))))))
    obtain rfl : v = A.length := by omega
    have hcs : cluL A = cs := by rw [← rcl_eq hAn hAs hL2 hF, hce]
    refine runTf g'26 ?_
    refine hQ _ _ ((end_byG (.inl rfl) hbel_g4 (x1 := .tup [.sl (some (Hg4.length + 2, 0)) cs.length (capG cs.length), iV 0]) (l2 := [.cells (ownG cs.length) 1 (slr n0 cs)]) (.tup [.sl (some (Hg4.length, 0)) cs.length (capG cs.length), iV 0]) (resT Try.results12) [] rfl [2] (by decide) ⟨XX4, (by rw [← hgX4]; exact hXb_g4), (by rw [hcs]; exact hXX), (by rw [hcs, ← hgX4]), (by rw [hcs, ← hgX4])⟩ ?_).le hle_g4)
    exact absWf @hmvs
  have h1d := h1
  rw [hv] at h1d; cases h1d
theorem rclu_k (H : AHeap) (A : List (Int × Int)) (n0 : Nat) (W Hh : Int) (s : AV) (xs : List Int) (cs : List (List (Int × Int))) (hs : Sl H 1 s xs.length (ints .u8 xs)) (hv : vldB W Hh xs = true) (hA : froL W Hh xs = A) (hn0 : n0 = H.length) (hC : cluL A = cs) :
    ACalls Try.prog 12 [.agg [iV W, iV Hh, s]] H (fun v H' => ∃ X : AHeap, (∀ x ∈ X, ABlk.bel (H ++ X).length x = true) ∧ X = cs.map cblk ∧ v = .tup [.sl (some ((H ++ X).length, 0)) cs.length (capG cs.length), iV 0] ∧ H' = H ++ X ++ [.cells (ownG cs.length) 1 (slr n0 cs)]) := by
  subst hC; exact rclu_y H A n0 W Hh s xs hs hv hA hn0
theorem end_drop {P : Program} {fn : Func} {H G l1 : AHeap} {R : AV → AHeap → Prop} {F : Fr} {ex : Exit} (he : ex = .ret ∨ ex = .normal) (hpre : ∃ Y, G = H ++ Y) (hbel : HBel H.length H) (k : Nat) {n : Nat} {c : Option Nat} {z : Int} {o : Bool} {es : Nat} {xs : List AV}
    (hx : aResult P fn F (G ++ l1) = some (.tup [.sl (some (G.length + k, 0)) n c, .int .i64 z])) (hk : l1[k]? = some (.cells o es xs)) (hmv : ∀ σ : Nat → Nat, AV.mvs σ xs = xs)
    (hR : R (.tup [.sl (some (H.length, 0)) n c, .int .i64 z]) (H ++ [.cells o es xs])) : AEnd P fn H.length R ex F (G ++ l1) := by
  obtain ⟨Y, rfl⟩ := hpre
  have hg : (Y ++ l1)[Y.length + k]? = some (.cells o es xs) := by
    rw [List.getElem?_append_right (by omega), Nat.add_sub_cancel_left]; exact hk
  rw [List.append_assoc] at hx ⊢
  refine end_byG he hbel (.tup [.sl (some (H.length, 0)) n c, .int .i64 z]) hx [] rfl [Y.length + k] (List.pairwise_singleton _ _) hR ⟨?_, ?_⟩
  · have hs : sig H.length ((Y ++ l1) ++ []).length [Y.length + k] H.length = H.length + (Y.length + k) := by rw [sig_new0]; rfl
    have e : (AV.tup [.sl (some (H.length, 0)) n c, .int .i64 z]).mv (sig H.length ((Y ++ l1) ++ []).length [Y.length + k]) = .tup [.sl (some ((H ++ Y).length + k, 0)) n c, .int .i64 z] := by
      simp only [AV.mv, AV.mvs]
      rw [hs, List.length_append, Nat.add_assoc]
    rw [e]; exact W.refl _
  refine ⟨.inr (.inl ?_), trivial⟩
  rw [List.append_nil, hg]
  simp only [ABlk.mv, hmv]
theorem bst_y {L : List Int} {W : Int} {c : List Pt} {m : Nat} (h1 : 0 ≤ lv L W (gp c m)) (h2 : (bstS L W c m).2.2 < 0 ∨ lv L W (gp c m) < (bstS L W c m).2.2) : bstS L W c (m + 1) = (g1 c m, g2 c m, lv L W (gp c m)) := if_pos ⟨h1, h2⟩
theorem bst_n {L : List Int} {W : Int} {c : List Pt} {m : Nat} (h : ¬ (0 ≤ lv L W (gp c m) ∧ ((bstS L W c m).2.2 < 0 ∨ lv L W (gp c m) < (bstS L W c m).2.2))) : bstS L W c (m + 1) = bstS L W c m := if_neg h
/-- The goals of a plan. -/
noncomputable def golF (W H : Int) (xs : List Int) (gx gy : Int) : List T4 := golI (costL W H xs (gx, gy)) W (cluL (froL W H xs)) (cluL (froL W H xs)).length
theorem pcs_L (H : AHeap) (L : List Int) {W Hh gx gy : Int} {xs : List Int} (hL : costL W Hh xs (gx, gy) = L) (W' Hh' : Int) (s : AV) (xs' : List Int) (gx' gy' : Int) (hs : Sl H 1 s xs'.length (ints .u8 xs')) (hv : vldB W' Hh' xs' = true) (hg : isB W' Hh' xs' gx' gy' 1 = true) (e : (W, Hh, xs, gx, gy) = (W', Hh', xs', gx', gy') := by rfl) :
    ACalls Try.prog 27 [.agg [iV W', iV Hh', s], .agg [iV gx', iV gy']] H (fun v H' => v = .tup [.sl (some (H.length, 0)) L.length none, iV 0] ∧ H' = H ++ [.cells true 1 (ints .i64 L)]) := by
  simp only [Prod.mk.injEq] at e
  obtain ⟨rfl, rfl, rfl, rfl, rfl⟩ := e
  subst hL; exact pcs_y H W Hh s xs gx gy hs hv hg
theorem gols_n (H : AHeap) (W Hh : Int) (pp : AV) (xs : List Int) (gx gy : Int) (hpp : Sl H 1 pp xs.length (ints .u8 xs)) (hv : vldB W Hh xs = false) : ACalls Try.prog 14 [.agg [iV W, iV Hh, pp], .agg [iV gx, iV gy]] H (fun v H' => v = .tup [.sl none 0 (some 0), iV 1] ∧ H' = H) := by
  obtain ⟨bpp, opp, cpp, rfl, hbpp⟩ := hpp
  have hblpp := getElem?_lt hbpp
  have hb0pp := fun l => get_app (l := l) hbpp
  refine AcT true Try.func14 ?_; intro hbel Q hQ
  have g'1 := (jn @hbpp @hb0pp)
  refine runTf g'1 ?_
  rcases Bool.eq_false_or_eq_true (vldB W Hh xs) with h1 | h1
  · have h1d := h1
    rw [hv] at h1d; cases h1d
  have h1d := h1
  refine cv (pcs_n _ W _ _ xs _ _ (⟨_, _, _, rfl, by first | exact hb0pp _ | exact hbpp⟩) (by assumption)) ?_
  have g'2 := j2 h1 h1d g'1
  exact eR g'2 hQ hbel (.tup [.sl none 0 (some 0), iV 1]) Try.results14 ⟨rfl, rfl⟩
theorem gols_f (H : AHeap) (W Hh : Int) (pp : AV) (xs : List Int) (gx gy : Int) (hpp : Sl H 1 pp xs.length (ints .u8 xs)) (hv : vldB W Hh xs = true) (hg : isB W Hh xs gx gy 1 = false) : ACalls Try.prog 14 [.agg [iV W, iV Hh, pp], .agg [iV gx, iV gy]] H (fun v H' => v = .tup [.sl none 0 (some 0), iV 7] ∧ H' = H) := by
  obtain ⟨bpp, opp, cpp, rfl, hbpp⟩ := hpp
  have hblpp := getElem?_lt hbpp
  have hb0pp := fun l => get_app (l := l) hbpp
  refine AcT true Try.func14 ?_; intro hbel Q hQ
  have g'3 := (jn @hbpp @hb0pp)
  refine runTf g'3 ?_
  rcases Bool.eq_false_or_eq_true (vldB W Hh xs) with h1 | h1
  · have h1d := h1
    rcases Bool.eq_false_or_eq_true (isB W Hh xs gx gy 1) with h2 | h2
    · have h2d := h2
      rw [hg] at h2d; cases h2d
    have h2d := h2
    refine cv (pcs_f _ W _ _ xs _ _ (⟨_, _, _, rfl, by first | exact hb0pp _ | exact hbpp⟩) (by assumption) (by assumption)) ?_
    have g'4 := (jn h1 (jn h1d (j2 h2 h2d g'3)))
    exact eR g'4 hQ hbel (.tup [.sl none 0 (some 0), iV 7]) Try.results14 ⟨rfl, rfl⟩
  have h1d := h1
  rw [hv] at h1d; cases h1d
theorem gols_y (H : AHeap) (A : List (Int × Int)) (CS : List (List (Int × Int))) (L : List Int) (W Hh : Int) (pp : AV) (xs : List Int) (gx gy : Int) (hpp : Sl H 1 pp xs.length (ints .u8 xs)) (hv : vldB W Hh xs = true) (hg : isB W Hh xs gx gy 1 = true) (hA : froL W Hh xs = A) (hCS : cluL A = CS) (hL : costL W Hh xs (gx, gy) = L) (hLl : L.length = xs.length) : ACalls Try.prog 14 [.agg [iV W, iV Hh, pp], .agg [iV gx, iV gy]] H (fun v H' => v = .tup [.sl (some (H.length, 0)) ((golI L W CS CS.length).length) (capG (golI L W CS CS.length).length), iV 0] ∧ H' = H ++ [.cells (ownG (golI L W CS CS.length).length) 4 (r4 (golI L W CS CS.length))]) := by
  obtain ⟨bpp, opp, cpp, rfl, hbpp⟩ := hpp
  have hblpp := getElem?_lt hbpp
  have hb0pp := fun l => get_app (l := l) hbpp
  have hV := vld_iff.1 hv
  have hAb : ∀ p ∈ A, (0 ≤ p.1 ∧ p.1 < 64) ∧ 0 ≤ p.2 ∧ p.2 < 64 := hA ▸ fro_bd hV
  have hAi : ∀ p ∈ A, inB W Hh p.1 p.2 = true := hA ▸ fun p hp => inB_iff.2 (by have := (gridP_mem _ _ _ p).1 hp; have := hV.w0; have := hV.h0; omega)
  have hAn : A.Nodup := hA ▸ fro_nodup
  have hAl : A.length ≤ 4096 := hA ▸ fro_len hV
  have hC : CluP A CS := hCS ▸ cluL_ok hAn
  have hCl := hC.len
  refine AcT true Try.func14 ?_; intro hbel Q hQ
  have h0bel := hbel
  have g'5 := (jn @hbpp @hb0pp)
  refine runTf g'5 ?_
  rcases Bool.eq_false_or_eq_true (vldB W Hh xs) with h1 | h1
  · have h1d := h1
    rcases Bool.eq_false_or_eq_true (isB W Hh xs gx gy 1) with h2 | h2
    · have h2d := h2
      refine cv (pcs_L _ L hL W Hh _ xs gx gy (⟨_, _, _, rfl, by first | exact hb0pp _ | exact hbpp⟩) hv hg) ?_
      have g'6 := (jn h1 (jn h1d (j2 h2 h2d g'5)))
      refine runTf g'6 ?_
      obtain ⟨n_c, hn_c⟩ : ∃ n, n = (H ++ ([.cells true 0 [iV W, iV Hh, .sl (some (bpp, 0)) xs.length cpp], .cells true 0 [iV gx, iV gy], .cells true 1 (ints .i64 L)] : AHeap)).length := ⟨_, rfl⟩
      refine call_of (by kernel_rfl) (clus_k _ A n_c W Hh _ xs CS (⟨_, _, _, rfl, by first | exact hb0pp _ | exact hbpp⟩) (by assumption) hA hn_c hCS) ?_
      rintro _ _ ⟨X_c, hXg_c, hXe_c, rfl, rfl⟩
      obtain ⟨G_c, hG_c⟩ : ∃ G, G = H ++ (([.cells true 0 [iV W, iV Hh, .sl (some (bpp, 0)) xs.length cpp], .cells true 0 [iV gx, iV gy], .cells true 1 (ints .i64 L)] : AHeap) ++ (X_c ++ [.cells (ownG CS.length) 1 (slr n_c CS)])) := ⟨_, rfl⟩
      have hGe_c : ((H ++ ([.cells true 0 [iV W, iV Hh, .sl (some (bpp, 0)) xs.length cpp], .cells true 0 [iV gx, iV gy], .cells true 1 (ints .i64 L)] : AHeap)) ++ X_c) ++ [.cells (ownG CS.length) 1 (slr n_c CS)] = G_c := by rw [hG_c]; simp only [List.append_assoc]
      obtain ⟨br_c, hbr_c⟩ : ∃ b, b = ((H ++ ([.cells true 0 [iV W, iV Hh, .sl (some (bpp, 0)) xs.length cpp], .cells true 0 [iV gx, iV gy], .cells true 1 (ints .i64 L)] : AHeap)) ++ X_c).length := ⟨_, rfl⟩
      rw [← hbr_c, hGe_c]
      have hlX_c : n_c + X_c.length = br_c := by rw [hbr_c, hn_c]; exact List.length_append.symm
      have hlG_c : G_c.length = br_c + 1 := by rw [← hGe_c, List.length_append, ← hbr_c]; rfl
      have hlN_c : n_c = H.length + 3 := by rw [hn_c, List.length_append]; rfl
      have hlen_c := (by rw [hXe_c, List.length_map] at hlX_c; exact hlX_c : n_c + CS.length = br_c)
      have hXb_c : ∀ x ∈ ([.cells true 0 [iV W, iV Hh, .sl (some (bpp, 0)) xs.length cpp], .cells true 0 [iV gx, iV gy], .cells true 1 (ints .i64 L)] : AHeap) ++ (X_c ++ [.cells (ownG CS.length) 1 (slr n_c CS)]), ABlk.bel G_c.length x = true := by
        intro x hx
        rcases List.mem_append.1 hx with hx | hx
        · simp only [List.mem_cons, List.not_mem_nil, or_false] at hx
          rcases hx with rfl | rfl | rfl <;> simp only [ABlk.bel, AV.bels, AV.bel, bels_prs, bels_ints, Bool.and_true, Bool.true_and, decide_eq_true_eq] <;> omega
        rcases List.mem_append.1 hx with hx | hx
        · exact ABlk.bel_up (by rw [List.length_append, ← hn_c]; omega) (hXg_c x hx)
        rw [List.mem_singleton.1 hx]; exact bels_slr (by omega)
      have hbel_c := hbel_grow hG_c hbel hXb_c
      have hbpp_c := grow1 hG_c hb0pp
      have hblpp_c := getElem?_lt hbpp_c
      have hb0pp_c := fun l => get_app (l := l) hbpp_c
      have hpre_c : ∃ X, G_c = H ++ X := ⟨_, hG_c⟩
      have hle_c := pre_le hpre_c
      have hbE_c0_c : G_c[H.length]? = some (.cells true 0 [iV W, iV Hh, .sl (some (bpp, 0)) xs.length cpp]) := by rw [hG_c, List.getElem?_append_right (by omega), Nat.sub_self]; rfl
      have hblE_c0_c := getElem?_lt hbE_c0_c
      have hb0E_c0_c := fun l => get_app (l := l) hbE_c0_c
      have hbE_c1_c : G_c[H.length + 1]? = some (.cells true 0 [iV gx, iV gy]) := by rw [hG_c, List.getElem?_append_right (by omega), Nat.add_sub_cancel_left]; rfl
      have hblE_c1_c := getElem?_lt hbE_c1_c
      have hb0E_c1_c := fun l => get_app (l := l) hbE_c1_c
      have hbE_c2_c : G_c[H.length + 2]? = some (.cells true 1 (ints .i64 L)) := by rw [hG_c, List.getElem?_append_right (by omega), Nat.add_sub_cancel_left]; rfl
      have hblE_c2_c := getElem?_lt hbE_c2_c
      have hb0E_c2_c := fun l => get_app (l := l) hbE_c2_c
      have hbR_c_c : G_c[br_c]? = some (.cells (ownG CS.length) 1 (slr n_c CS)) := by rw [← hGe_c, hbr_c, List.getElem?_append_right (Nat.le_refl _), Nat.sub_self]; rfl
      have hblR_c_c := getElem?_lt hbR_c_c
      have hb0R_c_c := fun l => get_app (l := l) hbR_c_c
      have hcl_c := grow_at hG_c hXe_c hn_c
      have hcl0_c : ∀ i (l : AHeap), i < CS.length → (G_c ++ l)[n_c + i]? = some (.cells true 2 (prs (gc CS i))) := fun i l hi => get_app (l := l) (hcl_c i hi)
      have g'7 := (jn @hbpp_c (jn @hb0pp_c (jn h1 (jn h1d (jn h2 (jn h2d (jn @hbE_c0_c (jn @hb0E_c0_c (jn @hbE_c1_c (jn @hb0E_c1_c (jn @hbE_c2_c (jn @hb0E_c2_c (jn @hbR_c_c (jn @hb0R_c_c (jn @hcl_c (jn @hcl0_c (jn @slr_len @slr_ones)))))))))))))))))
      refine runTf g'7 ?_
      refine glp (fun k F Hx => ∃ i : Nat, i + k = CS.length ∧ F = [(2, .ptr (some (H.length, 0))), (6, .sl (some (H.length + 2, 0)) L.length none), (10, .sl (some (G_c.length, 0)) ((golS L W CS i).length) (capG (golS L W CS i).length)), (31, .sl (some (br_c, 0)) CS.length (capG CS.length)), (32, iV ((CS.length : Nat) : Int)), (33, iV ((i : Nat) : Int))] ∧ Hx = G_c ++ [.cells (ownG (golS L W CS i).length) 4 (r4 (golS L W CS i))]) (CS.length) ?_ ?_
      · refine ⟨_, _, _, ⟨0, by omega, rfl, rfl⟩, (Abs.byE hbel_c [.cells false 4 []] rfl [0] (by decide) ?_).le hle_c⟩
        exact absRf (jn @golS.eq_1 (jn @r4_append (jn @r4_cons (jn @r4_nil @mvs_r4))))
      rintro k0 F Hx ⟨i, hm0, rfl, rfl⟩ J0 hJ0
      have hgl0 := golS_len (L := L) (W := W) (CS := CS) i
      have g'8 := (jn @r4_len (jn @r4_one g'7))
      refine rcs g'8 (fun h3 h3d _ => ?_) (fun h3 h3d g'20 => ?_)
      · have hlt : i < CS.length := by omega
        have hgl := hC.le i hlt
        have q4 := slr_get (n := n_c) (cs := CS) (i := i) (by omega)
        have g'9 := (jn h3 (jn h3d (jn q4 g'8)))
        refine runTf g'9 ?_
        refine glp (fun k F Hx => ∃ m : Nat, m + k = (gc CS i).length ∧ F = [(2, .ptr (some (H.length, 0))), (6, .sl (some (H.length + 2, 0)) L.length none), (10, .sl (some (G_c.length, 0)) ((golS L W CS i).length) (capG (golS L W CS i).length)), (13, .ptr (some (G_c.length + 1, 0))), (31, .sl (some (br_c, 0)) CS.length (capG CS.length)), (32, iV ((CS.length : Nat) : Int)), (33, iV ((i : Nat) : Int)), (40, .sl (some (n_c + i, 0)) ((gc CS i).length) none), (41, iV (((gc CS i).length : Nat) : Int)), (42, iV ((m : Nat) : Int))] ∧ Hx = G_c ++ [.cells (ownG (golS L W CS i).length) 4 (r4 (golS L W CS i)), .cells true 0 [iV ((bstS L W (gc CS i) m).1), iV ((bstS L W (gc CS i) m).2.1), iV ((bstS L W (gc CS i) m).2.2), iV (((gc CS i).length : Nat) : Int)]]) ((gc CS i).length) ?_ ?_
        · refine ⟨_, _, _, ⟨0, by omega, rfl, rfl⟩, (Abs.byG hbel_c [] rfl [0, 1] (by decide) ?_).le hle_c⟩
          exact absRf (jn @bstS.eq_1 (jn @r4_append (jn @r4_cons (jn @r4_nil @mvs_r4))))
        rintro k1 F Hx ⟨m, hm1, rfl, rfl⟩ J1 hJ1
        refine rcs g'9 (fun h5 h5d _ => ?_) (fun h5 h5d g'17 => ?_)
        · have hlm : m < (gc CS i).length := by omega
          have hmA : (g1 (gc CS i) m, g2 (gc CS i) m) ∈ A := hC.mem i m hlt hlm
          have hin := hAi _ hmA
          have hib := hV.idx (show inB W Hh (g1 (gc CS i) m) (g2 (gc CS i) m) = true from hin)
          have hcb := hAb _ hmA
          simp only at hcb
          have q6 := prs_load (l := gc CS i) (j := m) (by omega)
          have q7 := ints_get (k := .i64) (xs := L) (j := (((g2 (gc CS i) m) * W) + (g1 (gc CS i) m)).toNat) (by omega)
          have g'10 := (jn h5 (jn h5d (jn q6 (jn q7 g'9))))
          refine rgs g'10 (fun h8 h8d g'11 => ?_) (fun h8 h8d g'16 => ?_)
          · have hn0 : 0 ≤ lv L W (gp (gc CS i) m) := h8d
            refine rgs g'11 (fun h9 h9d g'12 => ?_) (fun h9 h9d g'15 => ?_)
            · have hng := h9d
              refine rcs g'12 (fun h10 h10d g'13 => ?_) (fun h10 h10d g'14 => ?_)
              · have hby := bst_y hn0 (.inr h10d)
                refine runTf g'13 ?_
                refine hJ1 _ _ ⟨k1 - 1, by omega, _, _, _, ⟨m + 1, by omega, rfl, rfl⟩, (Abs.byG hbel_c [] rfl [0, 1] (by decide) ?_).le hle_c⟩
                exact absRf (jn @hby (jn @r4_append (jn @r4_cons (jn @r4_nil @mvs_r4))))
              have hbn := bst_n (L := L) (W := W) (c := gc CS i) (m := m) (fun q => q.2.elim hng h10d)
              refine runTf g'14 ?_
              refine hJ1 _ _ ⟨k1 - 1, by omega, _, _, _, ⟨m + 1, by omega, rfl, rfl⟩, (Abs.byG hbel_c [] rfl [0, 1] (by decide) ?_).le hle_c⟩
              exact absRf (jn @hbn (jn @r4_append (jn @r4_cons (jn @r4_nil @mvs_r4))))
            have hby := bst_y hn0 (.inl h9d)
            refine runTf g'15 ?_
            refine hJ1 _ _ ⟨k1 - 1, by omega, _, _, _, ⟨m + 1, by omega, rfl, rfl⟩, (Abs.byG hbel_c [] rfl [0, 1] (by decide) ?_).le hle_c⟩
            exact absRf (jn @hby (jn @r4_append (jn @r4_cons (jn @r4_nil @mvs_r4))))
          have hbn := bst_n (L := L) (W := W) (c := gc CS i) (m := m) (fun q => h8d q.1)
          refine runTf g'16 ?_
          refine hJ1 _ _ ⟨k1 - 1, by omega, _, _, _, ⟨m + 1, by omega, rfl, rfl⟩, (Abs.byG hbel_c [] rfl [0, 1] (by decide) ?_).le hle_c⟩
          exact absRf (jn @hbn (jn @r4_append (jn @r4_cons (jn @r4_nil @mvs_r4))))
        obtain rfl : m = (gc CS i).length := by omega
        refine rcs g'17 (fun h11 h11d _ => ?_) (fun h11 h11d g'19 => ?_)
        · have g'18 := (jn h11 (jn h11d (jn @prs_len (jn @capG_s g'17))))
          refine runTf g'18 ?_
          have hgs : golS L W CS (i + 1) = golS L W CS i ++ [((bstS L W (gc CS i) (gc CS i).length).1, (bstS L W (gc CS i) (gc CS i).length).2.1, (bstS L W (gc CS i) (gc CS i).length).2.2, (((gc CS i).length : Nat) : Int))] := if_pos (by assumption)
          refine hJ0 _ _ ⟨k0 - 1, by omega, _, _, _, ⟨i + 1, by omega, rfl, rfl⟩, (Abs.byG hbel_c [] rfl [3] (by decide) ?_).le hle_c⟩
          exact absRf (jn @hgs (jn @r4_append (jn @r4_cons (jn @r4_nil @mvs_r4))))
        refine runTf g'19 ?_
        have hgs : golS L W CS (i + 1) = golS L W CS i := if_neg (by assumption)
        refine hJ0 _ _ ⟨k0 - 1, by omega, _, _, _, ⟨i + 1, by omega, rfl, rfl⟩, (Abs.byG hbel_c [] rfl [0] (by decide) ?_).le hle_c⟩
        exact absRf (jn @hgs (jn @r4_append (jn @r4_cons (jn @r4_nil @mvs_r4))))
      obtain rfl : i = CS.length := by omega
      have hpl : (golI L W CS CS.length).length = (golS L W CS CS.length).length := (golI_perm _).length_eq
      refine runTf g'20 ?_
      refine cvr g'20 (srtg_k _ _ _ (golI L W CS CS.length) (by first | rfl | (rw [get_newk]; rfl) | (rw [get_new0]; rfl)) (by omega) (golI_sorted hC (Nat.le_refl _)) (golI_perm _)) ?_
      exact hQ _ _ (end_drop (n := (golS L W CS CS.length).length) (c := (capG (golS L W CS CS.length).length)) (z := 0) (.inl rfl) hpre_c h0bel 0 (resT Try.results14) rfl (fun _ => mvs_r4) ⟨by rw [hpl], by rw [hpl]⟩)
    have h2d := h2
    rw [hg] at h2d; cases h2d
  have h1d := h1
  rw [hv] at h1d; cases h1d
/-- What is left to improve: each unknown cost counts B. -/
def pot (B : Nat) : List Int → Nat
  | [] => 0
  | x :: r => (if x < 0 then B else x.toNat) + pot B r
theorem pot_set {B : Nat} : ∀ {L : List Int} {i : Nat} {v : Int}, i < L.length → 0 ≤ v → v < B → (gi L i < 0 ∨ v < gi L i) → pot B (L.set i v) < pot B L
  | [], i, _, h, _, _, _ => by simp at h
  | x :: r, 0, v, _, h0, hB, h => by
    have e : gi (x :: r) 0 = x := rfl
    rw [e] at h
    simp only [List.set_cons_zero, pot]
    rw [if_neg (show ¬ v < 0 by omega)]
    split <;> omega
  | x :: r, i + 1, v, hl, h0, hB, h => by
    have e : gi (x :: r) (i + 1) = gi r i := rfl
    rw [e] at h
    have := pot_set (L := r) (i := i) (v := v) (by simpa using hl) h0 hB h
    simp only [List.set_cons_succ, pot]; omega
theorem pot_le {B : Nat} : ∀ {L : List Int}, (∀ i, i < L.length → gi L i < B) → pot B L ≤ L.length * B
  | [], _ => Nat.zero_le _
  | x :: r, h => by
    have ih := pot_le (B := B) (L := r) fun i hi => h (i + 1) (by simpa using hi)
    have h0 : x < B := h 0 (by simp)
    simp only [pot, List.length_cons]
    rw [Nat.add_mul, Nat.one_mul]
    split <;> omega
section
variable (W H : Int) (xs : List Int) (goal : Pt)
/-- Where the improving stands: Q the cells whose steps are to be looked at, v the cell whose steps below q have been looked at. -/
structure Rlx (L : List Int) (Q : List Pt) (v : Pt) (q : Nat) : Prop where
  gin : inB W H goal.1 goal.2 = true
  len : (L.length : Int) = W * H
  neg : ∀ i, i < L.length → gi L i < 0 → gi L i = -1
  gl : lv L W goal = 0
  frm : ∀ c : Pt, inB W H c.1 c.2 = true → 0 ≤ lv L W c → isB W H xs c.1 c.2 1 = true ∧ (c = goal ∨ ∃ b k, k < 8 ∧ to b k = c ∧ 0 ≤ stk W H xs b k ∧ 0 ≤ lv L W b ∧ lv L W b + stk W H xs b k ≤ lv L W c)
  out : ∀ (c : Pt) k, k < 8 → 0 ≤ stk W H xs c k → 0 ≤ lv L W c → c ∈ Q ∨ (c = v ∧ q ≤ k) ∨ (0 ≤ lv L W (to c k) ∧ lv L W (to c k) ≤ lv L W c + stk W H xs c k)
  qin : ∀ c ∈ Q, isB W H xs c.1 c.2 1 = true ∧ 0 ≤ lv L W c
  bd : ∀ c : Pt, inB W H c.1 c.2 = true → 0 ≤ lv L W c → lv L W c + 99 ≤ 99 * (nd L : Int)
variable {W H xs goal}
theorem nd_setle : ∀ {L : List Int} {i : Nat} {v : Int}, i < L.length → 0 ≤ gi L i → 0 ≤ v → nd (L.set i v) = nd L
  | [], i, _, h, _, _ => by simp at h
  | x :: r, 0, v, _, h1, h2 => by
    have e : gi (x :: r) 0 = x := rfl
    rw [e] at h1
    simp only [List.set_cons_zero, nd]
    rw [if_pos h2, if_pos h1]
  | x :: r, i + 1, v, h, h1, h2 => by
    have e : gi (x :: r) (i + 1) = gi r i := rfl
    rw [e] at h1
    have := nd_setle (L := r) (i := i) (v := v) (by simpa using h) h1 h2
    simp only [List.set_cons_succ, nd, this]
theorem rlx0 {n : Nat} (hn : (n : Int) = W * H) (hg : isB W H xs goal.1 goal.2 1 = true) (v : Pt) : Rlx W H xs goal ((List.replicate n (-1)).set (ixc W goal) 0) [goal] v 8 := by
  have hgi := isB_in hg
  have hi := idx_bd hgi
  have hl : ((List.replicate n (-1 : Int)).length : Int) = W * H := by rw [List.length_replicate]; exact hn
  have hlt : ixc W goal < (List.replicate n (-1 : Int)).length := by unfold ixc; omega
  have key := fun (c : Pt) (hc : inB W H c.1 c.2 = true) => lv_set (x := 0) hl hgi hc
  have only : ∀ c : Pt, inB W H c.1 c.2 = true → 0 ≤ lv ((List.replicate n (-1)).set (ixc W goal) 0) W c → c = goal := fun c hc h => by
    rw [key c hc] at h
    refine Classical.byContradiction fun q => ?_
    rw [if_neg (fun e => q e.symm), lv_rep hn hc] at h
    omega
  have hg0 : lv ((List.replicate n (-1)).set (ixc W goal) 0) W goal = 0 := by rw [key goal hgi, if_pos rfl]
  have hnd : nd ((List.replicate n (-1 : Int)).set (ixc W goal) 0) = 1 := by
    rw [nd_set hlt (by rw [gi_rep (by rwa [List.length_replicate] at hlt)]; decide) (Int.le_refl _), nd_rep]
  refine ⟨hgi, by rw [List.length_set]; exact hl, fun i hi hneg => ?_, hg0, fun c hc h => ?_, fun c k hk hs h => .inl ?_, fun c hc => ?_, fun c hc h => ?_⟩
  · rw [List.length_set] at hi
    rw [gi_setC hlt] at hneg ⊢
    split at hneg
    · omega
    rename_i q; rw [if_neg q]; exact gi_rep (by rwa [List.length_replicate] at hi)
  · rw [only c hc h]; exact ⟨hg, .inl rfl⟩
  · rw [only c (stk_in hs).1 h]; exact List.mem_singleton.2 rfl
  · rw [List.mem_singleton.1 hc]; exact ⟨hg, by rw [hg0]; exact Int.le_refl _⟩
  rw [only c hc h, hg0, hnd]; decide
/-- The next cell of the list. -/
theorem rlx_pop {L : List Int} {Q : List Pt} {v c : Pt} (D : Rlx W H xs goal L (c :: Q) v 8) : Rlx W H xs goal L Q c 0 := by
  refine ⟨D.gin, D.len, D.neg, D.gl, D.frm, fun d k hk hs h => ?_, fun d hd => D.qin d (List.mem_cons_of_mem _ hd), D.bd⟩
  rcases D.out d k hk hs h with q | q | q
  · rcases List.mem_cons.1 q with r | r
    · exact .inr (.inl ⟨r, Nat.zero_le _⟩)
    exact .inl r
  · omega
  exact .inr (.inr q)
theorem rlx_skip {L : List Int} {Q : List Pt} {v : Pt} {q : Nat} (D : Rlx W H xs goal L Q v q) (h : 0 ≤ stk W H xs v q → 0 ≤ lv L W (to v q) ∧ lv L W (to v q) ≤ lv L W v + stk W H xs v q) : Rlx W H xs goal L Q v (q + 1) := by
  refine ⟨D.gin, D.len, D.neg, D.gl, D.frm, fun d k hk hs hl => ?_, D.qin, D.bd⟩
  rcases D.out d k hk hs hl with r | ⟨r1, r2⟩ | r
  · exact .inl r
  · by_cases e : k = q
    · subst e; subst r1; exact .inr (.inr (h hs))
    exact .inr (.inl ⟨r1, by omega⟩)
  exact .inr (.inr r)
theorem rlx_set {L : List Int} {Q : List Pt} {v : Pt} {q : Nat} (D : Rlx W H xs goal L Q v q) (hq : q < 8) (hv : 0 ≤ lv L W v) (hs : 0 ≤ stk W H xs v q) (hlt : lv L W (to v q) < 0 ∨ lv L W v + stk W H xs v q < lv L W (to v q)) (hne : to v q ≠ v) :
    Rlx W H xs goal (L.set (ixc W (to v q)) (lv L W v + stk W H xs v q)) (Q ++ [to v q]) v (q + 1) := by
  have hvi := (stk_in hs).1
  have hti := (stk_in hs).2.1
  have h99 := (stk_in hs).2.2.1
  have h70 := (stk_in hs).2.2.2
  have hi := idx_bd hti
  have hlx : ixc W (to v q) < L.length := by have := D.len; unfold ixc; omega
  have hgn : to v q ≠ goal := fun e => by rw [e, D.gl] at hlt; omega
  have hbv := D.bd v hvi hv
  generalize hx : lv L W v + stk W H xs v q = x at *
  generalize hT : to v q = T at *
  have key := fun (c : Pt) (hc : inB W H c.1 c.2 = true) => lv_set (x := x) D.len hti hc
  have self : lv (L.set (ixc W T) x) W T = x := by rw [key T hti, if_pos rfl]
  have oth : ∀ c : Pt, inB W H c.1 c.2 = true → T ≠ c → lv (L.set (ixc W T) x) W c = lv L W c := fun c hc h => by rw [key c hc, if_neg h]
  -- a cost that was known stays known, and is not greater
  have less : ∀ c : Pt, inB W H c.1 c.2 = true → 0 ≤ lv L W c → 0 ≤ lv (L.set (ixc W T) x) W c ∧ lv (L.set (ixc W T) x) W c ≤ lv L W c := fun c hc h => by
    by_cases e : T = c
    · subst e; rw [self]; omega
    rw [oth c hc e]; omega
  have hnd : (nd L : Int) ≤ nd (L.set (ixc W T) x) ∧ (lv L W T < 0 → (nd (L.set (ixc W T) x) : Int) = nd L + 1) := by
    by_cases h : gi L (ixc W T) < 0
    · rw [nd_set hlx h (by omega)]; omega
    have h2 : ¬ lv L W T < 0 := h
    rw [nd_setle hlx (by omega) (by omega)]
    exact ⟨Int.le_refl _, fun q => (h2 q).elim⟩
  refine ⟨D.gin, by rw [List.length_set]; exact D.len, fun i hi hneg => ?_, by rw [oth goal D.gin hgn]; exact D.gl, fun c hc h => ?_, fun c k hk hsc hl => ?_, fun c hc => ?_, fun c hc h => ?_⟩
  · rw [List.length_set] at hi
    rw [gi_setC hlx] at hneg ⊢
    split at hneg
    · omega
    rename_i q; rw [if_neg q]; exact D.neg i hi hneg
  · by_cases e : T = c
    · subst e
      refine ⟨by have := (stI_free hs).2.1; rw [← hT]; exact this, .inr ⟨v, q, hq, hT, hs, (less v hvi hv).1, ?_⟩⟩
      rw [self, oth v hvi hne]; omega
    rw [oth c hc e] at h ⊢
    obtain ⟨f1, f2⟩ := D.frm c hc h
    refine ⟨f1, f2.imp id ?_⟩
    rintro ⟨b, k, hk, hb, hsb, hlb, hle⟩
    have := less b (stk_in hsb).1 hlb
    exact ⟨b, k, hk, hb, hsb, this.1, by omega⟩
  · have hci := (stk_in hsc).1
    by_cases e : T = c
    · subst e; exact .inl (List.mem_append.2 (.inr (List.mem_singleton.2 rfl)))
    rw [oth c hci e] at hl ⊢
    rcases D.out c k hk hsc hl with r | ⟨r1, r2⟩ | r
    · exact .inl (List.mem_append.2 (.inl r))
    · by_cases e2 : k = q
      · subst e2; subst r1
        right; right
        rw [hT, self]; omega
      exact .inr (.inl ⟨r1, by omega⟩)
    have := less _ (stk_in hsc).2.1 r.1
    exact .inr (.inr ⟨this.1, by omega⟩)
  · rcases List.mem_append.1 hc with r | r
    · have := D.qin c r
      exact ⟨this.1, (less c (isB_in this.1) this.2).1⟩
    rw [List.mem_singleton.1 r, self]
    exact ⟨by have := (stI_free hs).2.1; rw [← hT]; exact this, by omega⟩
  by_cases e : T = c
  · subst e
    rw [self]
    rcases hlt with r | r
    · have := hnd.2 r; omega
    have := D.bd T hti (by omega); omega
  rw [oth c hc e] at h ⊢
  have := D.bd c hc h; omega
theorem rlx_end {L : List Int} {v : Pt} (D : Rlx W H xs goal L [] v 8) : CostP W H xs goal L := by
  have hout : ∀ (c : Pt) k, k < 8 → 0 ≤ stk W H xs c k → 0 ≤ lv L W c → 0 ≤ lv L W (to c k) ∧ lv L W (to c k) ≤ lv L W c + stk W H xs c k := fun c k hk hs h => by
    rcases D.out c k hk hs h with q | q | q
    · cases q
    · omega
    exact q
  refine ⟨D.len, D.neg, D.gl, hout, fun c hc h => ?_, fun c hc h => (D.frm c hc h).1, fun c hc => ?_⟩
  · rcases (D.frm c hc h).2 with q | ⟨b, k, hk, hb, hs, hl, hle⟩
    · exact .inl q
    have := hout b k hk hs hl
    rw [hb] at this
    exact .inr ⟨b, k, hk, hb, hs, hl, by omega⟩
  by_cases h : 0 ≤ lv L W c
  · have := D.bd c hc h
    have := nd_le L
    omega
  omega
theorem to_ne {v : Pt} {k : Nat} : to v k ≠ v := fun e => by
  have e1 := congrArg Prod.fst e
  have e2 := congrArg Prod.snd e
  unfold to at e1 e2
  simp only at e1 e2
  unfold trn at e1 e2
  split at e1 <;> simp only at e1 e2 <;> omega
end
theorem prs_dropv {l : List (Int × Int)} {k : Nat} (h : k ≤ l.length) : List.take ((l.length - k) * 2) (List.drop (k * 2) (prs l)) = prs (l.drop k) := by
  have g : ∀ (l : List (Int × Int)) (k : Nat), List.drop (k * 2) (prs l) = prs (l.drop k) := by
    intro l
    induction l with
    | nil => intro k; simp [prs_nil]
    | cons a l ih =>
      intro k
      cases k with
      | zero => simp
      | succ k => rw [prs_cons, show (k + 1) * 2 = k * 2 + 1 + 1 by omega, List.drop_succ_cons, List.drop_succ_cons, List.drop_succ_cons, ih]
  rw [g, ← List.length_drop, prs_take, List.take_length]
def TT : List Pt := [(1, 0), (1, 1), (0, 1), (-1, 1), (-1, 0), (-1, -1), (0, -1), (1, -1)]
theorem TT_trn : ∀ {q : Nat}, q < 8 → trn q = (g1 TT q, g2 TT q)
  | 0, _ => rfl
  | 1, _ => rfl
  | 2, _ => rfl
  | 3, _ => rfl
  | 4, _ => rfl
  | 5, _ => rfl
  | 6, _ => rfl
  | 7, _ => rfl
  | q + 8, h => by omega
theorem TT_bd : ∀ {q : Nat}, q < 8 → (-1 ≤ g1 TT q ∧ g1 TT q ≤ 1) ∧ (-1 ≤ g2 TT q ∧ g2 TT q ≤ 1) ∧ ¬ (g1 TT q = 0 ∧ g2 TT q = 0)
  | 0, _ => by decide
  | 1, _ => by decide
  | 2, _ => by decide
  | 3, _ => by decide
  | 4, _ => by decide
  | 5, _ => by decide
  | 6, _ => by decide
  | 7, _ => by decide
  | q + 8, h => by omega
theorem all_rep {nm : List Int} {n : Nat} (hl : nm.length = n) (h : ∀ j, j < n → gi nm j = -1) : nm = List.replicate n (-1) := by
  refine List.ext_getElem (by rw [hl, List.length_replicate]) fun i h1 h2 => ?_
  have := h i (by omega)
  rw [List.getElem_replicate]
  simpa [gi, List.getD_eq_getElem?_getD, h1] using this
theorem drop_gp {Z : List Pt} {o : Nat} (h : o < Z.length) : Z.drop o = (g1 Z o, g2 Z o) :: Z.drop (o + 1) := by
  rw [List.drop_eq_getElem_cons h]
  have := gp_eq h
  unfold gp at this
  rw [this]
set_option maxHeartbeats 4000000 in
set_option maxRecDepth 100000 in
theorem rturn_c (H : AHeap)  : ACalls Try.prog 48 [] H (fun v H' => v = .sl (some (H.length, 0)) 8 (some 8) ∧ H' = H ++ [.cells true 2 [iV 1, iV 0, iV 1, iV 1, iV 0, iV 1, iV (-1), iV 1, iV (-1), iV 0, iV (-1), iV (-1), iV 0, iV (-1), iV 1, iV (-1)]]) := by
  refine AcT true Try.func48 ?_; intro hbel Q hQ
  simp -implicitDefEqProofs (maxSteps := 2000000) (disch := omega) only [aApp_nil, aApp_none, aApp_some, aApp_grw, simprocAttr, amset, tyset, Function.comp_apply, one1, lenV, calleeOf, lateOk, belowV, aop, AV.ofValue, AV.ofCell, AV.cells, AV.flat, AV.one, arep, aBin, aConv]
  repeat refine And.intro (by omega) ?_
  refine hQ _ _ (end_byG (.inl rfl) hbel (x1 := .sl (some (H.length, 0)) 8 (some 8)) (l2 := [.cells true 2 [iV 1, iV 0, iV 1, iV 1, iV 0, iV 1, iV (-1), iV 1, iV (-1), iV 0, iV (-1), iV (-1), iV 0, iV (-1), iV 1, iV (-1)]]) (.sl (some (H.length, 0)) 8 (some 8)) (ret_of Try.results48 (by simp -implicitDefEqProofs (maxSteps := 2000000) (disch := omega) only [simprocAttr, amset, tyset, Function.comp_apply, one1, lenV, calleeOf, lateOk, belowV, aop, AV.ofValue, AV.ofCell, AV.cells, AV.flat, AV.one, arep, aBin, aAppend, aConv])) [] rfl [0] (by decide) ⟨rfl, rfl⟩ ?_)
  simp -implicitDefEqProofs (maxSteps := 2000000) (disch := omega) only [W_nil0, W_nil1, W_cap', Wc_nil0, Wc_nil1, Wc_cap', absF, absH, W_refl', W_any', W_agg, W_tup, Ws_cons, Ws_refl', Wc_refl', Wcs_cons, Wcs_nil, look, List.cons_append, List.nil_append, List.append_nil, List.length_cons, List.length_nil, Nat.zero_add, Nat.reduceAdd, AV.mv, AV.mvs, ABlk.mv, sig_new0, sig_newk, sig_lt, List.getElem?_cons_zero, List.getElem?_cons_succ, mvs_ints, mvs_bools, mvs_prs, mvs_append, cond_true, cond_false, beq_self_eq_true, Nat.reduceBEq, true_and, and_true, or_true, true_or, and_self, decide_true, Nat.add_zero, reduceCtorEq, false_or, or_false]
  repeat' (first | exact True.intro | exact Nat.add_lt_add_left (by decide) _ | exact Nat.lt_add_of_pos_right (by decide) | refine W_nils ?_ (Or.inr rfl) | refine W_nils ?_ (Or.inl rfl) | refine Wc_nils ?_ (Or.inr rfl) | refine Wc_nils ?_ (Or.inl rfl) | exact W_cap | rfl | refine And.intro ?_ ?_ | exact Or.inl rfl | exact Or.inr rfl | exact Or.inr (Or.inl rfl) | exact Or.inr (Or.inr BW.emp) | exact Or.inr BW.emp | exact BW.emp | exact Or.inr (Or.inr BW.pre) | exact Or.inr BW.pre | exact BW.pre | refine Or.inr (BW.cells ?_) | refine BW.cells ?_ | refine Or.inr (Or.inr (BW.cells ?_)) | exact Wc_cap)
theorem rfree_c (H : AHeap) (W Hh : Int) (pp : AV) (xs : List Int) (x y : Int) (hpp : Sl H 1 pp xs.length (ints .u8 xs)) (hV : Vld W Hh xs) : ACalls Try.prog 47 [.agg [iV W, iV Hh, pp], .agg [iV x, iV y]] H (fun v H' => v = .bool (isB W Hh xs x y 1) ∧ H' = H) := by
  obtain ⟨bpp, opp, cpp, rfl, hbpp⟩ := hpp
  have hblpp := getElem?_lt hbpp
  have hb0pp := fun l => get_app (l := l) hbpp
  refine AcT true Try.func47 ?_; intro hbel Q hQ
  have g'1 := (jn @hbpp @hb0pp)
  refine runTf g'1 ?_
  refine cvr g'1 (at_c (x := x) (y := y) hV (by first | exact hb0pp _ | exact hbpp) rfl) ?_
  exact eP hQ hbel (.bool ((atI W Hh xs x y) == 1)) Try.results47 ⟨by rw [isB_at (by decide)], rfl⟩
theorem rstep_c (H : AHeap) (dx dy : Int) (W Hh : Int) (pp : AV) (xs : List Int) (ax ay : Int) (bx by_ : Int) (hpp : Sl H 1 pp xs.length (ints .u8 xs)) (hV : Vld W Hh xs) (hax : -100000 ≤ ax ∧ ax ≤ 100000) (hay : -100000 ≤ ay ∧ ay ≤ 100000) (hbx : bx = ax + dx) (hby : by_ = ay + dy) (hdx : -1 ≤ dx ∧ dx ≤ 1) (hdy : -1 ≤ dy ∧ dy ≤ 1) (hdd : ¬ (dx = 0 ∧ dy = 0)) : ACalls Try.prog 49 [.agg [iV W, iV Hh, pp], .agg [iV ax, iV ay], .agg [iV bx, iV by_]] H (fun v H' => v = iV (stI W Hh xs ax ay dx dy) ∧ H' = H) := by
  obtain ⟨bpp, opp, cpp, rfl, hbpp⟩ := hpp
  have hblpp := getElem?_lt hbpp
  have hb0pp := fun l => get_app (l := l) hbpp
  have hsfx : bx - ax = dx := by omega
  have hsfy : by_ - ay = dy := by omega
  have hw1 : within dx 1 = true := by unfold within; rw [decide_eq_true (by omega), decide_eq_true (by omega)]; rfl
  have hw2 : within dy 1 = true := by unfold within; rw [decide_eq_true (by omega), decide_eq_true (by omega)]; rfl
  refine AcT true Try.func49 ?_; intro hbel Q hQ
  have g'2 := (jn @hbpp (jn @hb0pp (jn @hsfx (jn @hsfy (jn @hw1 @hw2)))))
  refine runTf g'2 ?_
  refine cv (rfree_c _ W _ _ xs _ _ (⟨_, _, _, rfl, by first | exact hb0pp _ | exact hbpp⟩) hV) ?_
  refine rgs g'2 (fun h1 h1d g'3 => ?_) (fun h1 h1d g'15 => ?_)
  · have hk1 := h1d
    refine runTf g'3 ?_
    refine cv (rfree_c _ W _ _ xs _ _ (⟨_, _, _, rfl, by first | exact hb0pp _ | exact hbpp⟩) hV) ?_
    refine rcs g'3 (fun h2 h2d g'4 => ?_) (fun h2 h2d g'5 => ?_)
    · have hst : stI W Hh xs ax ay dx dy = -1 := by unfold stI; rw [← hbx, ← hby, h2d, Bool.and_false]; rfl
      exact eR g'4 hQ hbel (iV (-1)) Try.results49 ⟨by rw [hst], rfl⟩
    have hk2 : (isB W Hh xs ax ay 1 && isB W Hh xs (ax + dx) (ay + dy) 1) = true := by rw [← hbx, ← hby, hk1, h2d]; rfl
    refine rgs g'5 (fun h3 h3d _ => ?_) (fun h3 h3d _ => ?_)
    · have h3n := bnT h3
      have hd1 : dx = 0 := h3d
      have hst : stI W Hh xs ax ay dx dy = 70 := by unfold stI; rw [if_pos hk2, if_pos (.inl hd1)]
      have g'6 := (jn h3 (jn h3n (jn @int_bne (jn @int_beq g'5))))
      refine rgs g'6 (fun h4 h4d _ => ?_) (fun h4 h4d _ => ?_)
      · have h4n := bnT h4
        have hd2 : ¬ dy = 0 := h4d
        have g'7 := j2 h4 h4n g'6
        refine runTf g'7 ?_
        refine cvr g'7 (bsize_c _ dx 1 (by decide)) ?_
        refine cvr g'7 (bsize_c _ dy 1 (by decide)) ?_
        exact eP hQ hbel (iV 70) Try.results49 ⟨by rw [hst], rfl⟩
      have h4n := bnT h4
      exact absurd ⟨hd1, h4d⟩ hdd
    have h3n := bnT h3
    have hd1 : ¬ dx = 0 := h3d
    have g'8 := (jn h3 (jn h3n (jn @int_bne (jn @int_beq g'5))))
    refine runTf g'8 ?_
    refine cvr g'8 (bsize_c _ dx 1 (by decide)) ?_
    refine cv (bsize_c _ dy 1 (by decide)) ?_
    refine rcs g'8 (fun h5 h5d _ => ?_) (fun h5 h5d _ => ?_)
    · have h5n := bnT h5
      have hd2 : dy = 0 := h5d
      have hst : stI W Hh xs ax ay dx dy = 70 := by unfold stI; rw [if_pos hk2, if_pos (.inr hd2)]
      have g'9 := j2 h5 h5n g'8
      exact eR g'9 hQ hbel (iV 70) Try.results49 ⟨by rw [hst], rfl⟩
    have h5n := bnT h5
    have hd2 : ¬ dy = 0 := h5d
    have g'10 := j2 h5 h5n g'8
    refine runTf g'10 ?_
    refine cv (rfree_c _ W _ _ xs _ _ (⟨_, _, _, rfl, by first | exact hb0pp _ | exact hbpp⟩) hV) ?_
    refine rgs g'10 (fun h6 h6d g'11 => ?_) (fun h6 h6d g'14 => ?_)
    · have hk3 := h6d
      refine runTf g'11 ?_
      refine cv (rfree_c _ W _ _ xs _ _ (⟨_, _, _, rfl, by first | exact hb0pp _ | exact hbpp⟩) hV) ?_
      refine rcs g'11 (fun h7 h7d g'12 => ?_) (fun h7 h7d g'13 => ?_)
      · have hst : stI W Hh xs ax ay dx dy = 99 := by unfold stI; rw [if_pos hk2, if_neg (fun q => q.elim hd1 hd2), hk3, h7d]; rfl
        exact eR g'12 hQ hbel (iV 99) Try.results49 ⟨by rw [hst], rfl⟩
      have hst : stI W Hh xs ax ay dx dy = -1 := by unfold stI; rw [if_pos hk2, if_neg (fun q => q.elim hd1 hd2), h7d, Bool.and_false]; rfl
      exact eR g'13 hQ hbel (iV (-1)) Try.results49 ⟨by rw [hst], rfl⟩
    have hst : stI W Hh xs ax ay dx dy = -1 := by unfold stI; rw [if_pos hk2, if_neg (fun q => q.elim hd1 hd2), h6d]; rfl
    exact eR g'14 hQ hbel (iV (-1)) Try.results49 ⟨by rw [hst], rfl⟩
  have hst : stI W Hh xs ax ay dx dy = -1 := by unfold stI; rw [h1d]; rfl
  exact eR g'15 hQ hbel (iV (-1)) Try.results49 ⟨by rw [hst], rfl⟩
theorem rcs_y (H : AHeap) (W Hh : Int) (pp : AV) (xs : List Int) (gx gy : Int) (hpp : Sl H 1 pp xs.length (ints .u8 xs)) (hv : vldB W Hh xs = true) (hg : isB W Hh xs gx gy 1 = true) : ACalls Try.prog 32 [.agg [iV W, iV Hh, pp], .agg [iV gx, iV gy]] H (fun v H' => v = .tup [.sl (some (H.length, 0)) ((costL W Hh xs (gx, gy)).length) none, iV 0] ∧ H' = H ++ [.cells true 1 (ints .i64 (costL W Hh xs (gx, gy)))]) := by
  obtain ⟨bpp, opp, cpp, rfl, hbpp⟩ := hpp
  have hblpp := getElem?_lt hbpp
  have hb0pp := fun l => get_app (l := l) hbpp
  have hV := vld_iff.1 hv
  have hwh := mul_le_64 (a := W) (b := Hh) (by have := hV.w0; omega) hV.w1 (by have := hV.h0; omega) hV.h1
  have hsfl : W * Hh = ((xs.length : Nat) : Int) := hV.len.symm
  have hgi := hV.idx (isB_in hg)
  have hgn := inB_iff.1 (isB_in hg)
  have hWb := hV.w1
  have hHb := hV.h1
  have hTT : TT.length = 8 := rfl
  refine AcT true Try.func32 ?_; intro hbel Q hQ
  have g'1 := (jn @hbpp (jn @hb0pp @hsfl))
  refine runTf g'1 ?_
  refine cv (rplan_a _ W Hh _ xs (.inr ⟨_, _, _, rfl, by first | exact hb0pp _ | exact hbpp⟩)) ?_
  refine rcs g'1 (fun h1 h1d _ => ?_) (fun h1 h1d g'2 => ?_)
  · rw [hv] at h1d; cases h1d
  refine runTf g'2 ?_
  refine cv (rfree_c _ W _ _ xs _ _ (⟨_, _, _, rfl, by first | exact hb0pp _ | exact hbpp⟩) hV) ?_
  refine rcs g'2 (fun h2 h2d _ => ?_) (fun h2 h2d _ => ?_)
  · rw [hg] at h2d; cases h2d
  have g'3 := (jn h2 (jn h2d (jn @ints_rep (jn @List.length_replicate.{0} g'2))))
  refine runTf g'3 ?_
  refine glp (fun k F Hx => ∃ i0 : Nat, ∃ nm : List Int, i0 + k = xs.length ∧ nm.length = xs.length ∧ (∀ j, j < i0 → gi nm j = -1) ∧ F = [(2, .ptr (some (H.length, 0))), (3, .ptr (some (H.length + 1, 0))), (6, .sl (some (H.length + 2, 0)) nm.length none), (7, iV ((i0 : Nat) : Int))] ∧ Hx = H ++ [.cells true 0 [iV W, iV Hh, .sl (some (bpp, 0)) xs.length cpp], .cells true 0 [iV gx, iV gy], .cells true 1 (ints .i64 nm)]) (xs.length) ?_ ?_
  · refine ⟨_, _, _, ⟨0, List.replicate xs.length 0, by omega, List.length_replicate, (fun j h => by omega), rfl, rfl⟩, bS hbel [0, 1, 2] (absRf @List.length_replicate.{0})⟩
  rintro k0 F Hx ⟨i0, nm, hm0, hnl, hnj, rfl, rfl⟩ J0 hJ0
  have g'4 := (jn @ints_len (jn @ints_ones g'3))
  refine rcs g'4 (fun h3 h3d _ => ?_) (fun h3 h3d _ => ?_)
  · have g'5 := (jn h3 (jn h3d (jn @ints_set1 (jn @List.length_set.{0} g'4))))
    refine runTf g'5 ?_
    refine hJ0 _ _ ⟨k0 - 1, by omega, _, _, _, ⟨i0 + 1, (nm.set i0 (-1)), by omega, (by rw [List.length_set]; exact hnl), (fun j hj => by
      rw [gi_setC (by omega)]
      by_cases e : i0 = j
      · rw [if_pos e]
      rw [if_neg e]; exact hnj j (by omega)), rfl, rfl⟩, bS hbel [0, 1, 2] (absRf @List.length_set.{0})⟩
  have hnE := all_rep hnl (fun j hj => hnj j (by omega))
  have hD0 : Rlx W Hh xs (gx, gy) (nm.set ((gy * W) + gx).toNat 0) [(gx, gy)] (gx, gy) 8 := by rw [hnE]; exact rlx0 (goal := (gx, gy)) hV.len hg (gx, gy)
  have hpt := pot_le (B := (99 * xs.length + 1)) (L := nm.set ((gy * W) + gx).toNat 0) (fun i hi => by
    rw [List.length_set] at hi
    rw [gi_setC (by omega)]
    split
    · omega
    rw [hnj i (by omega)]; omega)
  rw [List.length_set, hnl] at hpt
  have hpt2 : xs.length * (99 * xs.length + 1) ≤ 4096 * 405505 := Nat.mul_le_mul (by omega) (by omega)
  have g'6 := (jn h3 (jn h3d (jn @ints_set1 (jn @List.length_set.{0} g'4))))
  refine runTf g'6 ?_
  refine cvr g'6 (rturn_c _) ?_
  refine glp (fun k F Hx => ∃ L : List Int, ∃ Z : List Pt, ∃ o : Nat, ∃ v : Pt, 2 * pot (99 * xs.length + 1) L + (Z.length - o) = k ∧ Rlx W Hh xs (gx, gy) L (Z.drop o) v 8 ∧ o ≤ Z.length ∧ 2 * pot (99 * xs.length + 1) L + (Z.length - o) ≤ 4000000000 ∧ F = [(2, .ptr (some (H.length, 0))), (6, .sl (some (H.length + 2, 0)) L.length none), (8, .sl (some (H.length + 1, 0)) 8 (some 8)), (9, .sl (some (H.length + 3, o * 2)) (Z.length - o) none)] ∧ Hx = H ++ [.cells true 0 [iV W, iV Hh, .sl (some (bpp, 0)) xs.length cpp], .cells true 2 (prs TT), .cells true 1 (ints .i64 L), .cells true 2 (prs Z)]) (2 * pot (99 * xs.length + 1) (nm.set ((gy * W) + gx).toNat 0) + 1) ?_ ?_
  · refine ⟨_, _, _, ⟨nm.set ((gy * W) + gx).toNat 0, [(gx, gy)], 0, (gx, gy), rfl, hD0, (Nat.zero_le _), (by show 2 * pot (99 * xs.length + 1) (nm.set ((gy * W) + gx).toNat 0) + 1 ≤ _; omega), rfl, rfl⟩, bS hbel [0, 3, 2, 4] (absRf (jn @Nat.zero_mul (jn @Nat.sub_zero @List.length_set.{0})))⟩
  rintro k1 F Hx ⟨L, Z, o, v, hm1, D, hoz, hkb, rfl, rfl⟩ J1 hJ1
  have hLl : L.length = xs.length := by have := D.len; omega
  have g'7 := (jn @prs_len (jn @prs_one g'6))
  refine rcs g'7 (fun h4 h4d _ => ?_) (fun h4 h4d g'17 => ?_)
  · have hoZ : o < Z.length := by omega
    have hdr := drop_gp hoZ
    rw [hdr] at D
    have hDp := rlx_pop D
    have hqi := D.qin _ (List.mem_cons_self ..)
    have hcin : inB W Hh (g1 Z o) (g2 Z o) = true := isB_in hqi.1
    have hci := hV.idx hcin
    have hcn := inB_iff.1 hcin
    have hoo : o * 2 + 2 = (o + 1) * 2 := by omega
    have hsub : Z.length - o - 1 = Z.length - (o + 1) := by omega
    have q5 := prs_load (l := Z) (j := o) (by omega)
    have g'8 := (jn h4 (jn h4d (jn q5 g'7)))
    refine runTf g'8 ?_
    refine glp (fun k F Hx => ∃ q : Nat, ∃ L2 : List Int, ∃ Z2 : List Pt, ∃ o2 : Nat, q + k = 8 ∧ Rlx W Hh xs (gx, gy) L2 (Z2.drop o2) (g1 Z o, g2 Z o) q ∧ 0 ≤ lv L2 W (g1 Z o, g2 Z o) ∧ o2 ≤ Z2.length ∧ 2 * pot (99 * xs.length + 1) L2 + (Z2.length - o2) ≤ 2 * pot (99 * xs.length + 1) L + (Z.length - o - 1) ∧ F = [(2, .ptr (some (H.length, 0))), (6, .sl (some (H.length + 3, 0)) L2.length none), (8, .sl (some (H.length + 1, 0)) 8 (some 8)), (9, .sl (some (H.length + 4, o2 * 2)) (Z2.length - o2) none), (10, .ptr (some (H.length + 2, 0))), (11, iV ((q : Nat) : Int))] ∧ Hx = H ++ [.cells true 0 [iV W, iV Hh, .sl (some (bpp, 0)) xs.length cpp], .cells true 2 (prs TT), .cells true 0 [iV (g1 Z o), iV (g2 Z o)], .cells true 1 (ints .i64 L2), .cells true 2 (prs Z2)]) (8) ?_ ?_
    · refine ⟨_, _, _, ⟨0, L, Z, o + 1, by omega, hDp, hqi.2, (by omega), (by omega), rfl, rfl⟩, bS hbel [0, 1, 4, 2, 3] (absRf (jn @hsub @hoo))⟩
    rintro k2 F Hx ⟨q, L2, Z2, o2, hm2, D2, hv2, ho2, hm2, rfl, rfl⟩ J2 hJ2
    have hL2l : L2.length = xs.length := by have := D2.len; omega
    have hnd2 := nd_le L2
    refine rcs g'8 (fun h6 h6d _ => ?_) (fun h6 h6d g'16 => ?_)
    · have hq8 : q < 8 := by omega
      have hTb := TT_bd hq8
      have hto : to (g1 Z o, g2 Z o) q = ((g1 Z o) + (g1 TT q), (g2 Z o) + (g2 TT q)) := by unfold to; rw [TT_trn hq8]
      have hsk : stk W Hh xs (g1 Z o, g2 Z o) q = stI W Hh xs (g1 Z o) (g2 Z o) (g1 TT q) (g2 TT q) := by unfold stk; rw [TT_trn hq8]
      have q7 := prs_at0 (l := TT) (j := q) (by omega)
      have q8 := prs_at1 (l := TT) (j := q) (by omega)
      have g'9 := (jn h6 (jn h6d (jn q7 (jn q8 g'8))))
      refine runTf g'9 ?_
      refine cv (rstep_c _ (g1 TT q) (g2 TT q) W _ _ xs _ _ _ _ (⟨_, _, _, rfl, by first | exact hb0pp _ | exact hbpp⟩) hV (by omega) (by omega) rfl rfl (by omega) (by omega) hTb.2.2) ?_
      refine rcs g'9 (fun h9 h9d g'10 => ?_) (fun h9 h9d _ => ?_)
      · have hDk := rlx_skip D2 (fun q => absurd q (by rw [hsk]; exact Int.not_le.2 h9d))
        refine runTf g'10 ?_
        refine hJ2 _ _ ⟨k2 - 1, by omega, _, _, _, ⟨q + 1, L2, Z2, o2, by omega, hDk, hv2, ho2, hm2, rfl, rfl⟩, bS hbel [0, 1, 2, 3, 4] absR⟩
      have hs0 : 0 ≤ stI W Hh xs (g1 Z o) (g2 Z o) (g1 TT q) (g2 TT q) := Int.not_lt.1 h9d
      have hsf := stI_free hs0
      have hti := hV.idx (isB_in hsf.2.1)
      have htn := inB_iff.1 (isB_in hsf.2.1)
      have hbv : gi L2 ((((g2 Z o) * W) + (g1 Z o)).toNat) + 99 ≤ 99 * (nd L2 : Int) := D2.bd _ hcin hv2
      have hv2' : 0 ≤ gi L2 ((((g2 Z o) * W) + (g1 Z o)).toNat) := hv2
      have q10 := ints_get (k := .i64) (xs := L2) (j := (((g2 Z o) * W) + (g1 Z o)).toNat) (by omega)
      have q11 := ints_get (k := .i64) (xs := L2) (j := ((((g2 Z o) + (g2 TT q)) * W) + ((g1 Z o) + (g1 TT q))).toNat) (by omega)
      have g'11 := (jn h9 (jn h9d (jn @hsf (jn q10 (jn q11 g'9)))))
      refine rgs g'11 (fun h12 h12d g'12 => ?_) (fun h12 h12d _ => ?_)
      · have hold : 0 ≤ lv L2 W (to (g1 Z o, g2 Z o) q) := by rw [hto]; exact Int.not_lt.1 h12d
        refine rcs g'12 (fun h13 h13d _ => ?_) (fun h13 h13d g'14 => ?_)
        · have hlt2 : lv L2 W (to (g1 Z o, g2 Z o) q) < 0 ∨ lv L2 W (g1 Z o, g2 Z o) + stk W Hh xs (g1 Z o, g2 Z o) q < lv L2 W (to (g1 Z o, g2 Z o) q) := by rw [hto, hsk]; exact (.inr (by have := h13d; show gi L2 ((((g2 Z o) * W) + (g1 Z o)).toNat) + (stI W Hh xs (g1 Z o) (g2 Z o) (g1 TT q) (g2 TT q)) < _; exact (Int.add_comm _ _).symm ▸ this))
          have hDs := rlx_set D2 (by omega) hv2 (by rw [hsk]; omega) hlt2 to_ne
          rw [hto, hsk] at hDs
          have hDs : Rlx W Hh xs (gx, gy) (L2.set ((((g2 Z o) + (g2 TT q)) * W) + ((g1 Z o) + (g1 TT q))).toNat ((stI W Hh xs (g1 Z o) (g2 Z o) (g1 TT q) (g2 TT q)) + (gi L2 ((((g2 Z o) * W) + (g1 Z o)).toNat)))) (List.drop o2 Z2 ++ [((g1 Z o) + (g1 TT q), (g2 Z o) + (g2 TT q))]) (g1 Z o, g2 Z o) (q + 1) := by
            rw [show (stI W Hh xs (g1 Z o) (g2 Z o) (g1 TT q) (g2 TT q)) + (gi L2 ((((g2 Z o) * W) + (g1 Z o)).toNat)) = lv L2 W (g1 Z o, g2 Z o) + stI W Hh xs (g1 Z o) (g2 Z o) (g1 TT q) (g2 TT q) from Int.add_comm _ _]; exact hDs
          have hps : pot (99 * xs.length + 1) (L2.set ((((g2 Z o) + (g2 TT q)) * W) + ((g1 Z o) + (g1 TT q))).toNat ((stI W Hh xs (g1 Z o) (g2 Z o) (g1 TT q) (g2 TT q)) + (gi L2 ((((g2 Z o) * W) + (g1 Z o)).toNat)))) < pot (99 * xs.length + 1) L2 := pot_set (by omega) (by have : 0 ≤ gi L2 ((((g2 Z o) * W) + (g1 Z o)).toNat) := hv2; omega) (by have : 0 ≤ gi L2 ((((g2 Z o) * W) + (g1 Z o)).toNat) := hv2; have : gi L2 ((((g2 Z o) * W) + (g1 Z o)).toNat) + 99 ≤ 99 * (nd L2 : Int) := D2.bd _ hcin hv2; omega) (hlt2.imp (fun u => by rw [hto] at u; exact u) (fun u => by rw [hto, hsk] at u; have : gi L2 ((((g2 Z o) * W) + (g1 Z o)).toNat) + (stI W Hh xs (g1 Z o) (g2 Z o) (g1 TT q) (g2 TT q)) < gi L2 (((((g2 Z o) + (g2 TT q)) * W) + ((g1 Z o) + (g1 TT q))).toNat) := u; omega))
          have htin : inB W Hh (((g1 Z o) + (g1 TT q), (g2 Z o) + (g2 TT q)) : Pt).1 (((g1 Z o) + (g1 TT q), (g2 Z o) + (g2 TT q)) : Pt).2 = true := isB_in hsf.2.1
          have hv3 : 0 ≤ lv (L2.set ((((g2 Z o) + (g2 TT q)) * W) + ((g1 Z o) + (g1 TT q))).toNat ((stI W Hh xs (g1 Z o) (g2 Z o) (g1 TT q) (g2 TT q)) + (gi L2 ((((g2 Z o) * W) + (g1 Z o)).toNat)))) W (g1 Z o, g2 Z o) := by
            have h9 := lv_set (x := (stI W Hh xs (g1 Z o) (g2 Z o) (g1 TT q) (g2 TT q)) + (gi L2 ((((g2 Z o) * W) + (g1 Z o)).toNat))) (d := (g1 Z o, g2 Z o)) D2.len htin hcin
            rw [if_neg (fun e => to_ne (v := (g1 Z o, g2 Z o)) (k := q) (by rw [hto]; exact e))] at h9
            exact (show lv (L2.set ((((g2 Z o) + (g2 TT q)) * W) + ((g1 Z o) + (g1 TT q))).toNat ((stI W Hh xs (g1 Z o) (g2 Z o) (g1 TT q) (g2 TT q)) + (gi L2 ((((g2 Z o) * W) + (g1 Z o)).toNat)))) W (g1 Z o, g2 Z o) = _ from h9) ▸ hv2
          have q14 := prs_dropv (l := Z2) (k := o2) (by omega)
          have g'13 := (jn h13 (jn h13d (jn q14 (jn @List.length_drop.{0} g'12))))
          refine runTf g'13 ?_
          refine hJ2 _ _ ⟨k2 - 1, by omega, _, _, _, ⟨q + 1, (L2.set (((((g2 Z o) + (g2 TT q)) * W) + ((g1 Z o) + (g1 TT q))).toNat) ((stI W Hh xs (g1 Z o) (g2 Z o) (g1 TT q) (g2 TT q)) + (gi L2 ((((g2 Z o) * W) + (g1 Z o)).toNat)))), List.drop o2 Z2 ++ [((g1 Z o) + (g1 TT q), (g2 Z o) + (g2 TT q))], 0, by omega, (by rw [List.drop_zero]; exact hDs), hv3, (Nat.zero_le _), (by rw [List.length_append, List.length_singleton, List.length_drop]; omega), rfl, rfl⟩, bS hbel [0, 1, 2, 3, 7] (absRf (jn @Nat.zero_mul (jn @Nat.sub_zero (jn @List.length_set.{0} @List.length_drop.{0}))))⟩
        have hDk := rlx_skip D2 (fun _ => ⟨hold, by
          rw [hto, hsk]
          have h9 := Int.not_lt.1 h13d
          show gi L2 (((((g2 Z o) + (g2 TT q)) * W) + ((g1 Z o) + (g1 TT q))).toNat) ≤ gi L2 ((((g2 Z o) * W) + (g1 Z o)).toNat) + (stI W Hh xs (g1 Z o) (g2 Z o) (g1 TT q) (g2 TT q))
          omega⟩)
        refine runTf g'14 ?_
        refine hJ2 _ _ ⟨k2 - 1, by omega, _, _, _, ⟨q + 1, L2, Z2, o2, by omega, hDk, hv2, ho2, hm2, rfl, rfl⟩, bS hbel [0, 1, 2, 3, 4] absR⟩
      have hlt2 : lv L2 W (to (g1 Z o, g2 Z o) q) < 0 ∨ lv L2 W (g1 Z o, g2 Z o) + stk W Hh xs (g1 Z o, g2 Z o) q < lv L2 W (to (g1 Z o, g2 Z o) q) := by rw [hto, hsk]; exact (.inl h12d)
      have hDs := rlx_set D2 (by omega) hv2 (by rw [hsk]; omega) hlt2 to_ne
      rw [hto, hsk] at hDs
      have hDs : Rlx W Hh xs (gx, gy) (L2.set ((((g2 Z o) + (g2 TT q)) * W) + ((g1 Z o) + (g1 TT q))).toNat ((stI W Hh xs (g1 Z o) (g2 Z o) (g1 TT q) (g2 TT q)) + (gi L2 ((((g2 Z o) * W) + (g1 Z o)).toNat)))) (List.drop o2 Z2 ++ [((g1 Z o) + (g1 TT q), (g2 Z o) + (g2 TT q))]) (g1 Z o, g2 Z o) (q + 1) := by
        rw [show (stI W Hh xs (g1 Z o) (g2 Z o) (g1 TT q) (g2 TT q)) + (gi L2 ((((g2 Z o) * W) + (g1 Z o)).toNat)) = lv L2 W (g1 Z o, g2 Z o) + stI W Hh xs (g1 Z o) (g2 Z o) (g1 TT q) (g2 TT q) from Int.add_comm _ _]; exact hDs
      have hps : pot (99 * xs.length + 1) (L2.set ((((g2 Z o) + (g2 TT q)) * W) + ((g1 Z o) + (g1 TT q))).toNat ((stI W Hh xs (g1 Z o) (g2 Z o) (g1 TT q) (g2 TT q)) + (gi L2 ((((g2 Z o) * W) + (g1 Z o)).toNat)))) < pot (99 * xs.length + 1) L2 := pot_set (by omega) (by have : 0 ≤ gi L2 ((((g2 Z o) * W) + (g1 Z o)).toNat) := hv2; omega) (by have : 0 ≤ gi L2 ((((g2 Z o) * W) + (g1 Z o)).toNat) := hv2; have : gi L2 ((((g2 Z o) * W) + (g1 Z o)).toNat) + 99 ≤ 99 * (nd L2 : Int) := D2.bd _ hcin hv2; omega) (hlt2.imp (fun u => by rw [hto] at u; exact u) (fun u => by rw [hto, hsk] at u; have : gi L2 ((((g2 Z o) * W) + (g1 Z o)).toNat) + (stI W Hh xs (g1 Z o) (g2 Z o) (g1 TT q) (g2 TT q)) < gi L2 (((((g2 Z o) + (g2 TT q)) * W) + ((g1 Z o) + (g1 TT q))).toNat) := u; omega))
      have htin : inB W Hh (((g1 Z o) + (g1 TT q), (g2 Z o) + (g2 TT q)) : Pt).1 (((g1 Z o) + (g1 TT q), (g2 Z o) + (g2 TT q)) : Pt).2 = true := isB_in hsf.2.1
      have hv3 : 0 ≤ lv (L2.set ((((g2 Z o) + (g2 TT q)) * W) + ((g1 Z o) + (g1 TT q))).toNat ((stI W Hh xs (g1 Z o) (g2 Z o) (g1 TT q) (g2 TT q)) + (gi L2 ((((g2 Z o) * W) + (g1 Z o)).toNat)))) W (g1 Z o, g2 Z o) := by
        have h9 := lv_set (x := (stI W Hh xs (g1 Z o) (g2 Z o) (g1 TT q) (g2 TT q)) + (gi L2 ((((g2 Z o) * W) + (g1 Z o)).toNat))) (d := (g1 Z o, g2 Z o)) D2.len htin hcin
        rw [if_neg (fun e => to_ne (v := (g1 Z o, g2 Z o)) (k := q) (by rw [hto]; exact e))] at h9
        exact (show lv (L2.set ((((g2 Z o) + (g2 TT q)) * W) + ((g1 Z o) + (g1 TT q))).toNat ((stI W Hh xs (g1 Z o) (g2 Z o) (g1 TT q) (g2 TT q)) + (gi L2 ((((g2 Z o) * W) + (g1 Z o)).toNat)))) W (g1 Z o, g2 Z o) = _ from h9) ▸ hv2
      have q15 := prs_dropv (l := Z2) (k := o2) (by omega)
      have g'15 := (jn h12 (jn h12d (jn q15 (jn @List.length_drop.{0} g'11))))
      refine runTf g'15 ?_
      refine hJ2 _ _ ⟨k2 - 1, by omega, _, _, _, ⟨q + 1, (L2.set (((((g2 Z o) + (g2 TT q)) * W) + ((g1 Z o) + (g1 TT q))).toNat) ((stI W Hh xs (g1 Z o) (g2 Z o) (g1 TT q) (g2 TT q)) + (gi L2 ((((g2 Z o) * W) + (g1 Z o)).toNat)))), List.drop o2 Z2 ++ [((g1 Z o) + (g1 TT q), (g2 Z o) + (g2 TT q))], 0, by omega, (by rw [List.drop_zero]; exact hDs), hv3, (Nat.zero_le _), (by rw [List.length_append, List.length_singleton, List.length_drop]; omega), rfl, rfl⟩, bS hbel [0, 1, 2, 3, 7] (absRf (jn @Nat.zero_mul (jn @Nat.sub_zero (jn @List.length_set.{0} @List.length_drop.{0}))))⟩
    obtain rfl : q = 8 := by omega
    refine runTf g'16 ?_
    refine hJ1 _ _ ⟨2 * pot (99 * xs.length + 1) L2 + (Z2.length - o2), by omega, _, _, _, ⟨L2, Z2, o2, (g1 Z o, g2 Z o), rfl, D2, ho2, (by omega), rfl, rfl⟩, bS hbel [0, 1, 3, 4] absR⟩
  have hoE : Z.drop o = [] := List.drop_eq_nil_of_le (by omega)
  have hfin := costL_eq hV.w0 (isB_in hg) (rlx_end (by rw [hoE] at D; exact D))
  refine runTf g'17 ?_
  refine hQ _ _ (end_byG (.inl rfl) hbel (x1 := .tup [.sl (some (H.length + 2, 0)) L.length none, iV 0]) (l2 := [.cells true 1 (ints .i64 L)]) (.tup [.sl (some (H.length, 0)) L.length none, iV 0]) (resT Try.results32) [] rfl [2] (by decide) ⟨by rw [hfin], by rw [hfin]⟩ ?_)
  exact absW
theorem rcs_f (H : AHeap) (W Hh : Int) (pp : AV) (xs : List Int) (gx gy : Int) (hpp : Sl H 1 pp xs.length (ints .u8 xs)) (hv : vldB W Hh xs = true) (hg : isB W Hh xs gx gy 1 = false) : ACalls Try.prog 32 [.agg [iV W, iV Hh, pp], .agg [iV gx, iV gy]] H (fun v H' => v = .tup [.sl none 0 (some 0), iV 7] ∧ H' = H) := by
  obtain ⟨bpp, opp, cpp, rfl, hbpp⟩ := hpp
  have hblpp := getElem?_lt hbpp
  have hb0pp := fun l => get_app (l := l) hbpp
  have hV := vld_iff.1 hv
  refine AcT true Try.func32 ?_; intro hbel Q hQ
  have g'18 := (jn @hbpp @hb0pp)
  refine runTf g'18 ?_
  refine cv (rplan_a _ W Hh _ xs (.inr ⟨_, _, _, rfl, by first | exact hb0pp _ | exact hbpp⟩)) ?_
  refine rcs g'18 (fun h1 h1d _ => ?_) (fun h1 h1d g'19 => ?_)
  · rw [hv] at h1d; cases h1d
  refine runTf g'19 ?_
  refine cv (rfree_c _ W _ _ xs _ _ (⟨_, _, _, rfl, by first | exact hb0pp _ | exact hbpp⟩) hV) ?_
  refine rcs g'19 (fun h2 h2d g'20 => ?_) (fun h2 h2d _ => ?_)
  · exact eR g'20 hQ hbel (.tup [.sl none 0 (some 0), iV 7]) Try.results32 ⟨rfl, rfl⟩
  rw [hg] at h2d; cases h2d
theorem rcs_n (H : AHeap) (W Hh : Int) (pp : AV) (xs : List Int) (gx gy : Int) (hpp : Sl H 1 pp xs.length (ints .u8 xs)) (hv : vldB W Hh xs = false) : ACalls Try.prog 32 [.agg [iV W, iV Hh, pp], .agg [iV gx, iV gy]] H (fun v H' => v = .tup [.sl none 0 (some 0), iV 1] ∧ H' = H) := by
  obtain ⟨bpp, opp, cpp, rfl, hbpp⟩ := hpp
  have hblpp := getElem?_lt hbpp
  have hb0pp := fun l => get_app (l := l) hbpp
  refine AcT true Try.func32 ?_; intro hbel Q hQ
  have g'21 := (jn @hbpp @hb0pp)
  refine runTf g'21 ?_
  refine cv (rplan_a _ W Hh _ xs (.inr ⟨_, _, _, rfl, by first | exact hb0pp _ | exact hbpp⟩)) ?_
  refine rcs g'21 (fun h1 h1d g'22 => ?_) (fun h1 h1d _ => ?_)
  · exact eR g'22 hQ hbel (.tup [.sl none 0 (some 0), iV 1]) Try.results32 ⟨rfl, rfl⟩
  rw [hv] at h1d; cases h1d
theorem isS {x : AV} : (some x).isSome = true := rfl
theorem r4_dropv {l : List T4} {k : Nat} (h : k ≤ l.length) : List.take ((l.length - k) * 4) (List.drop (k * 4) (r4 l)) = r4 (l.drop k) := by
  have g : ∀ (l : List T4) (k : Nat), List.drop (k * 4) (r4 l) = r4 (l.drop k) := by
    intro l
    induction l with
    | nil => intro k; simp [r4_nil]
    | cons a l ih =>
      intro k
      cases k with
      | zero => simp
      | succ k => rw [r4_cons, show (k + 1) * 4 = k * 4 + 1 + 1 + 1 + 1 by omega, List.drop_succ_cons, List.drop_succ_cons, List.drop_succ_cons, List.drop_succ_cons, List.drop_succ_cons, ih]
  rw [g, ← List.length_drop, r4_take, List.take_length]
def bgB (a1 a2 a3 a4 b1 b2 b3 b4 : Int) : Bool := decide (befG (a1, a2, a3, a4) (b1, b2, b3, b4))
theorem bg_w {a1 a2 a3 a4 b1 b2 b3 b4 : Int} {r : Bool} (h : r = true ↔ (a3 < b3 ∨ (a3 = b3 ∧ (a2 < b2 ∨ (a2 = b2 ∧ a1 < b1))))) : r = bgB a1 a2 a3 a4 b1 b2 b3 b4 := by
  rw [Bool.eq_iff_iff, h]
  unfold bgB
  rw [decide_eq_true_eq]
  exact Iff.rfl
def bcB (a1 a2 b1 b2 : Int) : Bool := decide (a2 < b2 ∨ (a2 = b2 ∧ a1 < b1))
theorem bc_w {a1 a2 b1 b2 : Int} {r : Bool} (h : r = true ↔ (a2 < b2 ∨ (a2 = b2 ∧ a1 < b1))) : r = bcB a1 a2 b1 b2 := by
  rw [Bool.eq_iff_iff, h]
  unfold bcB
  rw [decide_eq_true_eq]
theorem ins_at {b : T4} : ∀ {O : List T4} {u : Nat}, u ≤ O.length → (∀ j, j < u → befG (g4 O j) b) → (u = O.length ∨ ¬ befG (g4 O u) b) → insG b O = O.take u ++ ([b] ++ O.drop u)
  | [], 0, _, _, _ => rfl
  | [], u + 1, h, _, _ => by simp at h
  | a :: O, 0, _, _, h => by
    have : ¬ befG a b := h.resolve_left (by simp)
    unfold insG
    rw [if_neg this]; rfl
  | a :: O, u + 1, hu, hb, h => by
    have h0 : befG a b := hb 0 (by omega)
    have ih := ins_at (b := b) (O := O) (u := u) (by simpa using hu) (fun j hj => hb (j + 1) (by omega)) (h.imp (fun q => by simpa using q) id)
    unfold insG
    rw [if_pos h0, ih]; rfl
theorem golI_len {L : List Int} {W : Int} {CS : List (List Pt)} (i : Nat) : (golI L W CS i).length ≤ i := by rw [(golI_perm i).length_eq]; exact golS_len i
theorem bcb_c (H : AHeap) (a1 a2 : Int) (b1 b2 : Int) : ACalls Try.prog 50 [.agg [iV a1, iV a2], .agg [iV b1, iV b2]] H (fun v H' => v = .bool (bcB a1 a2 b1 b2) ∧ H' = H) := by
  refine AcT true Try.func50 ?_; intro hbel Q hQ
  refine runT ?_
  refine gd_split (fun h1 => ?_) (fun h1 => ?_)
  · have h1d := bsT h1
    have g'1 := (jn h1 @h1d)
    refine rgs g'1 (fun h2 h2d _ => ?_) (fun h2 h2d _ => ?_)
    · have g'2 := (jn h2 (jn h2d (jn @int_bne (jn @int_beq g'1))))
      exact eR g'2 hQ hbel (.bool (decide (a1 < b1))) Try.results50 ⟨by refine congrArg _ (bc_w ?_); simp [h1d, h2d]; try omega, rfl⟩
    have g'3 := (jn h2 (jn h2d (jn @int_bne (jn @int_beq g'1))))
    exact eR g'3 hQ hbel (.bool false) Try.results50 ⟨by refine congrArg _ (bc_w ?_); simp [h1d, h2d]; try omega, rfl⟩
  have h1d := bsT h1
  have g'4 := (jn h1 @h1d)
  exact eR g'4 hQ hbel (.bool true) Try.results50 ⟨by refine congrArg _ (bc_w ?_); simp [h1d]; try omega, rfl⟩
theorem bgb_c (H : AHeap) (a1 a2 : Int) (a3 a4 : Int) (b1 b2 : Int) (b3 b4 : Int) : ACalls Try.prog 33 [.agg [iV a1, iV a2, iV a3, iV a4], .agg [iV b1, iV b2, iV b3, iV b4]] H (fun v H' => v = .bool (bgB a1 a2 a3 a4 b1 b2 b3 b4) ∧ H' = H) := by
  refine AcT true Try.func33 ?_; intro hbel Q hQ
  refine runT ?_
  refine gd_split (fun h1 => ?_) (fun h1 => ?_)
  · have h1d := bsT h1
    have g'5 := (jn h1 @h1d)
    refine rgs g'5 (fun h2 h2d _ => ?_) (fun h2 h2d _ => ?_)
    · have g'6 := (jn h2 (jn h2d (jn @int_bne (jn @int_beq g'5))))
      refine runTf g'6 ?_
      refine cvr g'6 (bcb_c _ _ _ _ _) ?_
      exact eP hQ hbel (.bool (bcB a1 a2 b1 b2)) Try.results33 ⟨by refine congrArg _ (bg_w ?_); simp [h1d, h2d, bcB]; try omega, rfl⟩
    have g'7 := (jn h2 (jn h2d (jn @int_bne (jn @int_beq g'5))))
    exact eR g'7 hQ hbel (.bool false) Try.results33 ⟨by refine congrArg _ (bg_w ?_); simp [h1d, h2d, bcB]; try omega, rfl⟩
  have h1d := bsT h1
  have g'8 := (jn h1 @h1d)
  exact eR g'8 hQ hbel (.bool true) Try.results33 ⟨by refine congrArg _ (bg_w ?_); simp [h1d, bcB]; try omega, rfl⟩
theorem rcs_L (H : AHeap) (L : List Int) {W Hh gx gy : Int} {xs : List Int} (hL : costL W Hh xs (gx, gy) = L) (W' Hh' : Int) (s : AV) (xs' : List Int) (gx' gy' : Int) (hs : Sl H 1 s xs'.length (ints .u8 xs')) (hv : vldB W' Hh' xs' = true) (hg : isB W' Hh' xs' gx' gy' 1 = true) (e : (W, Hh, xs, gx, gy) = (W', Hh', xs', gx', gy') := by rfl) :
    ACalls Try.prog 32 [.agg [iV W', iV Hh', s], .agg [iV gx', iV gy']] H (fun v H' => v = .tup [.sl (some (H.length, 0)) L.length none, iV 0] ∧ H' = H ++ [.cells true 1 (ints .i64 L)]) := by
  simp only [Prod.mk.injEq] at e
  obtain ⟨rfl, rfl, rfl, rfl, rfl⟩ := e
  subst hL; exact rcs_y H W Hh s xs gx gy hs hv hg
theorem rgol_n (H : AHeap) (W Hh : Int) (pp : AV) (xs : List Int) (gx gy : Int) (hpp : Sl H 1 pp xs.length (ints .u8 xs)) (hv : vldB W Hh xs = false) : ACalls Try.prog 16 [.agg [iV W, iV Hh, pp], .agg [iV gx, iV gy]] H (fun v H' => v = .tup [.sl none 0 (some 0), iV 1] ∧ H' = H) := by
  obtain ⟨bpp, opp, cpp, rfl, hbpp⟩ := hpp
  have hblpp := getElem?_lt hbpp
  have hb0pp := fun l => get_app (l := l) hbpp
  refine AcT true Try.func16 ?_; intro hbel Q hQ
  have g'9 := (jn @hbpp @hb0pp)
  refine runTf g'9 ?_
  rcases Bool.eq_false_or_eq_true (vldB W Hh xs) with h1 | h1
  · have h1d := h1
    rw [hv] at h1d; cases h1d
  have h1d := h1
  refine cv (rcs_n _ W _ _ xs _ _ (⟨_, _, _, rfl, by first | exact hb0pp _ | exact hbpp⟩) (by assumption)) ?_
  have g'10 := j2 h1 h1d g'9
  exact eR g'10 hQ hbel (.tup [.sl none 0 (some 0), iV 1]) Try.results16 ⟨rfl, rfl⟩
theorem rgol_f (H : AHeap) (W Hh : Int) (pp : AV) (xs : List Int) (gx gy : Int) (hpp : Sl H 1 pp xs.length (ints .u8 xs)) (hv : vldB W Hh xs = true) (hg : isB W Hh xs gx gy 1 = false) : ACalls Try.prog 16 [.agg [iV W, iV Hh, pp], .agg [iV gx, iV gy]] H (fun v H' => v = .tup [.sl none 0 (some 0), iV 7] ∧ H' = H) := by
  obtain ⟨bpp, opp, cpp, rfl, hbpp⟩ := hpp
  have hblpp := getElem?_lt hbpp
  have hb0pp := fun l => get_app (l := l) hbpp
  refine AcT true Try.func16 ?_; intro hbel Q hQ
  have g'11 := (jn @hbpp @hb0pp)
  refine runTf g'11 ?_
  rcases Bool.eq_false_or_eq_true (vldB W Hh xs) with h1 | h1
  · have h1d := h1
    rcases Bool.eq_false_or_eq_true (isB W Hh xs gx gy 1) with h2 | h2
    · have h2d := h2
      rw [hg] at h2d; cases h2d
    have h2d := h2
    refine cv (rcs_f _ W _ _ xs _ _ (⟨_, _, _, rfl, by first | exact hb0pp _ | exact hbpp⟩) (by assumption) (by assumption)) ?_
    have g'12 := (jn h1 (jn h1d (j2 h2 h2d g'11)))
    exact eR g'12 hQ hbel (.tup [.sl none 0 (some 0), iV 7]) Try.results16 ⟨rfl, rfl⟩
  have h1d := h1
  rw [hv] at h1d; cases h1d
theorem rgol_y (H : AHeap) (A : List (Int × Int)) (CS : List (List (Int × Int))) (L : List Int) (W Hh : Int) (pp : AV) (xs : List Int) (gx gy : Int) (hpp : Sl H 1 pp xs.length (ints .u8 xs)) (hv : vldB W Hh xs = true) (hg : isB W Hh xs gx gy 1 = true) (hA : froL W Hh xs = A) (hCS : cluL A = CS) (hL : costL W Hh xs (gx, gy) = L) (hLl : L.length = xs.length) : ACalls Try.prog 16 [.agg [iV W, iV Hh, pp], .agg [iV gx, iV gy]] H (fun v H' => v = .tup [.sl (some (H.length, 0)) ((golI L W CS CS.length).length) (capG (golI L W CS CS.length).length), iV 0] ∧ H' = H ++ [.cells (ownG (golI L W CS CS.length).length) 4 (r4 (golI L W CS CS.length))]) := by
  obtain ⟨bpp, opp, cpp, rfl, hbpp⟩ := hpp
  have hblpp := getElem?_lt hbpp
  have hb0pp := fun l => get_app (l := l) hbpp
  have hV := vld_iff.1 hv
  have hAb : ∀ p ∈ A, (0 ≤ p.1 ∧ p.1 < 64) ∧ 0 ≤ p.2 ∧ p.2 < 64 := hA ▸ fro_bd hV
  have hAi : ∀ p ∈ A, inB W Hh p.1 p.2 = true := hA ▸ fun p hp => inB_iff.2 (by have := (gridP_mem _ _ _ p).1 hp; have := hV.w0; have := hV.h0; omega)
  have hAn : A.Nodup := hA ▸ fro_nodup
  have hAl : A.length ≤ 4096 := hA ▸ fro_len hV
  have hC : CluP A CS := hCS ▸ cluL_ok hAn
  have hCl := hC.len
  refine AcT true Try.func16 ?_; intro hbel Q hQ
  have h0bel := hbel
  have g'13 := (jn @hbpp (jn @hb0pp @isS))
  refine runTf g'13 ?_
  rcases Bool.eq_false_or_eq_true (vldB W Hh xs) with h1 | h1
  · have h1d := h1
    rcases Bool.eq_false_or_eq_true (isB W Hh xs gx gy 1) with h2 | h2
    · have h2d := h2
      refine cv (rcs_L _ L hL W Hh _ xs gx gy (⟨_, _, _, rfl, by first | exact hb0pp _ | exact hbpp⟩) hv hg) ?_
      have g'14 := (jn h1 (jn h1d (j2 h2 h2d g'13)))
      refine runTf g'14 ?_
      obtain ⟨n_c, hn_c⟩ : ∃ n, n = (H ++ ([.cells true 0 [iV W, iV Hh, .sl (some (bpp, 0)) xs.length cpp], .cells true 0 [iV gx, iV gy], .cells true 1 (ints .i64 L)] : AHeap)).length := ⟨_, rfl⟩
      refine call_of (by kernel_rfl) (rclu_k _ A n_c W Hh _ xs CS (⟨_, _, _, rfl, by first | exact hb0pp _ | exact hbpp⟩) (by assumption) hA hn_c hCS) ?_
      rintro _ _ ⟨X_c, hXg_c, hXe_c, rfl, rfl⟩
      obtain ⟨G_c, hG_c⟩ : ∃ G, G = H ++ (([.cells true 0 [iV W, iV Hh, .sl (some (bpp, 0)) xs.length cpp], .cells true 0 [iV gx, iV gy], .cells true 1 (ints .i64 L)] : AHeap) ++ (X_c ++ [.cells (ownG CS.length) 1 (slr n_c CS)])) := ⟨_, rfl⟩
      have hGe_c : ((H ++ ([.cells true 0 [iV W, iV Hh, .sl (some (bpp, 0)) xs.length cpp], .cells true 0 [iV gx, iV gy], .cells true 1 (ints .i64 L)] : AHeap)) ++ X_c) ++ [.cells (ownG CS.length) 1 (slr n_c CS)] = G_c := by rw [hG_c]; simp only [List.append_assoc]
      obtain ⟨br_c, hbr_c⟩ : ∃ b, b = ((H ++ ([.cells true 0 [iV W, iV Hh, .sl (some (bpp, 0)) xs.length cpp], .cells true 0 [iV gx, iV gy], .cells true 1 (ints .i64 L)] : AHeap)) ++ X_c).length := ⟨_, rfl⟩
      rw [← hbr_c, hGe_c]
      have hlX_c : n_c + X_c.length = br_c := by rw [hbr_c, hn_c]; exact List.length_append.symm
      have hlG_c : G_c.length = br_c + 1 := by rw [← hGe_c, List.length_append, ← hbr_c]; rfl
      have hlN_c : n_c = H.length + 3 := by rw [hn_c, List.length_append]; rfl
      have hlen_c := (by rw [hXe_c, List.length_map] at hlX_c; exact hlX_c : n_c + CS.length = br_c)
      have hXb_c : ∀ x ∈ ([.cells true 0 [iV W, iV Hh, .sl (some (bpp, 0)) xs.length cpp], .cells true 0 [iV gx, iV gy], .cells true 1 (ints .i64 L)] : AHeap) ++ (X_c ++ [.cells (ownG CS.length) 1 (slr n_c CS)]), ABlk.bel G_c.length x = true := by
        intro x hx
        rcases List.mem_append.1 hx with hx | hx
        · simp only [List.mem_cons, List.not_mem_nil, or_false] at hx
          rcases hx with rfl | rfl | rfl <;> simp only [ABlk.bel, AV.bels, AV.bel, bels_prs, bels_ints, Bool.and_true, Bool.true_and, decide_eq_true_eq] <;> omega
        rcases List.mem_append.1 hx with hx | hx
        · exact ABlk.bel_up (by rw [List.length_append, ← hn_c]; omega) (hXg_c x hx)
        rw [List.mem_singleton.1 hx]; exact bels_slr (by omega)
      have hbel_c := hbel_grow hG_c hbel hXb_c
      have hbpp_c := grow1 hG_c hb0pp
      have hblpp_c := getElem?_lt hbpp_c
      have hb0pp_c := fun l => get_app (l := l) hbpp_c
      have hpre_c : ∃ X, G_c = H ++ X := ⟨_, hG_c⟩
      have hle_c := pre_le hpre_c
      have hbE_c0_c : G_c[H.length]? = some (.cells true 0 [iV W, iV Hh, .sl (some (bpp, 0)) xs.length cpp]) := by rw [hG_c, List.getElem?_append_right (by omega), Nat.sub_self]; rfl
      have hblE_c0_c := getElem?_lt hbE_c0_c
      have hb0E_c0_c := fun l => get_app (l := l) hbE_c0_c
      have hbE_c1_c : G_c[H.length + 1]? = some (.cells true 0 [iV gx, iV gy]) := by rw [hG_c, List.getElem?_append_right (by omega), Nat.add_sub_cancel_left]; rfl
      have hblE_c1_c := getElem?_lt hbE_c1_c
      have hb0E_c1_c := fun l => get_app (l := l) hbE_c1_c
      have hbE_c2_c : G_c[H.length + 2]? = some (.cells true 1 (ints .i64 L)) := by rw [hG_c, List.getElem?_append_right (by omega), Nat.add_sub_cancel_left]; rfl
      have hblE_c2_c := getElem?_lt hbE_c2_c
      have hb0E_c2_c := fun l => get_app (l := l) hbE_c2_c
      have hbR_c_c : G_c[br_c]? = some (.cells (ownG CS.length) 1 (slr n_c CS)) := by rw [← hGe_c, hbr_c, List.getElem?_append_right (Nat.le_refl _), Nat.sub_self]; rfl
      have hblR_c_c := getElem?_lt hbR_c_c
      have hb0R_c_c := fun l => get_app (l := l) hbR_c_c
      have hcl_c := grow_at hG_c hXe_c hn_c
      have hcl0_c : ∀ i (l : AHeap), i < CS.length → (G_c ++ l)[n_c + i]? = some (.cells true 2 (prs (gc CS i))) := fun i l hi => get_app (l := l) (hcl_c i hi)
      have g'15 := (jn @hbpp_c (jn @hb0pp_c (jn h1 (jn h1d (jn h2 (jn h2d (jn @hbE_c0_c (jn @hb0E_c0_c (jn @hbE_c1_c (jn @hb0E_c1_c (jn @hbE_c2_c (jn @hb0E_c2_c (jn @hbR_c_c (jn @hb0R_c_c (jn @hcl_c (jn @hcl0_c (jn @slr_len (jn @slr_ones @isS))))))))))))))))))
      refine runTf g'15 ?_
      refine glp (fun k F Hx => ∃ i : Nat, i + k = CS.length ∧ F = [(2, .ptr (some (H.length, 0))), (6, .sl (some (H.length + 2, 0)) L.length none), (8, .sl (some (br_c, 0)) CS.length (capG CS.length)), (10, .sl (some (G_c.length, 0)) ((golI L W CS i).length) (capG (golI L W CS i).length)), (11, iV ((i : Nat) : Int))] ∧ Hx = G_c ++ [.cells (ownG (golI L W CS i).length) 4 (r4 (golI L W CS i))]) (CS.length) ?_ ?_
      · refine ⟨_, _, _, ⟨0, by omega, rfl, rfl⟩, (Abs.byE hbel_c [.cells false 4 []] rfl [0] (by decide) ?_).le hle_c⟩
        exact absRf (jn @golI.eq_1 (jn @r4_append (jn @r4_cons (jn @r4_nil @mvs_r4))))
      rintro k0 F Hx ⟨i, hm0, rfl, rfl⟩ J0 hJ0
      have hgl0 := golI_len (L := L) (W := W) (CS := CS) i
      have g'16 := (jn @r4_len (jn @r4_one g'15))
      refine rcs g'16 (fun h3 h3d _ => ?_) (fun h3 h3d g'33 => ?_)
      · have hlt : i < CS.length := by omega
        have hgl := hC.le i hlt
        have q4 := slr_get (n := n_c) (cs := CS) (i := i) (by omega)
        have g'17 := (jn h3 (jn h3d (jn q4 g'16)))
        refine runTf g'17 ?_
        refine glp (fun k F Hx => ∃ m : Nat, m + k = (gc CS i).length ∧ F = [(2, .ptr (some (H.length, 0))), (6, .sl (some (H.length + 2, 0)) L.length none), (8, .sl (some (br_c, 0)) CS.length (capG CS.length)), (10, .sl (some (G_c.length, 0)) ((golI L W CS i).length) (capG (golI L W CS i).length)), (11, iV ((i : Nat) : Int)), (12, .ptr (some (G_c.length + 1, 0))), (13, iV ((m : Nat) : Int))] ∧ Hx = G_c ++ [.cells (ownG (golI L W CS i).length) 4 (r4 (golI L W CS i)), .cells true 0 [iV ((bstS L W (gc CS i) m).1), iV ((bstS L W (gc CS i) m).2.1), iV ((bstS L W (gc CS i) m).2.2), iV (((gc CS i).length : Nat) : Int)]]) ((gc CS i).length) ?_ ?_
        · refine ⟨_, _, _, ⟨0, by omega, rfl, rfl⟩, (Abs.byG hbel_c [] rfl [0, 1] (by decide) ?_).le hle_c⟩
          exact absRf (jn @bstS.eq_1 (jn @r4_append (jn @r4_cons (jn @r4_nil @mvs_r4))))
        rintro k1 F Hx ⟨m, hm1, rfl, rfl⟩ J1 hJ1
        have q5 := slr_get (n := n_c) (cs := CS) (i := i) (by omega)
        have g'18 := (jn q5 g'17)
        refine rcs g'18 (fun h6 h6d _ => ?_) (fun h6 h6d g'26 => ?_)
        · have hlm : m < (gc CS i).length := by omega
          have hmA : (g1 (gc CS i) m, g2 (gc CS i) m) ∈ A := hC.mem i m hlt hlm
          have hin := hAi _ hmA
          have hib := hV.idx (show inB W Hh (g1 (gc CS i) m) (g2 (gc CS i) m) = true from hin)
          have hcb := hAb _ hmA
          simp only at hcb
          have q7 := slr_get (n := n_c) (cs := CS) (i := i) (by omega)
          have q8 := prs_load (l := gc CS i) (j := m) (by omega)
          have q9 := ints_get (k := .i64) (xs := L) (j := (((g2 (gc CS i) m) * W) + (g1 (gc CS i) m)).toNat) (by omega)
          have g'19 := (jn h6 (jn h6d (jn q7 (jn q8 (jn q9 g'18)))))
          refine rgs g'19 (fun h10 h10d g'20 => ?_) (fun h10 h10d g'25 => ?_)
          · have hn0 : 0 ≤ lv L W (gp (gc CS i) m) := h10d
            refine rgs g'20 (fun h11 h11d g'21 => ?_) (fun h11 h11d g'24 => ?_)
            · have hng := h11d
              refine rcs g'21 (fun h12 h12d g'22 => ?_) (fun h12 h12d g'23 => ?_)
              · have hby := bst_y hn0 (.inr h12d)
                refine runTf g'22 ?_
                refine hJ1 _ _ ⟨k1 - 1, by omega, _, _, _, ⟨m + 1, by omega, rfl, rfl⟩, (Abs.byG hbel_c [] rfl [0, 1] (by decide) ?_).le hle_c⟩
                exact absRf (jn @hby (jn @r4_append (jn @r4_cons (jn @r4_nil @mvs_r4))))
              have hbn := bst_n (L := L) (W := W) (c := gc CS i) (m := m) (fun q => q.2.elim hng h12d)
              refine runTf g'23 ?_
              refine hJ1 _ _ ⟨k1 - 1, by omega, _, _, _, ⟨m + 1, by omega, rfl, rfl⟩, (Abs.byG hbel_c [] rfl [0, 1] (by decide) ?_).le hle_c⟩
              exact absRf (jn @hbn (jn @r4_append (jn @r4_cons (jn @r4_nil @mvs_r4))))
            have hby := bst_y hn0 (.inl h11d)
            refine runTf g'24 ?_
            refine hJ1 _ _ ⟨k1 - 1, by omega, _, _, _, ⟨m + 1, by omega, rfl, rfl⟩, (Abs.byG hbel_c [] rfl [0, 1] (by decide) ?_).le hle_c⟩
            exact absRf (jn @hby (jn @r4_append (jn @r4_cons (jn @r4_nil @mvs_r4))))
          have hbn := bst_n (L := L) (W := W) (c := gc CS i) (m := m) (fun q => h10d q.1)
          refine runTf g'25 ?_
          refine hJ1 _ _ ⟨k1 - 1, by omega, _, _, _, ⟨m + 1, by omega, rfl, rfl⟩, (Abs.byG hbel_c [] rfl [0, 1] (by decide) ?_).le hle_c⟩
          exact absRf (jn @hbn (jn @r4_append (jn @r4_cons (jn @r4_nil @mvs_r4))))
        obtain rfl : m = (gc CS i).length := by omega
        refine rcs g'26 (fun h13 h13d g'27 => ?_) (fun h13 h13d g'28 => ?_)
        · refine runTf g'27 ?_
          have hgs : golI L W CS (i + 1) = golI L W CS i := if_neg (Int.not_le.2 (by assumption))
          refine hJ0 _ _ ⟨k0 - 1, by omega, _, _, _, ⟨i + 1, by omega, rfl, rfl⟩, (Abs.byG hbel_c [] rfl [0] (by decide) ?_).le hle_c⟩
          exact absRf (jn @hgs (jn @r4_append (jn @r4_cons (jn @r4_nil @mvs_r4))))
        refine runTf g'28 ?_
        refine glp (fun k F Hx => ∃ u : Nat, u + k = (golI L W CS i).length ∧ (∀ j, j < u → befG (g4 (golI L W CS i) j) ((bstS L W (gc CS i) (gc CS i).length).1, (bstS L W (gc CS i) (gc CS i).length).2.1, (bstS L W (gc CS i) (gc CS i).length).2.2, (((gc CS i).length : Nat) : Int))) ∧ F = [(2, .ptr (some (H.length, 0))), (6, .sl (some (H.length + 2, 0)) L.length none), (8, .sl (some (br_c, 0)) CS.length (capG CS.length)), (10, .sl (some (G_c.length, 0)) ((golI L W CS i).length) (capG (golI L W CS i).length)), (11, iV ((i : Nat) : Int)), (12, .ptr (some (G_c.length + 1, 0))), (16, iV ((u : Nat) : Int))] ∧ Hx = G_c ++ [.cells (ownG (golI L W CS i).length) 4 (r4 (golI L W CS i)), .cells true 0 [iV ((bstS L W (gc CS i) (gc CS i).length).1), iV ((bstS L W (gc CS i) (gc CS i).length).2.1), iV ((bstS L W (gc CS i) (gc CS i).length).2.2), iV (((gc CS i).length : Nat) : Int)]]) ((golI L W CS i).length) ?_ ?_
        · refine ⟨_, _, _, ⟨0, by omega, (fun j h => by omega), rfl, rfl⟩, (Abs.byG hbel_c [] rfl [0, 1] (by decide) ?_).le hle_c⟩
          exact absRf (jn @r4_append (jn @r4_cons (jn @r4_nil @mvs_r4)))
        rintro k2 F Hx ⟨u, hm2, hbf, rfl, rfl⟩ J2 hJ2
        have hul0 : u ≤ (golI L W CS i).length := by omega
        refine rgs g'28 (fun h14 h14d _ => ?_) (fun h14 h14d _ => ?_)
        · have hul : u < (golI L W CS i).length := by omega
          have hsf1 : decide (1 < 1 + ((golI L W CS i).length - u)) = true := decide_eq_true (by omega)
          have q15 := r4_load (l := golI L W CS i) (j := u) (by omega)
          have g'29 := (jn h14 (jn h14d (jn @hsf1 (jn q15 g'28))))
          refine runTf g'29 ?_
          refine cd (bgb_c _ _ _ _ _ _ _ _ _) ?_
          refine rcs g'29 (fun h16 h16d g'30 => ?_) (fun h16 h16d _ => ?_)
          · have hbt : befG (g4 (golI L W CS i) u) ((bstS L W (gc CS i) (gc CS i).length).1, (bstS L W (gc CS i) (gc CS i).length).2.1, (bstS L W (gc CS i) (gc CS i).length).2.2, (((gc CS i).length : Nat) : Int)) := of_decide_eq_true (by assumption)
            refine runTf g'30 ?_
            refine hJ2 _ _ ⟨k2 - 1, by omega, _, _, _, ⟨u + 1, by omega, (fun j hj => by
              by_cases e : j = u
              · rw [e]; exact hbt
              exact hbf j (by omega)), rfl, rfl⟩, (Abs.byG hbel_c [] rfl [0, 1] (by decide) ?_).le hle_c⟩
            exact absRf (jn @r4_append (jn @r4_cons (jn @r4_nil @mvs_r4)))
          have hins := ins_at (b := ((bstS L W (gc CS i) (gc CS i).length).1, (bstS L W (gc CS i) (gc CS i).length).2.1, (bstS L W (gc CS i) (gc CS i).length).2.2, (((gc CS i).length : Nat) : Int))) hul0 hbf (.inr (of_decide_eq_false (by assumption)))
          have q17 := r4_dropv (l := golI L W CS i) (k := u) (by omega)
          have q18 : (1 + ((golI L W CS i).length - u) == 0) = false := beq_eq_false_iff_ne.2 (by omega)
          have hcp1 : (u + (1 + ((golI L W CS i).length - u)) == 0) = false := beq_eq_false_iff_ne.2 (by omega)
          have hcp3 : ∀ a b c d : AV, List.take ((1 + ((golI L W CS i).length - u)) * 4) (a :: b :: c :: d :: r4 (List.drop u (golI L W CS i))) = a :: b :: c :: d :: r4 (List.drop u (golI L W CS i)) := fun a b c d => List.take_of_length_le (by simp only [List.length_cons, r4_len, List.length_drop]; omega)
          have hcp2 : decide (u < u + (1 + ((golI L W CS i).length - u))) = true := decide_eq_true (by omega)
          have g'31 := (jn h16 (jn h16d (jn q17 (jn @List.length_take.{0} (jn @List.length_drop.{0} (jn @Nat.sub_zero (jn q18 (jn @hcp1 (jn @hcp3 (jn @hcp2 (jn @r4_take (jn @r4_all (jn @List.length_append.{0} g'29)))))))))))))
          refine runTf g'31 ?_
          have hgs : golI L W CS (i + 1) = List.take u (golI L W CS i) ++ ([((bstS L W (gc CS i) (gc CS i).length).1, (bstS L W (gc CS i) (gc CS i).length).2.1, (bstS L W (gc CS i) (gc CS i).length).2.2, (((gc CS i).length : Nat) : Int))] ++ List.drop u (golI L W CS i)) := (if_pos (Int.not_lt.1 (by assumption))).trans hins
          have hmnu : min u (golI L W CS i).length = u := Nat.min_eq_left hul0
          have hlnu : u + ((golI L W CS i).length - u + 1) = u + (1 + ((golI L W CS i).length - u)) := by omega
          have hcgu : capG (u + (1 + ((golI L W CS i).length - u))) = none := capG_p (by omega)
          have hogu : ownG (u + (1 + ((golI L W CS i).length - u))) = true := ownG_p (by omega)
          refine hJ0 _ _ ⟨k0 - 1, by omega, _, _, _, ⟨i + 1, by omega, rfl, rfl⟩, (Abs.byG hbel_c [] rfl [4] (by decide) ?_).le hle_c⟩
          exact absRf (jn @hgs (jn @List.length_take.{0} (jn @List.length_drop.{0} (jn @hmnu (jn @hlnu (jn @hcgu (jn @hogu (jn @r4_append (jn @r4_cons (jn @r4_nil @mvs_r4))))))))))
        have huE : u = (golI L W CS i).length := by omega
        have hins := ins_at (b := ((bstS L W (gc CS i) (gc CS i).length).1, (bstS L W (gc CS i) (gc CS i).length).2.1, (bstS L W (gc CS i) (gc CS i).length).2.2, (((gc CS i).length : Nat) : Int))) hul0 hbf (.inl huE)
        have hsf1 : decide (1 < 1 + ((golI L W CS i).length - u)) = false := decide_eq_false (by omega)
        have q19 := r4_dropv (l := golI L W CS i) (k := u) (by omega)
        have q20 : (1 + ((golI L W CS i).length - u) == 0) = false := beq_eq_false_iff_ne.2 (by omega)
        have hcp1 : (u + (1 + ((golI L W CS i).length - u)) == 0) = false := beq_eq_false_iff_ne.2 (by omega)
        have hcp3 : ∀ a b c d : AV, List.take ((1 + ((golI L W CS i).length - u)) * 4) (a :: b :: c :: d :: r4 (List.drop u (golI L W CS i))) = a :: b :: c :: d :: r4 (List.drop u (golI L W CS i)) := fun a b c d => List.take_of_length_le (by simp only [List.length_cons, r4_len, List.length_drop]; omega)
        have hcp2 : decide (u < u + (1 + ((golI L W CS i).length - u))) = true := decide_eq_true (by omega)
        have g'32 := (jn h14 (jn h14d (jn @hsf1 (jn q19 (jn @List.length_take.{0} (jn @List.length_drop.{0} (jn @Nat.sub_zero (jn q20 (jn @hcp1 (jn @hcp3 (jn @hcp2 (jn @r4_take (jn @r4_all (jn @List.length_append.{0} g'28))))))))))))))
        refine runTf g'32 ?_
        have hgs : golI L W CS (i + 1) = List.take u (golI L W CS i) ++ ([((bstS L W (gc CS i) (gc CS i).length).1, (bstS L W (gc CS i) (gc CS i).length).2.1, (bstS L W (gc CS i) (gc CS i).length).2.2, (((gc CS i).length : Nat) : Int))] ++ List.drop u (golI L W CS i)) := (if_pos (Int.not_lt.1 (by assumption))).trans hins
        have hmnu : min u (golI L W CS i).length = u := Nat.min_eq_left hul0
        have hlnu : u + ((golI L W CS i).length - u + 1) = u + (1 + ((golI L W CS i).length - u)) := by omega
        have hcgu : capG (u + (1 + ((golI L W CS i).length - u))) = none := capG_p (by omega)
        have hogu : ownG (u + (1 + ((golI L W CS i).length - u))) = true := ownG_p (by omega)
        refine hJ0 _ _ ⟨k0 - 1, by omega, _, _, _, ⟨i + 1, by omega, rfl, rfl⟩, (Abs.byG hbel_c [] rfl [4] (by decide) ?_).le hle_c⟩
        exact absRf (jn @hgs (jn @List.length_take.{0} (jn @List.length_drop.{0} (jn @hmnu (jn @hlnu (jn @hcgu (jn @hogu (jn @r4_append (jn @r4_cons (jn @r4_nil @mvs_r4))))))))))
      obtain rfl : i = CS.length := by omega
      refine runTf g'33 ?_
      exact hQ _ _ (end_drop (n := (golI L W CS CS.length).length) (c := (capG (golI L W CS CS.length).length)) (z := 0) (.inl rfl) hpre_c h0bel 0 (resT Try.results16) rfl (fun _ => mvs_r4) ⟨rfl, rfl⟩)
    have h2d := h2
    rw [hg] at h2d; cases h2d
  have h1d := h1
  rw [hv] at h1d; cases h1d
section
variable {W H : Int} {xs : List Int} {goal : Pt}
theorem rlx_round {B : Nat} {L : List Int} {Q : List Pt} {c : Pt} (hB : 99 * L.length < B) (D : Rlx W H xs goal L Q c 0) (hc : inB W H c.1 c.2 = true) (hv : 0 ≤ lv L W c) : ∀ q : Nat, q ≤ 8 → ∃ (M : List Int) (R : List Pt), Rlx W H xs goal M R c q ∧ 0 ≤ lv M W c ∧ M.length = L.length ∧ 2 * pot B M + R.length ≤ 2 * pot B L + Q.length
  | 0, _ => ⟨L, Q, D, hv, rfl, Nat.le_refl _⟩
  | q + 1, hq => by
    obtain ⟨M, R, D1, h1, h2, h3⟩ := rlx_round hB D hc hv q (by omega)
    by_cases hs : 0 ≤ stk W H xs c q
    · by_cases hk : 0 ≤ lv M W (to c q) ∧ lv M W (to c q) ≤ lv M W c + stk W H xs c q
      · exact ⟨M, R, rlx_skip D1 (fun _ => hk), h1, h2, h3⟩
      have hlt : lv M W (to c q) < 0 ∨ lv M W c + stk W H xs c q < lv M W (to c q) := by omega
      have hti := (stk_in hs).2.1
      have hix := idx_bd hti
      have hbd := D1.bd c hc h1
      have hnd := nd_le M
      have h99 := (stk_in hs).2.2
      have hlx : ixc W (to c q) < M.length := by have := D1.len; unfold ixc; omega
      have hp := pot_set (B := B) (L := M) (i := ixc W (to c q)) (v := lv M W c + stk W H xs c q) hlx (by omega) (by omega) hlt
      refine ⟨_, _, rlx_set D1 (by omega) h1 hs hlt to_ne, ?_, by rw [List.length_set]; exact h2, by rw [List.length_append, List.length_singleton]; omega⟩
      rw [lv_set D1.len hti hc, if_neg to_ne]; exact h1
    exact ⟨M, R, rlx_skip D1 (fun h => absurd h hs), h1, h2, h3⟩
theorem rlx_ex {B : Nat} : ∀ (k : Nat) (L : List Int) (Q : List Pt) (v : Pt), 99 * L.length < B → Rlx W H xs goal L Q v 8 → 2 * pot B L + Q.length ≤ k → ∃ M, CostP W H xs goal M
  | k, L, [], v, _, D, _ => ⟨L, rlx_end D⟩
  | 0, L, c :: Q, v, _, D, h => by simp at h
  | k + 1, L, c :: Q, v, hB, D, h => by
    have hq := D.qin c (List.mem_cons_self ..)
    obtain ⟨M, R, D1, h1, h2, h3⟩ := rlx_round hB (rlx_pop D) (isB_in hq.1) hq.2 8 (Nat.le_refl _)
    exact rlx_ex k M R c (by rw [h2]; exact hB) D1 (by simp only [List.length_cons] at h; omega)
theorem cost_ex {n : Nat} (hn : (n : Int) = W * H) (hg : isB W H xs goal.1 goal.2 1 = true) : ∃ M, CostP W H xs goal M :=
  rlx_ex (B := 99 * n + 1) _ _ _ goal (by rw [List.length_set, List.length_replicate]; omega) (rlx0 hn hg goal) (Nat.le_refl _)
theorem cost_spec {n : Nat} (hn : (n : Int) = W * H) (h0 : 1 ≤ W) (hg : isB W H xs goal.1 goal.2 1 = true) : CostP W H xs goal (costL W H xs goal) := by
  obtain ⟨M, hM⟩ := cost_ex hn hg
  rw [costL_eq h0 (isB_in hg) hM]; exact hM
theorem cost_len {n : Nat} (hn : (n : Int) = W * H) (h0 : 1 ≤ W) (hg : isB W H xs goal.1 goal.2 1 = true) : (costL W H xs goal).length = n := by
  have := (cost_spec hn h0 hg).len
  omega
end
theorem gols_T (H : AHeap) (T : List T4) (W Hh : Int) (s : AV) (xs : List Int) (gx gy : Int) (hs : Sl H 1 s xs.length (ints .u8 xs)) (hv : vldB W Hh xs = true) (hg : isB W Hh xs gx gy 1 = true) (hT : golF W Hh xs gx gy = T) :
    ACalls Try.prog 14 [.agg [iV W, iV Hh, s], .agg [iV gx, iV gy]] H (fun v H' => v = .tup [.sl (some (H.length, 0)) T.length (capG T.length), iV 0] ∧ H' = H ++ [.cells (ownG T.length) 4 (r4 T)]) := by
  subst hT
  exact gols_y H _ _ _ W Hh s xs gx gy hs hv hg rfl rfl rfl (cost_len (vld_iff.1 hv).len (vld_iff.1 hv).w0 (goal := (gx, gy)) hg)
theorem rgol_T (H : AHeap) (T : List T4) (W Hh : Int) (s : AV) (xs : List Int) (gx gy : Int) (hs : Sl H 1 s xs.length (ints .u8 xs)) (hv : vldB W Hh xs = true) (hg : isB W Hh xs gx gy 1 = true) (hT : golF W Hh xs gx gy = T) :
    ACalls Try.prog 16 [.agg [iV W, iV Hh, s], .agg [iV gx, iV gy]] H (fun v H' => v = .tup [.sl (some (H.length, 0)) T.length (capG T.length), iV 0] ∧ H' = H ++ [.cells (ownG T.length) 4 (r4 T)]) := by
  subst hT
  exact rgol_y H _ _ _ W Hh s xs gx gy hs hv hg rfl rfl rfl (cost_len (vld_iff.1 hv).len (vld_iff.1 hv).w0 (goal := (gx, gy)) hg)
theorem done_y (H : AHeap) (T : List T4) (W Hh : Int) (pp : AV) (xs : List Int) (gx gy : Int) (hpp : Sl H 1 pp xs.length (ints .u8 xs)) (hv : vldB W Hh xs = true) (hg : isB W Hh xs gx gy 1 = true) (hT : golF W Hh xs gx gy = T) : ACalls Try.prog 15 [.agg [iV W, iV Hh, pp], .agg [iV gx, iV gy]] H (fun v H' => v = .tup [.bool (((T.length : Nat) : Int) == 0), iV 0] ∧ H' = H) := by
  obtain ⟨bpp, opp, cpp, rfl, hbpp⟩ := hpp
  have hblpp := getElem?_lt hbpp
  have hb0pp := fun l => get_app (l := l) hbpp
  refine AcT true Try.func15 ?_; intro hbel Q hQ
  have g'1 := (jn @hbpp @hb0pp)
  refine runTf g'1 ?_
  rcases Bool.eq_false_or_eq_true (vldB W Hh xs) with h1 | h1
  · have h1d := h1
    rcases Bool.eq_false_or_eq_true (isB W Hh xs gx gy 1) with h2 | h2
    · have h2d := h2
      refine cv (gols_T _ T W Hh _ xs gx gy (⟨_, _, _, rfl, by first | exact hb0pp _ | exact hbpp⟩) (by assumption) (by assumption) hT) ?_
      have g'2 := (jn h1 (jn h1d (j2 h2 h2d g'1)))
      exact eR g'2 hQ hbel (.tup [.bool (((T.length : Nat) : Int) == 0), iV 0]) Try.results15 ⟨rfl, rfl⟩
    have h2d := h2
    rw [hg] at h2d; cases h2d
  have h1d := h1
  rw [hv] at h1d; cases h1d
theorem done_f (H : AHeap) (W Hh : Int) (pp : AV) (xs : List Int) (gx gy : Int) (hpp : Sl H 1 pp xs.length (ints .u8 xs)) (hv : vldB W Hh xs = true) (hg : isB W Hh xs gx gy 1 = false) : ACalls Try.prog 15 [.agg [iV W, iV Hh, pp], .agg [iV gx, iV gy]] H (fun v H' => v = .tup [.bool false, iV 7] ∧ H' = H) := by
  obtain ⟨bpp, opp, cpp, rfl, hbpp⟩ := hpp
  have hblpp := getElem?_lt hbpp
  have hb0pp := fun l => get_app (l := l) hbpp
  refine AcT true Try.func15 ?_; intro hbel Q hQ
  have g'3 := (jn @hbpp @hb0pp)
  refine runTf g'3 ?_
  rcases Bool.eq_false_or_eq_true (vldB W Hh xs) with h1 | h1
  · have h1d := h1
    rcases Bool.eq_false_or_eq_true (isB W Hh xs gx gy 1) with h2 | h2
    · have h2d := h2
      rw [hg] at h2d; cases h2d
    have h2d := h2
    refine cv (gols_f _ W _ _ xs _ _ (⟨_, _, _, rfl, by first | exact hb0pp _ | exact hbpp⟩) (by assumption) (by assumption)) ?_
    have g'4 := (jn h1 (jn h1d (j2 h2 h2d g'3)))
    exact eR g'4 hQ hbel (.tup [.bool false, iV 7]) Try.results15 ⟨rfl, rfl⟩
  have h1d := h1
  rw [hv] at h1d; cases h1d
theorem done_n (H : AHeap) (W Hh : Int) (pp : AV) (xs : List Int) (gx gy : Int) (hpp : Sl H 1 pp xs.length (ints .u8 xs)) (hv : vldB W Hh xs = false) : ACalls Try.prog 15 [.agg [iV W, iV Hh, pp], .agg [iV gx, iV gy]] H (fun v H' => v = .tup [.bool false, iV 1] ∧ H' = H) := by
  obtain ⟨bpp, opp, cpp, rfl, hbpp⟩ := hpp
  have hblpp := getElem?_lt hbpp
  have hb0pp := fun l => get_app (l := l) hbpp
  refine AcT true Try.func15 ?_; intro hbel Q hQ
  have g'5 := (jn @hbpp @hb0pp)
  refine runTf g'5 ?_
  rcases Bool.eq_false_or_eq_true (vldB W Hh xs) with h1 | h1
  · have h1d := h1
    rw [hv] at h1d; cases h1d
  have h1d := h1
  refine cv (gols_n _ W _ _ xs _ _ (⟨_, _, _, rfl, by first | exact hb0pp _ | exact hbpp⟩) (by assumption)) ?_
  have g'6 := j2 h1 h1d g'5
  exact eR g'6 hQ hbel (.tup [.bool false, iV 1]) Try.results15 ⟨rfl, rfl⟩
theorem golF_len {W Hh gx gy : Int} {xs : List Int} (hv : vldB W Hh xs = true) : (golF W Hh xs gx gy).length ≤ 4096 := by
  have h1 := golI_len (L := costL W Hh xs (gx, gy)) (W := W) (CS := cluL (froL W Hh xs)) (cluL (froL W Hh xs)).length
  have h2 := (cluL_ok (A := froL W Hh xs) fro_nodup).len
  have h3 := fro_len (vld_iff.1 hv)
  unfold golF; omega
theorem lgoal_c (H : AHeap) (W Hh : Int) (pp : AV) (xs : List Int) (gx gy : Int) (hpp : Sl H 1 pp xs.length (ints .u8 xs)) : ACalls Try.prog 5 [.agg [iV W, iV Hh, pp], .agg [iV gx, iV gy]] H (fun v H' => v = .bool true ∧ H' = H) := by
  obtain ⟨bpp, opp, cpp, rfl, hbpp⟩ := hpp
  have hblpp := getElem?_lt hbpp
  have hb0pp := fun l => get_app (l := l) hbpp
  obtain ⟨T, hT⟩ : ∃ T, golF W Hh xs gx gy = T := ⟨_, rfl⟩
  refine AcT true Try.func5 ?_; intro hbel Q hQ
  have g'1 := (jn @hbpp @hb0pp)
  refine runTf g'1 ?_
  refine cvr g'1 (awake_a _) ?_
  refine cv (few38_c _ W _ _ xs (⟨_, _, _, rfl, by first | exact hb0pp _ | exact hbpp⟩)) ?_
  refine rcs g'1 (fun h1 h1d g'2 => ?_) (fun h1 h1d g'3 => ?_)
  · refine runTf g'2 ?_
    refine cvr g'2 (awake_a _) ?_
    exact eP hQ hbel (.bool true) Try.results5 ⟨rfl, rfl⟩
  refine runTf g'3 ?_
  rcases Bool.eq_false_or_eq_true (vldB W Hh xs) with h2 | h2
  · have h2d := h2
    rcases Bool.eq_false_or_eq_true (isB W Hh xs gx gy 1) with h3 | h3
    · have h3d := h3
      have hTl : T.length ≤ 4096 := hT ▸ golF_len (by assumption)
      refine cv (gols_T _ T W Hh _ xs gx gy (⟨_, _, _, rfl, by first | exact hb0pp _ | exact hbpp⟩) (by assumption) (by assumption) hT) ?_
      have g'4 := (jn h2 (jn h2d (j2 h3 h3d g'3)))
      refine runTf g'4 ?_
      refine cvr g'4 (done_y _ T W _ _ xs _ _ (⟨_, _, _, rfl, by first | exact hb0pp _ | exact hbpp⟩) (by assumption) (by assumption) hT) ?_
      refine cvr g'4 (rgol_T _ T W Hh _ xs gx gy (⟨_, _, _, rfl, by first | exact hb0pp _ | exact hbpp⟩) (by assumption) (by assumption) hT) ?_
      refine glp (fun k F Hx => ∃ i : Nat, i + k = T.length ∧ F = [(5, .sl (some (H.length, 0)) T.length (capG T.length)), (9, .sl (some (H.length + 1, 0)) T.length (capG T.length)), (11, iV ((i : Nat) : Int))] ∧ Hx = H ++ [.cells (ownG T.length) 4 (r4 T), .cells (ownG T.length) 4 (r4 T)]) (T.length) ?_ ?_
      · refine ⟨_, _, _, ⟨0, by omega, rfl, rfl⟩, bS hbel [2, 3] (absRf (jn @r4_append (jn @r4_cons (jn @r4_nil @mvs_r4))))⟩
      rintro k0 F Hx ⟨i, hm0, rfl, rfl⟩ J0 hJ0
      have g'5 := (jn @r4_len (jn @r4_one g'4))
      refine rcs g'5 (fun h4 h4d _ => ?_) (fun h4 h4d g'7 => ?_)
      · have hlt : i < T.length := by omega
        have q5 := r4_load (l := T) (j := i) (by omega)
        have q6 := r4_load (l := T) (j := i) (by omega)
        have g'6 := (jn h4 (jn h4d (jn q5 (jn q6 g'5))))
        refine runTf g'6 ?_
        refine hJ0 _ _ ⟨k0 - 1, by omega, _, _, _, ⟨i + 1, by omega, rfl, rfl⟩, bS hbel [0, 1] (absRf (jn @r4_append (jn @r4_cons (jn @r4_nil @mvs_r4))))⟩
      exact eR g'7 hQ hbel (.bool true) Try.results5 ⟨rfl, rfl⟩
    have h3d := h3
    refine cv (gols_f _ W _ _ xs _ _ (⟨_, _, _, rfl, by first | exact hb0pp _ | exact hbpp⟩) (by assumption) (by assumption)) ?_
    have g'8 := (jn h2 (jn h2d (j2 h3 h3d g'3)))
    refine runTf g'8 ?_
    refine cvr g'8 (done_f _ W _ _ xs _ _ (⟨_, _, _, rfl, by first | exact hb0pp _ | exact hbpp⟩) (by assumption) (by assumption)) ?_
    refine cvr g'8 (rgol_f _ W _ _ xs _ _ (⟨_, _, _, rfl, by first | exact hb0pp _ | exact hbpp⟩) (by assumption) (by assumption)) ?_
    refine glp (fun k F Hx => ∃ z : Unit, k = 0 ∧ F = [(5, .sl none 0 (some 0)), (9, .sl none 0 (some 0)), (11, iV 0)] ∧ H = Hx) (0) ?_ ?_
    · refine ⟨_, _, _, ⟨(), by omega, rfl, rfl⟩, Abs.byN hbel ?_⟩
      exact absW
    rintro k1 F Hx ⟨z, hm1, rfl, rfl⟩ J1 hJ1
    exact eS g'8 hQ hbel (.bool true) Try.results5 ⟨rfl, rfl⟩
  have h2d := h2
  refine cv (gols_n _ W _ _ xs _ _ (⟨_, _, _, rfl, by first | exact hb0pp _ | exact hbpp⟩) (by assumption)) ?_
  have g'9 := j2 h2 h2d g'3
  refine runTf g'9 ?_
  refine cvr g'9 (done_n _ W _ _ xs _ _ (⟨_, _, _, rfl, by first | exact hb0pp _ | exact hbpp⟩) (by assumption)) ?_
  refine cvr g'9 (rgol_n _ W _ _ xs _ _ (⟨_, _, _, rfl, by first | exact hb0pp _ | exact hbpp⟩) (by assumption)) ?_
  refine glp (fun k F Hx => ∃ z : Unit, k = 0 ∧ F = [(5, .sl none 0 (some 0)), (9, .sl none 0 (some 0)), (11, iV 0)] ∧ H = Hx) (0) ?_ ?_
  · refine ⟨_, _, _, ⟨(), by omega, rfl, rfl⟩, Abs.byN hbel ?_⟩
    exact absW
  rintro k2 F Hx ⟨z, hm2, rfl, rfl⟩ J2 hJ2
  exact eS g'9 hQ hbel (.bool true) Try.results5 ⟨rfl, rfl⟩
set_option maxRecDepth 100000 in
theorem frontierGoals_top (H : AHeap) (xs : List AV) (hn : xs.length = 2) (hy : ∀ (j : Nat) (t : TypeId) (x : AV), [24, 36][j]? = some t → xs[j]? = some x → ATy Try.prog H 9 t x) : ACalls Try.prog 5 xs H (fun v H' => v = .bool true ∧ H' = H) := by
  match xs, hn, hy with
  | [a0, a1], _, hy =>
    obtain ⟨ys0, e0, r0_0⟩ := (hy 0 _ a0 rfl rfl).agg (ls := [3, 3, 22]) (by kernel_rfl) (by kernel_rfl)
    obtain ⟨y0_0, q0_0, rfl, t0_0, r0_1⟩ := r0_0.cons
    obtain ⟨z1, rfl, w1⟩ := t0_0.int (k := .i64) (by kernel_rfl)
    obtain ⟨y0_1, q0_1, rfl, t0_1, r0_2⟩ := r0_1.cons
    obtain ⟨z2, rfl, w2⟩ := t0_1.int (k := .i64) (by kernel_rfl)
    obtain ⟨y0_2, q0_2, rfl, t0_2, r0_3⟩ := r0_2.cons
    obtain ⟨l3, s3, m3, w3⟩ := t0_2.intsU (n := 7) (t := 22) (e := 5) (by kernel_rfl) (by kernel_rfl) (by kernel_rfl)
    obtain rfl := r0_3.nil
    subst e0
    obtain ⟨ys1, e1, r1_0⟩ := (hy 1 _ a1 rfl rfl).agg (ls := [3, 3]) (by kernel_rfl) (by kernel_rfl)
    obtain ⟨y1_0, q1_0, rfl, t1_0, r1_1⟩ := r1_0.cons
    obtain ⟨z4, rfl, w4⟩ := t1_0.int (k := .i64) (by kernel_rfl)
    obtain ⟨y1_1, q1_1, rfl, t1_1, r1_2⟩ := r1_1.cons
    obtain ⟨z5, rfl, w5⟩ := t1_1.int (k := .i64) (by kernel_rfl)
    obtain rfl := r1_2.nil
    subst e1
    exact lgoal_c H z1 z2 _ l3 z4 z5 s3
section
open Go.ChangeShapes Go.WideShapes Go.ChangeAt Go.Joins
open Go.ChangeMaps (open_string shut_string)
set_option maxRecDepth 100000 in
theorem frontierGoals_lifted (os : Os) (started : os.Started) (H : Type) (enc : TypeId × Value → H) :
    ReturnsInHanded {} Try.checked os 5 .any (Rows.frontierGoalsSpec.pre6 enc Try.prog Try.f5 Rows.frontierGoalsRow.domain false) (Rows.frontierGoalsSpec.post enc Try.prog Try.f5 false true false false) := by
  refine returnsInHanded_of_change (C := Try.checked) own started (by kernel_rfl) Try.func5
    (ChangeSpec.witness6 (enc := enc) (C := Try.checked) false ⟨#[], #[.agg #[.int .i64 0, .int .i64 0, .slice none 0 0], .agg #[.int .i64 0, .int .i64 0]], []⟩ 8 (by kernel_rfl) (by kernel_rfl) (by kernel_rfl) (by kernel_rfl)) ?_
  intro W base args ds gs before hval0 hW hcnd _
  have hval : ∀ (j : Nat) t v, Try.f5.params[j]? = some t → args[j]? = some v → Value.okWide Try.prog W .any base t v := hval0
  have hW' := hW
  obtain ⟨p, q, hA0, hV, rfl, hfz, hnd⟩ := hW
  have hA : DataW.TrodAll enc Try.prog W 0 (fun _ => true) true Try.f5.params.toList args.toList ds p := hA0
  rw [Try.params5] at hA hval
  have hwalk := calls_top (n := 9) (f := 5) hA (fun j t v a b => hval j t v (by simpa using a) (by simpa using b)) (by kernel_rfl) (fun H xs hn hy => frontierGoals_top H xs hn hy)
  rw [Array.toArray_toList] at hwalk
  obtain ⟨v0, vs0, d0, ds0, p0, q0, hargs, rfl, rfl, h0, r0⟩ := trodAll_cons hA
  obtain ⟨v1, vs1, d1, ds1, p1, q1, rfl, rfl, rfl, h1, r1⟩ := trodAll_cons r0
  obtain ⟨rfl, rfl, rfl⟩ := trodAll_nil r1
  obtain rfl : args = #[v0, v1] := by cases args; simp_all
  obtain ⟨rfl, rfl⟩ := trodVars_none hV
  have k0 := h0
  have lt0 : ∀ x ∈ p0, x.block < W.heap.size := by obtain ⟨m, hm⟩ := k0; exact DataW.trod_lt m _ _ _ hm
  have k1 := h1
  have lt1 : ∀ x ∈ p1, x.block < W.heap.size := by obtain ⟨m, hm⟩ := k1; exact DataW.trod_lt m _ _ _ hm
  clear hA0 hval0
  refine hwalk.mono fun e W' ⟨he, bel⟩ => ?_
  subst he
  exact ⟨_, rfl, _, _, _, [], _, [], hW', trodAll_mk1 (shut_bool Try.underlying4 _), (trodAll_cons_mk (Below.trod laidOut (by kernel_rfl) (of_decide_eq_true (by kernel_rfl)) k0 bel lt0) (trodAll_cons_mk (Below.trod laidOut (by kernel_rfl) (of_decide_eq_true (by kernel_rfl)) k1 bel lt1) trodAll_mk0)), rfl, bel.frame _, fun h => by cases h⟩
theorem and_t {a b : Bool} (h : a = true) (k : b = true) : (a && b) = true := by rw [h, k]; rfl
theorem frontierGoals_h0 : (Rows.frontierGoalsRow.inPlace == Try.pinned.checked.prog.inPlace 5) = true := by kernel_rfl
theorem frontierGoals_h1 : (Rows.frontierGoalsRow.unfollowed == Try.pinned.checked.prog.unfollowed 5) = true := by kernel_rfl
theorem frontierGoals_h2 : (Rows.frontierGoalsRow.recurses == Try.pinned.checked.prog.recurses 5) = true := by kernel_rfl
theorem frontierGoals_h3 : (Rows.frontierGoalsRow.named == Try.pinned.checked.prog.varsNamed 5) = true := by kernel_rfl
theorem frontierGoals_h4 : Try.pinned.checked.prog.stopsHeard = true := by kernel_rfl
theorem frontierGoals_h5 : Try.pinned.checked.prog.mayEnter = true := by kernel_rfl
theorem frontierGoals_h6 : (Rows.frontierGoalsRow.lifted == Try.pinned.checked.prog.liftsFinal) = true := by kernel_rfl
theorem frontierGoals_closed : joinedFacts Try.pinned.checked.prog 5 Try.f5 Rows.frontierGoalsSpec Rows.frontierGoalsRow = true := by
  unfold joinedFacts
  exact (and_t (and_t (and_t (and_t (and_t (and_t (and_t (and_t (and_t (and_t (and_t (and_t (and_t (and_t (and_t (and_t (and_t (and_t (and_t (and_t (and_t (and_t (and_t (and_t (and_t (and_t (and_t (and_t (and_t (and_t (and_t (by kernel_rfl) laidOut) (by kernel_rfl)) (by kernel_rfl)) (by kernel_rfl)) (by kernel_rfl)) (by kernel_rfl)) (by kernel_rfl)) (by kernel_rfl)) frontierGoals_h0) frontierGoals_h1) frontierGoals_h2) frontierGoals_h3) (by kernel_rfl)) (by kernel_rfl)) (by kernel_rfl)) (by kernel_rfl)) (by kernel_rfl)) (by kernel_rfl)) (by kernel_rfl)) (by kernel_rfl)) (by kernel_rfl)) (by kernel_rfl)) (by kernel_rfl)) frontierGoals_h4) frontierGoals_h5) frontierGoals_h6) (by kernel_rfl)) (by kernel_rfl)) (by kernel_rfl)) (by kernel_rfl)) (by kernel_rfl))
theorem frontierGoals_over : Rows.frontierGoalsRow.holds Try.pinned (OpenSpec.ofChange Rows.frontierGoalsSpec) :=
  OpenClaim.holds_of_wide 5 Try.f5 rfl rfl rfl rfl rfl rfl rfl ⟨rfl, rfl, rfl, rfl, rfl⟩ rfl rfl rfl rfl rfl (by kernel_rfl) Try.func5 frontierGoals_closed
    (of_decide_eq_true (by kernel_rfl)) (by unfold Func.isWrapper; rw [if_neg (by decide +kernel)]; exact ⟨rfl, rfl⟩)
    (fun os started H enc _ => frontierGoals_lifted os started H enc)
/-- The given statement. -/
theorem frontierGoals_proved : Rows.FrontierGoalsSaid := frontierGoals_over
end
end Go.Proofs.Ytcghekjnjbpeoaa
