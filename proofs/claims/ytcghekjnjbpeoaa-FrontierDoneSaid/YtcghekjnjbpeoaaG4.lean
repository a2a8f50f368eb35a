/- Proved: the law FrontierDone returns true on every input, and its arguments read afterwards as before. Conditions: none beyond the given row's. -/
import Derived.Test.YtcghekjnjbpeoaaG3
import Derived.Test.YtcghekjnjbpeoaaG2
namespace Go.Proofs.Ytcghekjnjbpeoaa
set_option linter.unusedSimpArgs false
set_option linter.unusedVariables false
open Go.RowKit
set_option maxHeartbeats 4000000
set_option maxRecDepth 100000
theorem prs_allC {l : List (Int × Int)} : (prs l).take (l.length * 2) = prs l := List.take_of_length_le (by rw [prs_len]; omega)
theorem fro_bd {W Hh : Int} {xs : List Int} (hV : Vld W Hh xs) : ∀ p ∈ froL W Hh xs, (0 ≤ p.1 ∧ p.1 < 64) ∧ 0 ≤ p.2 ∧ p.2 < 64 := fun p hp => by
  obtain ⟨w0, w1, h0, h1, -⟩ := hV
  have := (gridP_mem _ _ _ p).1 hp
  omega
theorem fcells_u (H : AHeap) (W Hh : Int) (s : AV) (xs : List Int) (A : List (Int × Int)) (hA : froL W Hh xs = A) (hV : Vld W Hh xs) (hs : Sl H 1 s xs.length (ints .u8 xs)) :
    ACalls Try.prog 22 [.agg [iV W, iV Hh, s]] H (fun v H' => v = .sl (some (H.length, 0)) A.length (capG A.length) ∧ H' = H ++ [.cells (ownG A.length) 2 (prs A)]) := by
  obtain ⟨b, own, cap, rfl, hb⟩ := hs
  have h := fcells_c H W Hh xs b own cap _ hV hb rfl
  rw [hA] at h
  rcases Nat.eq_zero_or_pos A.length with h0 | h0
  · rw [List.eq_nil_of_length_eq_zero h0] at h ⊢
    simp only [retP_nil] at h
    refine ACalls.weak0 h [.cells false 2 []] rfl [0] (by decide) _ _ ?_
    exact absTf (jn @List.length_nil.{0} (jn @capG_0 (jn @ownG_0 @prs_nil)))
  rw [retP_pos h0] at h
  refine ACalls.weak h [] rfl [0] (by decide) _ _ ?_
  rw [capG_p h0, ownG_p h0]
  generalize A = L
  exact absT
theorem clus_y (H : AHeap) (A : List (Int × Int)) (n0 : Nat) (W Hh : Int) (pp : AV) (xs : List Int) (hpp : Sl H 1 pp xs.length (ints .u8 xs)) (hv : vldB W Hh xs = true) (hA : froL W Hh xs = A) (hn0 : n0 = H.length) : ACalls Try.prog 10 [.agg [iV W, iV Hh, pp]] H (fun v H' => ∃ X : AHeap, (∀ x ∈ X, ABlk.bel (H ++ X).length x = true) ∧ (X = (cluL A).map cblk) ∧ v = .tup [.sl (some ((H ++ X).length, 0)) ((cluL A).length) (capG (cluL A).length), iV 0] ∧ H' = H ++ X ++ [.cells (ownG (cluL A).length) 1 (slr n0 (cluL A))]) := by
  obtain ⟨bpp, opp, cpp, rfl, hbpp⟩ := hpp
  have hblpp := getElem?_lt hbpp
  have hb0pp := fun l => get_app (l := l) hbpp
  have hV := vld_iff.1 hv
  have hAb : ∀ p ∈ A, (0 ≤ p.1 ∧ p.1 < 64) ∧ 0 ≤ p.2 ∧ p.2 < 64 := hA ▸ fro_bd hV
  have hAn : A.Nodup := hA ▸ fro_nodup
  have hAl : A.length ≤ 4096 := hA ▸ fro_len hV
  have hins := insN_all hAn
  refine AcT true Try.func10 ?_; intro hbel Q hQ
  have h0bel := hbel
  simp -implicitDefEqProofs (disch := omega) only [lk_gen, lk_mp, up_eq, de_eq, mset_nil, hbpp, hb0pp, prs_allC, aApp_nil, aApp_none, aApp_some, aApp_grw, simprocAttr, amset, tyset, Function.comp_apply, one1, lenV, calleeOf, lateOk, belowV, aop, AV.ofValue, AV.ofCell, AV.cells, AV.flat, AV.one, arep, aBin, aConv]
  repeat refine And.intro (by omega) ?_
  refine cv (valid_a _ W Hh _ xs (.inr ⟨_, _, _, rfl, by first | exact hb0pp _ | exact hbpp⟩)) ?_
  simp -implicitDefEqProofs (disch := omega) only [lk_gen, lk_mp, up_eq, de_eq, mset_nil, hbpp, hb0pp, prs_allC, aApp_nil, aApp_none, aApp_some, aApp_grw, simprocAttr, amset, tyset, Function.comp_apply, one1, lenV, calleeOf, lateOk, belowV, aop, AV.ofValue, AV.ofCell, AV.cells, AV.flat, AV.one, arep, aBin, aConv]
  repeat refine And.intro (by omega) ?_
  refine cond_split (fun h1 => ?_) (fun h1 => ?_)
  · have h1d := bsT h1
    rw [hv] at h1d; cases h1d
  have h1d := bsT h1
  simp -implicitDefEqProofs (disch := omega) only [lk_gen, lk_mp, up_eq, de_eq, mset_nil, hbpp, hb0pp, h1, h1d, prs_allC, aApp_nil, aApp_none, aApp_some, aApp_grw, simprocAttr, amset, tyset, Function.comp_apply, one1, lenV, calleeOf, lateOk, belowV, aop, AV.ofValue, AV.ofCell, AV.cells, AV.flat, AV.one, arep, aBin, aConv]
  repeat refine And.intro (by omega) ?_
  refine cv (fcells_u _ W Hh _ xs A hA hV (⟨_, _, _, rfl, by first | exact hb0pp _ | exact hbpp⟩)) ?_
  simp -implicitDefEqProofs (disch := omega) only [lk_gen, lk_mp, up_eq, de_eq, mset_nil, hbpp, hb0pp, h1, h1d, prs_allC, aApp_nil, aApp_none, aApp_some, aApp_grw, simprocAttr, amset, tyset, Function.comp_apply, one1, lenV, calleeOf, lateOk, belowV, aop, AV.ofValue, AV.ofCell, AV.cells, AV.flat, AV.one, arep, aBin, aConv]
  repeat refine And.intro (by omega) ?_
  refine glp (fun k F Hx => ∃ i : Nat, i + k = A.length ∧ F = [(4, .mp (some (H.length))), (5, .sl (some (H.length + 1, 0)) A.length (capG A.length)), (22, .sl (some (H.length + 1, 0)) A.length (capG A.length)), (23, iV ((A.length : Nat) : Int)), (24, iV ((i : Nat) : Int))] ∧ Hx = H ++ [.map (mset (insN A i)), .cells (ownG A.length) 2 (prs A)]) (A.length) ?_ ?_
  · refine ⟨_, _, _, ⟨0, by omega, rfl, rfl⟩, bS hbel [1, 2] (absRf (jn @insN.eq_1 (jn @mv_mset @mset_nil)))⟩
  rintro k0 F Hx ⟨i, hm0, rfl, rfl⟩ J0 hJ0
  simp -implicitDefEqProofs (disch := omega) only [lk_gen, lk_mp, up_eq, de_eq, mset_nil, hbpp, hb0pp, h1, h1d, prs_len, prs_one, prs_allC, aApp_nil, aApp_none, aApp_some, aApp_grw, simprocAttr, amset, tyset, Function.comp_apply, one1, lenV, calleeOf, lateOk, belowV, aop, AV.ofValue, AV.ofCell, AV.cells, AV.flat, AV.one, arep, aBin, aConv]
  repeat refine And.intro (by omega) ?_
  refine cond_split (fun h2 => ?_) (fun h2 => ?_)
  · have h2d := bsT h2
    have hlt : i < A.length := by omega
    have q3 := prs_load (l := A) (j := i) (by omega)
    have qm51_l := fun l x y => lk_mblk (P := Try.prog) (t := 51) (kt := 36) (et := 4) (by kernel_rfl) tEq36 (by kernel_rfl) (by kernel_rfl) l x y
    have qm51_u := fun l x y => up_mblk (P := Try.prog) (t := 51) (kt := 36) (et := 4) (by kernel_rfl) tEq36 l x y
    have qm51_d := fun l x y => de_mblk (P := Try.prog) (t := 51) (kt := 36) (et := 4) (by kernel_rfl) tEq36 l x y
    simp -implicitDefEqProofs (disch := omega) only [lk_gen, lk_mp, up_eq, de_eq, mset_nil, hbpp, hb0pp, h1, h1d, prs_len, prs_one, h2, h2d, q3, qm51_l, qm51_u, qm51_d, prs_allC, aApp_nil, aApp_none, aApp_some, aApp_grw, simprocAttr, amset, tyset, Function.comp_apply, one1, lenV, calleeOf, lateOk, belowV, aop, AV.ofValue, AV.ofCell, AV.cells, AV.flat, AV.one, arep, aBin, aConv]
    repeat refine And.intro (by omega) ?_
    refine hJ0 _ _ ⟨k0 - 1, by omega, _, _, _, ⟨i + 1, by omega, rfl, rfl⟩, bS hbel [0, 1] (absRf (jn @insN.eq_2 (jn @mv_mset @mset_nil)))⟩
  have h2d := bsT h2
  obtain rfl : i = A.length := by omega
  simp -implicitDefEqProofs (disch := omega) only [lk_gen, lk_mp, up_eq, de_eq, mset_nil, hbpp, hb0pp, h1, h1d, prs_len, prs_one, h2, h2d, prs_allC, aApp_nil, aApp_none, aApp_some, aApp_grw, simprocAttr, amset, tyset, Function.comp_apply, one1, lenV, calleeOf, lateOk, belowV, aop, AV.ofValue, AV.ofCell, AV.cells, AV.flat, AV.one, arep, aBin, aConv]
  repeat refine And.intro (by omega) ?_
  have hmvs : ∀ m k sel, AV.mvs (sig m k sel) (slr n0 []) = slr n0 [] := fun _ _ _ => rfl
  refine glp (fun k F Hx => ∃ j : Nat, ∃ S : List (Int × Int), ∃ cs : List (List (Int × Int)), ∃ Hg1 : AHeap, ∃ XX1 : AHeap, j + k = A.length ∧ Hg1 = H ++ XX1 ∧ (∀ x ∈ XX1, ABlk.bel Hg1.length x = true) ∧ clN srtC A A j = (S, cs) ∧ n0 + cs.length = Hg1.length ∧ XX1 = cs.map cblk ∧ S.length ≤ 4096 ∧ (∀ p ∈ S, p ∈ A) ∧ cs.length ≤ j ∧ F = [(4, .mp (some (Hg1.length))), (8, .sl (some (Hg1.length + 2, 0)) cs.length (capG cs.length)), (31, .sl (some (Hg1.length + 1, 0)) A.length (capG A.length)), (32, iV ((A.length : Nat) : Int)), (33, iV ((j : Nat) : Int))] ∧ Hx = Hg1 ++ [.map (mset S), .cells (ownG A.length) 2 (prs A), .cells (ownG cs.length) 1 (slr n0 cs)]) (A.length) ?_ ?_
  · refine ⟨_, _, _, ⟨0, A, [], H, [], by omega, (List.append_nil _).symm, (fun x h => by cases h), rfl, hn0, rfl, hAl, fun _ h => h, Nat.le_refl _, rfl, rfl⟩, Abs.byG hbel [.cells false 1 []] rfl [0, 1, 2] (by decide) ?_⟩
    exact absRf (jn @hins (jn @slr_nil (jn @mv_mset @mset_nil)))
  rintro k1 F Hx ⟨j, S, cs, Hg1, XX1, hm1, hgX1, hXb_g1, hst, hgl, hXX, hSl, hSA, hcj, rfl, rfl⟩ J1 hJ1
  have hbel_g1 := hbel_grow hgX1 hbel hXb_g1
  have hbpp_g1 := grow1 hgX1 hb0pp
  have hblpp_g1 := getElem?_lt hbpp_g1
  have hb0pp_g1 := fun l => get_app (l := l) hbpp_g1
  have hpre_g1 : ∃ X, Hg1 = H ++ X := ⟨_, hgX1⟩
  have hle_g1 := pre_le hpre_g1
  have hmvs := fun k sel => mvs_slr (m := Hg1.length) (k := k) (sel := sel) (n := n0) (cs := cs) (by omega)
  simp -implicitDefEqProofs (disch := omega) only [lk_gen, lk_mp, up_eq, de_eq, mset_nil, hbpp_g1, hb0pp_g1, h1, h1d, prs_len, prs_one, h2, h2d, slr_len, slr_ones, prs_allC, aApp_nil, aApp_none, aApp_some, aApp_grw, simprocAttr, amset, tyset, Function.comp_apply, one1, lenV, calleeOf, lateOk, belowV, aop, AV.ofValue, AV.ofCell, AV.cells, AV.flat, AV.one, arep, aBin, aConv]
  repeat refine And.intro (by omega) ?_
  refine cond_split (fun h4 => ?_) (fun h4 => ?_)
  · have h4d := bsT h4
    have hlt : j < A.length := by omega
    have q5 := prs_load (l := A) (j := j) (by omega)
    have qm51_l := fun l x y => lk_mblk (P := Try.prog) (t := 51) (kt := 36) (et := 4) (by kernel_rfl) tEq36 (by kernel_rfl) (by kernel_rfl) l x y
    have qm51_u := fun l x y => up_mblk (P := Try.prog) (t := 51) (kt := 36) (et := 4) (by kernel_rfl) tEq36 l x y
    have qm51_d := fun l x y => de_mblk (P := Try.prog) (t := 51) (kt := 36) (et := 4) (by kernel_rfl) tEq36 l x y
    simp -implicitDefEqProofs (disch := omega) only [lk_gen, lk_mp, up_eq, de_eq, mset_nil, hbpp_g1, hb0pp_g1, h1, h1d, prs_len, prs_one, h2, h2d, slr_len, slr_ones, h4, h4d, q5, qm51_l, qm51_u, qm51_d, prs_allC, aApp_nil, aApp_none, aApp_some, aApp_grw, simprocAttr, amset, tyset, Function.comp_apply, one1, lenV, calleeOf, lateOk, belowV, aop, AV.ofValue, AV.ofCell, AV.cells, AV.flat, AV.one, arep, aBin, aConv]
    repeat refine And.intro (by omega) ?_
    refine cond_split (fun h6 => ?_) (fun h6 => ?_)
    · have h6d := bsT h6
      simp -implicitDefEqProofs (disch := omega) only [lk_gen, lk_mp, up_eq, de_eq, mset_nil, hbpp_g1, hb0pp_g1, h1, h1d, prs_len, prs_one, h2, h2d, slr_len, slr_ones, h4, h4d, q5, qm51_l, qm51_u, qm51_d, h6, h6d, prs_allC, aApp_nil, aApp_none, aApp_some, aApp_grw, simprocAttr, amset, tyset, Function.comp_apply, one1, lenV, calleeOf, lateOk, belowV, aop, AV.ofValue, AV.ofCell, AV.cells, AV.flat, AV.one, arep, aBin, aConv]
      repeat refine And.intro (by omega) ?_
      refine hJ1 _ _ ⟨k1 - 1, by omega, _, _, _, ⟨j + 1, S, cs, Hg1, XX1, by omega, by assumption, by assumption, by rw [clN, hst]; exact if_neg (by rw [h6d]; decide), by assumption, by assumption, by assumption, by assumption, by omega, rfl, rfl⟩, (Abs.byG hbel_g1 [] rfl [0, 1, 2] (by decide) ?_).le hle_g1⟩
      exact absRf (jn @hmvs (jn @slr_snoc (jn @hgl (jn @mv_mset (jn @mset_nil @slr_nil)))))
    have h6d := bsT h6
    have hmS := memP_iff.1 h6d
    have hel := List.length_erase_of_mem hmS
    have hpos := List.length_pos_of_mem hmS
    simp -implicitDefEqProofs (disch := omega) only [lk_gen, lk_mp, up_eq, de_eq, mset_nil, hbpp_g1, hb0pp_g1, h1, h1d, prs_len, prs_one, h2, h2d, slr_len, slr_ones, h4, h4d, q5, qm51_l, qm51_u, qm51_d, h6, h6d, prs_allC, aApp_nil, aApp_none, aApp_some, aApp_grw, simprocAttr, amset, tyset, Function.comp_apply, one1, lenV, calleeOf, lateOk, belowV, aop, AV.ofValue, AV.ofCell, AV.cells, AV.flat, AV.one, arep, aBin, aConv]
    repeat refine And.intro (by omega) ?_
    refine glp (fun k F Hx => ∃ n : Nat, ∃ T : List (Int × Int), ∃ cl : List (Int × Int), n + k = (S.erase (g1 A j, g2 A j)).length + 1 ∧ bfN n (S.erase (g1 A j, g2 A j), [(g1 A j, g2 A j)]) = (T, cl) ∧ T.length + cl.length = (S.erase (g1 A j, g2 A j)).length + 1 ∧ n ≤ cl.length ∧ (∀ p ∈ T, p ∈ A) ∧ (∀ p ∈ cl, p ∈ A) ∧ F = [(4, .mp (some (Hg1.length))), (8, .sl (some (Hg1.length + 2, 0)) cs.length (capG cs.length)), (11, .sl (some (Hg1.length + 3, 0)) cl.length none), (12, iV ((n : Nat) : Int)), (31, .sl (some (Hg1.length + 1, 0)) A.length (capG A.length)), (32, iV ((A.length : Nat) : Int)), (33, iV ((j : Nat) : Int))] ∧ Hx = Hg1 ++ [.map (mset T), .cells (ownG A.length) 2 (prs A), .cells (ownG cs.length) 1 (slr n0 cs), .cells true 2 (prs cl)]) ((S.erase (g1 A j, g2 A j)).length + 1) ?_ ?_
    · refine ⟨_, _, _, ⟨0, S.erase (g1 A j, g2 A j), [(g1 A j, g2 A j)], by omega, rfl, rfl, by omega, (fun p hp => hSA p (List.mem_of_mem_erase hp)), (fun p hp => hSA p ((List.mem_singleton.1 hp) ▸ hmS)), rfl, rfl⟩, (Abs.byG hbel_g1 [] rfl [0, 1, 2, 4] (by decide) ?_).le hle_g1⟩
      exact absRf (jn @hmvs (jn @mv_mset (jn @mset_nil @slr_nil)))
    rintro k2 F Hx ⟨n, T, cl, hm2, hbf, hln, hnl, hTA, hcA, rfl, rfl⟩ J2 hJ2
    simp -implicitDefEqProofs (disch := omega) only [lk_gen, lk_mp, up_eq, de_eq, mset_nil, hbpp_g1, hb0pp_g1, h1, h1d, prs_len, prs_one, h2, h2d, slr_len, slr_ones, h4, h4d, q5, qm51_l, qm51_u, qm51_d, h6, h6d, prs_allC, aApp_nil, aApp_none, aApp_some, aApp_grw, simprocAttr, amset, tyset, Function.comp_apply, one1, lenV, calleeOf, lateOk, belowV, aop, AV.ofValue, AV.ofCell, AV.cells, AV.flat, AV.one, arep, aBin, aConv]
    repeat refine And.intro (by omega) ?_
    refine cond_split (fun h7 => ?_) (fun h7 => ?_)
    · have h7d := bsT h7
      have hlt2 : n < cl.length := by omega
      simp -implicitDefEqProofs (disch := omega) only [lk_gen, lk_mp, up_eq, de_eq, mset_nil, hbpp_g1, hb0pp_g1, h1, h1d, prs_len, prs_one, h2, h2d, slr_len, slr_ones, h4, h4d, q5, qm51_l, qm51_u, qm51_d, h6, h6d, h7, h7d, prs_allC, aApp_nil, aApp_none, aApp_some, aApp_grw, simprocAttr, amset, tyset, Function.comp_apply, one1, lenV, calleeOf, lateOk, belowV, aop, AV.ofValue, AV.ofCell, AV.cells, AV.flat, AV.one, arep, aBin, aConv]
      repeat refine And.intro (by omega) ?_
      have hzz1 : ((0 : Nat) : Int) - 1 = -1 := rfl
      refine glp (fun k F Hx => ∃ a : Nat, ∃ T3 : List (Int × Int), ∃ cl3 : List (Int × Int), a + k = 3 ∧ dyF n a (T, cl) = (T3, cl3) ∧ T3.length + cl3.length = T.length + cl.length ∧ n < cl3.length ∧ (∀ p ∈ T3, p ∈ A) ∧ (∀ p ∈ cl3, p ∈ A) ∧ F = [(4, .mp (some (Hg1.length))), (8, .sl (some (Hg1.length + 2, 0)) cs.length (capG cs.length)), (11, .sl (some (Hg1.length + 3, 0)) cl3.length none), (12, iV ((n : Nat) : Int)), (13, iV (((a : Nat) : Int) - 1)), (31, .sl (some (Hg1.length + 1, 0)) A.length (capG A.length)), (32, iV ((A.length : Nat) : Int)), (33, iV ((j : Nat) : Int))] ∧ Hx = Hg1 ++ [.map (mset T3), .cells (ownG A.length) 2 (prs A), .cells (ownG cs.length) 1 (slr n0 cs), .cells true 2 (prs cl3)]) (3) ?_ ?_
      · refine ⟨_, _, _, ⟨0, T, cl, by omega, rfl, rfl, hlt2, hTA, hcA, rfl, rfl⟩, (Abs.byG hbel_g1 [] rfl [0, 1, 2, 3] (by decide) ?_).le hle_g1⟩
        exact absRf (jn @hmvs (jn @hzz1 (jn @mv_mset (jn @mset_nil @slr_nil))))
      rintro k3 F Hx ⟨a, T3, cl3, hm3, hdy, hln3, hnl3, hTA3, hcA3, rfl, rfl⟩ J3 hJ3
      have ha1 : ((a : Nat) : Int) - 1 + 1 = ((a + 1 : Nat) : Int) - 1 := by omega
      simp -implicitDefEqProofs (disch := omega) only [lk_gen, lk_mp, up_eq, de_eq, mset_nil, hbpp_g1, hb0pp_g1, h1, h1d, prs_len, prs_one, h2, h2d, slr_len, slr_ones, h4, h4d, q5, qm51_l, qm51_u, qm51_d, h6, h6d, h7, h7d, prs_allC, aApp_nil, aApp_none, aApp_some, aApp_grw, simprocAttr, amset, tyset, Function.comp_apply, one1, lenV, calleeOf, lateOk, belowV, aop, AV.ofValue, AV.ofCell, AV.cells, AV.flat, AV.one, arep, aBin, aConv]
      repeat refine And.intro (by omega) ?_
      refine cond_split (fun h8 => ?_) (fun h8 => ?_)
      · have h8d := bsT h8
        simp -implicitDefEqProofs (disch := omega) only [lk_gen, lk_mp, up_eq, de_eq, mset_nil, hbpp_g1, hb0pp_g1, h1, h1d, prs_len, prs_one, h2, h2d, slr_len, slr_ones, h4, h4d, q5, qm51_l, qm51_u, qm51_d, h6, h6d, h7, h7d, h8, h8d, prs_allC, aApp_nil, aApp_none, aApp_some, aApp_grw, simprocAttr, amset, tyset, Function.comp_apply, one1, lenV, calleeOf, lateOk, belowV, aop, AV.ofValue, AV.ofCell, AV.cells, AV.flat, AV.one, arep, aBin, aConv]
        repeat refine And.intro (by omega) ?_
        have hzz2 : ((0 : Nat) : Int) - 1 = -1 := rfl
        refine glp (fun k F Hx => ∃ b : Nat, ∃ T4 : List (Int × Int), ∃ cl4 : List (Int × Int), b + k = 3 ∧ dxF n (((a : Nat) : Int) - 1) b (T3, cl3) = (T4, cl4) ∧ T4.length + cl4.length = T3.length + cl3.length ∧ n < cl4.length ∧ (∀ p ∈ T4, p ∈ A) ∧ (∀ p ∈ cl4, p ∈ A) ∧ F = [(4, .mp (some (Hg1.length))), (8, .sl (some (Hg1.length + 2, 0)) cs.length (capG cs.length)), (11, .sl (some (Hg1.length + 3, 0)) cl4.length none), (12, iV ((n : Nat) : Int)), (13, iV (((a : Nat) : Int) - 1)), (14, iV (((b : Nat) : Int) - 1)), (31, .sl (some (Hg1.length + 1, 0)) A.length (capG A.length)), (32, iV ((A.length : Nat) : Int)), (33, iV ((j : Nat) : Int))] ∧ Hx = Hg1 ++ [.map (mset T4), .cells (ownG A.length) 2 (prs A), .cells (ownG cs.length) 1 (slr n0 cs), .cells true 2 (prs cl4)]) (3) ?_ ?_
        · refine ⟨_, _, _, ⟨0, T3, cl3, by omega, rfl, rfl, hnl3, hTA3, hcA3, rfl, rfl⟩, (Abs.byG hbel_g1 [] rfl [0, 1, 2, 3] (by decide) ?_).le hle_g1⟩
          exact absRf (jn @hmvs (jn @hzz2 (jn @mv_mset (jn @mset_nil @slr_nil))))
        rintro k4 F Hx ⟨b, T4, cl4, hm4, hdx, hln4, hnl4, hTA4, hcA4, rfl, rfl⟩ J4 hJ4
        have hb1 : ((b : Nat) : Int) - 1 + 1 = ((b + 1 : Nat) : Int) - 1 := by omega
        simp -implicitDefEqProofs (disch := omega) only [lk_gen, lk_mp, up_eq, de_eq, mset_nil, hbpp_g1, hb0pp_g1, h1, h1d, prs_len, prs_one, h2, h2d, slr_len, slr_ones, h4, h4d, q5, qm51_l, qm51_u, qm51_d, h6, h6d, h7, h7d, h8, h8d, prs_allC, aApp_nil, aApp_none, aApp_some, aApp_grw, simprocAttr, amset, tyset, Function.comp_apply, one1, lenV, calleeOf, lateOk, belowV, aop, AV.ofValue, AV.ofCell, AV.cells, AV.flat, AV.one, arep, aBin, aConv]
        repeat refine And.intro (by omega) ?_
        refine cond_split (fun h9 => ?_) (fun h9 => ?_)
        · have h9d := bsT h9
          have hbn := hAb _ (hcA4 _ (gp_in hnl4))
          simp only [gp] at hbn
          have q10 := prs_at0 (l := cl4) (j := n) (by omega)
          have q11 := prs_at1 (l := cl4) (j := n) (by omega)
          simp -implicitDefEqProofs (disch := omega) only [lk_gen, lk_mp, up_eq, de_eq, mset_nil, hbpp_g1, hb0pp_g1, h1, h1d, prs_len, prs_one, h2, h2d, slr_len, slr_ones, h4, h4d, q5, qm51_l, qm51_u, qm51_d, h6, h6d, h7, h7d, h8, h8d, h9, h9d, q10, q11, prs_allC, aApp_nil, aApp_none, aApp_some, aApp_grw, simprocAttr, amset, tyset, Function.comp_apply, one1, lenV, calleeOf, lateOk, belowV, aop, AV.ofValue, AV.ofCell, AV.cells, AV.flat, AV.one, arep, aBin, aConv]
          repeat refine And.intro (by omega) ?_
          refine cond_split (fun h12 => ?_) (fun h12 => ?_)
          · have h12d := bsT h12
            have hsfx : dxF n (((a : Nat) : Int) - 1) (b + 1) (T3, cl3) = (T4.erase (((g1 cl4 n) + (((b : Nat) : Int) - 1)), ((g2 cl4 n) + (((a : Nat) : Int) - 1))), cl4 ++ [(((g1 cl4 n) + (((b : Nat) : Int) - 1)), ((g2 cl4 n) + (((a : Nat) : Int) - 1)))]) := by
              show stF n (dxF n _ b (T3, cl3)) _ _ = _
              rw [hdx]; exact if_pos h12d
            simp -implicitDefEqProofs (disch := omega) only [lk_gen, lk_mp, up_eq, de_eq, mset_nil, hbpp_g1, hb0pp_g1, h1, h1d, prs_len, prs_one, h2, h2d, slr_len, slr_ones, h4, h4d, q5, qm51_l, qm51_u, qm51_d, h6, h6d, h7, h7d, h8, h8d, h9, h9d, q10, q11, h12, h12d, hsfx, capG_s, prs_allC, aApp_nil, aApp_none, aApp_some, aApp_grw, simprocAttr, amset, tyset, Function.comp_apply, one1, lenV, calleeOf, lateOk, belowV, aop, AV.ofValue, AV.ofCell, AV.cells, AV.flat, AV.one, arep, aBin, aConv]
            repeat refine And.intro (by omega) ?_
            refine hJ4 _ _ ⟨k4 - 1, by omega, _, _, _, ⟨b + 1, T4.erase ((g1 cl4 n) + (((b : Nat) : Int) - 1), (g2 cl4 n) + (((a : Nat) : Int) - 1)), cl4 ++ [((g1 cl4 n) + (((b : Nat) : Int) - 1), (g2 cl4 n) + (((a : Nat) : Int) - 1))], by omega, hsfx, (by have := List.length_erase_of_mem (memP_iff.1 h12d); have := List.length_pos_of_mem (memP_iff.1 h12d); rw [List.length_append, List.length_singleton]; omega), (by rw [List.length_append]; omega), (fun p hp => hTA4 p (List.mem_of_mem_erase hp)), (fun p hp => (List.mem_append.1 hp).elim (hcA4 p) fun q => (List.mem_singleton.1 q) ▸ hTA4 _ (memP_iff.1 h12d)), rfl, rfl⟩, (Abs.byG hbel_g1 [] rfl [0, 1, 2, 6] (by decide) ?_).le hle_g1⟩
            exact absRf (jn @hmvs (jn @hb1 (jn @mv_mset (jn @mset_nil @slr_nil))))
          have h12d := bsT h12
          have hsfx : dxF n (((a : Nat) : Int) - 1) (b + 1) (T3, cl3) = (T4, cl4) := by
            show stF n (dxF n _ b (T3, cl3)) _ _ = _
            rw [hdx]; exact if_neg (by rw [h12d]; decide)
          simp -implicitDefEqProofs (disch := omega) only [lk_gen, lk_mp, up_eq, de_eq, mset_nil, hbpp_g1, hb0pp_g1, h1, h1d, prs_len, prs_one, h2, h2d, slr_len, slr_ones, h4, h4d, q5, qm51_l, qm51_u, qm51_d, h6, h6d, h7, h7d, h8, h8d, h9, h9d, q10, q11, h12, h12d, hsfx, prs_allC, aApp_nil, aApp_none, aApp_some, aApp_grw, simprocAttr, amset, tyset, Function.comp_apply, one1, lenV, calleeOf, lateOk, belowV, aop, AV.ofValue, AV.ofCell, AV.cells, AV.flat, AV.one, arep, aBin, aConv]
          repeat refine And.intro (by omega) ?_
          refine hJ4 _ _ ⟨k4 - 1, by omega, _, _, _, ⟨b + 1, T4, cl4, by omega, hsfx, by omega, by omega, hTA4, hcA4, rfl, rfl⟩, (Abs.byG hbel_g1 [] rfl [0, 1, 2, 3] (by decide) ?_).le hle_g1⟩
          exact absRf (jn @hmvs (jn @hb1 (jn @mv_mset (jn @mset_nil @slr_nil))))
        have h9d := bsT h9
        obtain rfl : b = 3 := by omega
        simp -implicitDefEqProofs (disch := omega) only [lk_gen, lk_mp, up_eq, de_eq, mset_nil, hbpp_g1, hb0pp_g1, h1, h1d, prs_len, prs_one, h2, h2d, slr_len, slr_ones, h4, h4d, q5, qm51_l, qm51_u, qm51_d, h6, h6d, h7, h7d, h8, h8d, h9, h9d, prs_allC, aApp_nil, aApp_none, aApp_some, aApp_grw, simprocAttr, amset, tyset, Function.comp_apply, one1, lenV, calleeOf, lateOk, belowV, aop, AV.ofValue, AV.ofCell, AV.cells, AV.flat, AV.one, arep, aBin, aConv]
        repeat refine And.intro (by omega) ?_
        refine hJ3 _ _ ⟨k3 - 1, by omega, _, _, _, ⟨a + 1, T4, cl4, by omega, by
          show dxF n (((a : Nat) : Int) - 1) 3 (dyF n a (T, cl)) = _
          rw [hdy]; exact hdx, by omega, hnl4, hTA4, hcA4, rfl, rfl⟩, (Abs.byG hbel_g1 [] rfl [0, 1, 2, 3] (by decide) ?_).le hle_g1⟩
        exact absRf (jn @hmvs (jn @ha1 (jn @mv_mset (jn @mset_nil @slr_nil))))
      have h8d := bsT h8
      obtain rfl : a = 3 := by omega
      simp -implicitDefEqProofs (disch := omega) only [lk_gen, lk_mp, up_eq, de_eq, mset_nil, hbpp_g1, hb0pp_g1, h1, h1d, prs_len, prs_one, h2, h2d, slr_len, slr_ones, h4, h4d, q5, qm51_l, qm51_u, qm51_d, h6, h6d, h7, h7d, h8, h8d, prs_allC, aApp_nil, aApp_none, aApp_some, aApp_grw, simprocAttr, amset, tyset, Function.comp_apply, one1, lenV, calleeOf, lateOk, belowV, aop, AV.ofValue, AV.ofCell, AV.cells, AV.flat, AV.one, arep, aBin, aConv]
      repeat refine And.intro (by omega) ?_
      refine hJ2 _ _ ⟨k2 - 1, by omega, _, _, _, ⟨n + 1, T3, cl3, by omega, by
        rw [bfN, hbf, if_pos hlt2]
        show dyF n 3 (T, cl) = _
        exact hdy, by omega, by omega, hTA3, hcA3, rfl, rfl⟩, (Abs.byG hbel_g1 [] rfl [0, 1, 2, 3] (by decide) ?_).le hle_g1⟩
      exact absRf (jn @hmvs (jn @mv_mset (jn @mset_nil @slr_nil)))
    have h7d := bsT h7
    have hne2 : cl.length ≤ n := by omega
    have hbr : bfR (S.erase (g1 A j, g2 A j), [(g1 A j, g2 A j)]) = (T, cl) := by
      rw [bfR_stop (i := n) (by rw [hbf]; exact hne2) (by simp only [List.length_singleton]; omega), hbf]
    have hclp : 0 < cl.length := by have := (bfR_ext (S.erase (g1 A j, g2 A j), [(g1 A j, g2 A j)])).le; rw [hbr] at this; exact this
    have hcll : cl.length ≤ 4097 := by omega
    have hsl := srtC_len cl
    simp -implicitDefEqProofs (disch := omega) only [lk_gen, lk_mp, up_eq, de_eq, mset_nil, hbpp_g1, hb0pp_g1, h1, h1d, prs_len, prs_one, h2, h2d, slr_len, slr_ones, h4, h4d, q5, qm51_l, qm51_u, qm51_d, h6, h6d, h7, h7d, prs_allC, aApp_nil, aApp_none, aApp_some, aApp_grw, simprocAttr, amset, tyset, Function.comp_apply, one1, lenV, calleeOf, lateOk, belowV, aop, AV.ofValue, AV.ofCell, AV.cells, AV.flat, AV.one, arep, aBin, aConv]
    repeat refine And.intro (by omega) ?_
    refine cv (sortc_c _ _ _ cl (by first | rfl | (rw [get_newk]; rfl) | (rw [get_new0]; rfl)) (by omega) (by omega)) ?_
    simp -implicitDefEqProofs (disch := omega) only [lk_gen, lk_mp, up_eq, de_eq, mset_nil, hbpp_g1, hb0pp_g1, h1, h1d, prs_len, prs_one, h2, h2d, slr_len, slr_ones, h4, h4d, q5, qm51_l, qm51_u, qm51_d, h6, h6d, h7, h7d, capG_s, prs_allC, aApp_nil, aApp_none, aApp_some, aApp_grw, simprocAttr, amset, tyset, Function.comp_apply, one1, lenV, calleeOf, lateOk, belowV, aop, AV.ofValue, AV.ofCell, AV.cells, AV.flat, AV.one, arep, aBin, aConv]
    repeat refine And.intro (by omega) ?_
    refine hJ1 _ _ ⟨k1 - 1, by omega, _, _, _, ⟨j + 1, T, cs ++ [srtC cl], (Hg1 ++ [.cells true 2 (prs (srtC cl))]), (XX1 ++ [.cells true 2 (prs (srtC cl))]), by omega, (by rw [hgX1, List.append_assoc]), grow_bel hXb_g1 (by simp only [ABlk.bel, bels_prs, bels_ints]), by
      rw [clN, hst]
      show (if memP S (g1 A j) (g2 A j) = true then _ else _) = _
      rw [if_pos (memP_iff.2 hmS), hbr], (by rw [List.length_append, List.length_singleton, List.length_append, List.length_singleton]; omega), (by rw [List.map_append, ← hXX]; rfl), by omega, (fun p hp => hTA p hp), (by rw [List.length_append, List.length_singleton]; omega), rfl, rfl⟩, Abs.byX hle_g1 hbel_g1 [] rfl [3, 0, 1, 5] (by decide) ?_⟩
    exact absRf (jn @hmvs (jn @slr_snoc (jn @hgl (jn @srtC_len (jn @grow_len (jn @Nat.add_assoc (jn @mv_mset (jn @mset_nil @slr_nil))))))))
  have h4d := bsT h4
  obtain rfl : j = A.length := by omega
  have hcs : cluL A = cs := by unfold cluL; rw [hst]
  simp -implicitDefEqProofs (disch := omega) only [lk_gen, lk_mp, up_eq, de_eq, mset_nil, hbpp_g1, hb0pp_g1, h1, h1d, prs_len, prs_one, h2, h2d, slr_len, slr_ones, h4, h4d, prs_allC, aApp_nil, aApp_none, aApp_some, aApp_grw, simprocAttr, amset, tyset, Function.comp_apply, one1, lenV, calleeOf, lateOk, belowV, aop, AV.ofValue, AV.ofCell, AV.cells, AV.flat, AV.one, arep, aBin, aConv]
  repeat refine And.intro (by omega) ?_
  refine hQ _ _ ((end_byG (.inl rfl) hbel_g1 (x1 := .tup [.sl (some (Hg1.length + 2, 0)) cs.length (capG cs.length), iV 0]) (l2 := [.cells (ownG cs.length) 1 (slr n0 cs)]) (.tup [.sl (some (Hg1.length, 0)) cs.length (capG cs.length), iV 0]) (resT Try.results10) [] rfl [2] (by decide) ⟨XX1, (by rw [← hgX1]; exact hXb_g1), (by rw [hcs]; exact hXX), (by rw [hcs, ← hgX1]), (by rw [hcs, ← hgX1])⟩ ?_).le hle_g1)
  exact absWf @hmvs
theorem awake_a (H : AHeap) : ACalls Try.prog 7 [] H (fun v H' => v = .bool true ∧ H' = H) :=
  ACalls.closed (ran try_mixed ext_ok tb tb_ok 3000 60 (x := .bool true) (o := none) (by kernel_rfl)) rfl rfl H
theorem few38_c (H : AHeap) (W Hh : Int) (pp : AV) (xs : List Int) (hpp : Sl H 1 pp xs.length (ints .u8 xs)) : ACalls Try.prog 8 [.agg [iV W, iV Hh, pp]] H (fun v H' => v = .bool (decide (((xs.length : Nat) : Int) ≤ 200)) ∧ H' = H) := by
  obtain ⟨bpp, opp, cpp, rfl, hbpp⟩ := hpp
  have hblpp := getElem?_lt hbpp
  have hb0pp := fun l => get_app (l := l) hbpp
  refine AcT true Try.func8 ?_; intro hbel Q hQ
  have g'7 := (jn @hbpp @hb0pp)
  exact eR g'7 hQ hbel (.bool (decide (((xs.length : Nat) : Int) ≤ 200))) Try.results8 ⟨rfl, rfl⟩
theorem clus_k (H : AHeap) (A : List (Int × Int)) (n0 : Nat) (W Hh : Int) (s : AV) (xs : List Int) (cs : List (List (Int × Int))) (hs : Sl H 1 s xs.length (ints .u8 xs)) (hv : vldB W Hh xs = true) (hA : froL W Hh xs = A) (hn0 : n0 = H.length) (hC : cluL A = cs) :
    ACalls Try.prog 10 [.agg [iV W, iV Hh, s]] H (fun v H' => ∃ X : AHeap, (∀ x ∈ X, ABlk.bel (H ++ X).length x = true) ∧ X = cs.map cblk ∧ v = .tup [.sl (some ((H ++ X).length, 0)) cs.length (capG cs.length), iV 0] ∧ H' = H ++ X ++ [.cells (ownG cs.length) 1 (slr n0 cs)]) := by
  subst hC; exact clus_y H A n0 W Hh s xs hs hv hA hn0
def cstN (W H : Int) (xs : List Int) (cx cy dx dy : Int) : Int := if 0 ≤ stI W H xs cx cy dx dy then stI W H xs cx cy dx dy else 0
def cstB (W H : Int) (xs : List Int) (cx cy dx dy : Int) : Bool := decide (0 ≤ stI W H xs cx cy dx dy)
theorem cst_y {W H : Int} {xs : List Int} {cx cy dx dy v : Int} (h : stI W H xs cx cy dx dy = v) (hv : 0 ≤ v) : cstN W H xs cx cy dx dy = v ∧ cstB W H xs cx cy dx dy = true := by
  unfold cstN cstB; rw [h]; exact ⟨if_pos hv, decide_eq_true hv⟩
theorem cst_n {W H : Int} {xs : List Int} {cx cy dx dy : Int} (h : stI W H xs cx cy dx dy = -1) : cstN W H xs cx cy dx dy = 0 ∧ cstB W H xs cx cy dx dy = false := by
  unfold cstN cstB; rw [h]; exact ⟨if_neg (by omega), decide_eq_false (by omega)⟩
theorem isB_n {W H : Int} {xs : List Int} {x y v : Int} (h : ¬ (0 ≤ x ∧ x < W ∧ 0 ≤ y ∧ y < H)) : isB W H xs x y v = false := by
  unfold isB; rw [inB_false.2 h]; rfl
theorem isB_y {W H : Int} {xs : List Int} {x y v : Int} (h : 0 ≤ x ∧ x < W ∧ 0 ≤ y ∧ y < H) : isB W H xs x y v = (gi xs ((y * W) + x).toNat == v) := by
  unfold isB; rw [inB_iff.2 h]; rfl
theorem pfree_c (H : AHeap) (W Hh : Int) (pp : AV) (xs : List Int) (x y : Int) (hpp : Sl H 1 pp xs.length (ints .u8 xs)) (hV : Vld W Hh xs) : ACalls Try.prog 36 [.agg [iV W, iV Hh, pp], .agg [iV x, iV y]] H (fun v H' => v = .bool (isB W Hh xs x y 1) ∧ H' = H) := by
  obtain ⟨bpp, opp, cpp, rfl, hbpp⟩ := hpp
  have hblpp := getElem?_lt hbpp
  have hb0pp := fun l => get_app (l := l) hbpp
  refine AcT true Try.func36 ?_; intro hbel Q hQ
  have g'1 := (jn @hbpp @hb0pp)
  refine rgs g'1 (fun h1 h1d g'2 => ?_) (fun h1 h1d g'9 => ?_)
  · refine rgs g'2 (fun h2 h2d g'3 => ?_) (fun h2 h2d g'8 => ?_)
    · refine rgs g'3 (fun h3 h3d g'4 => ?_) (fun h3 h3d g'7 => ?_)
      · refine rgs g'4 (fun h4 h4d _ => ?_) (fun h4 h4d g'6 => ?_)
        · have hin : 0 ≤ x ∧ x < W ∧ 0 ≤ y ∧ y < Hh := by omega
          have hib := hV.idx (inB_iff.2 hin)
          have hfin := isB_y (xs := xs) (v := 1) hin
          have q5 := ints_get (k := .u8) (xs := xs) (j := ((y * W) + x).toNat) (by omega)
          have g'5 := (jn h4 (jn h4d (jn q5 g'4)))
          exact eR g'5 hQ hbel (.bool ((gi xs (((y * W) + x).toNat)) == 1)) Try.results36 ⟨by first | (rw [hfin]; done) | (rw [hfin]; rfl) | (rw [hfin, h1, h2, h3, h4, hfin]; rfl), rfl⟩
        have hfin : isB W Hh xs x y 1 = false := isB_n (by omega)
        exact eR g'6 hQ hbel (.bool false) Try.results36 ⟨by first | (rw [hfin]; done) | (rw [hfin]; rfl) | (rw [hfin, h1, h2, h3, h4, hfin]; rfl), rfl⟩
      have hfin : isB W Hh xs x y 1 = false := isB_n (by omega)
      exact eR g'7 hQ hbel (.bool false) Try.results36 ⟨by first | (rw [hfin]; done) | (rw [hfin]; rfl) | (rw [hfin, h1, h2, h3, hfin]; rfl), rfl⟩
    have hfin : isB W Hh xs x y 1 = false := isB_n (by omega)
    exact eR g'8 hQ hbel (.bool false) Try.results36 ⟨by first | (rw [hfin]; done) | (rw [hfin]; rfl) | (rw [hfin, h1, h2, hfin]; rfl), rfl⟩
  have hfin : isB W Hh xs x y 1 = false := isB_n (by omega)
  exact eR g'9 hQ hbel (.bool false) Try.results36 ⟨by first | (rw [hfin]; done) | (rw [hfin]; rfl) | (rw [hfin, h1, hfin]; rfl), rfl⟩
theorem turns_c (H : AHeap) : ACalls Try.prog 38 [] H (fun v H' => v = .agg [iV (1), iV (0), iV (1), iV (1), iV (0), iV (1), iV (-1), iV (1), iV (-1), iV (0), iV (-1), iV (-1), iV (0), iV (-1), iV (1), iV (-1)] ∧ H' = H) :=
  ACalls.closed (ran try_mixed ext_ok tb tb_ok 3000 60 (x := .agg [iV (1), iV (0), iV (1), iV (1), iV (0), iV (1), iV (-1), iV (1), iV (-1), iV (0), iV (-1), iV (-1), iV (0), iV (-1), iV (1), iV (-1)]) (o := none) (by kernel_rfl)) rfl rfl H
theorem pcost_c (H : AHeap) (W Hh : Int) (pp : AV) (xs : List Int) (cx cy : Int) (dx dy : Int) (hpp : Sl H 1 pp xs.length (ints .u8 xs)) (hV : Vld W Hh xs) (hcx : -100000 ≤ cx ∧ cx ≤ 100000) (hcy : -100000 ≤ cy ∧ cy ≤ 100000) (hdx : -100000 ≤ dx ∧ dx ≤ 100000) (hdy : -100000 ≤ dy ∧ dy ≤ 100000) : ACalls Try.prog 39 [.agg [iV W, iV Hh, pp], .agg [iV cx, iV cy], .agg [iV dx, iV dy]] H (fun v H' => v = .tup [.agg [iV (cx + dx), iV (cy + dy)], iV (cstN W Hh xs cx cy dx dy), .bool (cstB W Hh xs cx cy dx dy)] ∧ H' = H) := by
  obtain ⟨bpp, opp, cpp, rfl, hbpp⟩ := hpp
  have hblpp := getElem?_lt hbpp
  have hb0pp := fun l => get_app (l := l) hbpp
  refine AcT true Try.func39 ?_; intro hbel Q hQ
  have g'10 := (jn @hbpp @hb0pp)
  refine runTf g'10 ?_
  refine cv (pfree_c _ W _ _ xs _ _ (⟨_, _, _, rfl, by first | exact hb0pp _ | exact hbpp⟩) hV) ?_
  refine rgs g'10 (fun h1 h1d g'11 => ?_) (fun h1 h1d g'22 => ?_)
  · have hk1 := h1d
    refine runTf g'11 ?_
    refine cv (pfree_c _ W _ _ xs _ _ (⟨_, _, _, rfl, by first | exact hb0pp _ | exact hbpp⟩) hV) ?_
    refine rcs g'11 (fun h2 h2d g'12 => ?_) (fun h2 h2d g'13 => ?_)
    · have hst : stI W Hh xs cx cy dx dy = -1 := by unfold stI; rw [h2d, Bool.and_false]; rfl
      have hfc := cst_n hst
      exact eR g'12 hQ hbel (.tup [.agg [iV (cx + dx), iV (cy + dy)], iV 0, .bool false]) Try.results39 ⟨by rw [hfc.1, hfc.2], rfl⟩
    have hk2 : (isB W Hh xs cx cy 1 && isB W Hh xs (cx + dx) (cy + dy) 1) = true := by rw [hk1, h2d]; rfl
    refine rgs g'13 (fun h3 h3d _ => ?_) (fun h3 h3d _ => ?_)
    · have h3n := bnT h3
      have hd1 : ¬ dx = 0 := h3d
      have g'14 := (jn h3 (jn h3n (jn @int_bne (jn @int_beq g'13))))
      refine rcs g'14 (fun h4 h4d _ => ?_) (fun h4 h4d _ => ?_)
      · have h4n := bnT h4
        have hst : stI W Hh xs cx cy dx dy = 70 := by unfold stI; rw [if_pos hk2, if_pos (.inr h4d)]
        have hfc := cst_y hst (by decide)
        have g'15 := j2 h4 h4n g'14
        exact eR g'15 hQ hbel (.tup [.agg [iV (cx + dx), iV (cy + dy)], iV 70, .bool true]) Try.results39 ⟨by rw [hfc.1, hfc.2], rfl⟩
      have h4n := bnT h4
      have hd2 : ¬ (dx = 0 ∨ dy = 0) := fun q => q.elim hd1 h4d
      have g'16 := j2 h4 h4n g'14
      refine runTf g'16 ?_
      refine cv (pfree_c _ W _ _ xs _ _ (⟨_, _, _, rfl, by first | exact hb0pp _ | exact hbpp⟩) hV) ?_
      refine rgs g'16 (fun h5 h5d g'17 => ?_) (fun h5 h5d g'20 => ?_)
      · have hk3 := h5d
        refine runTf g'17 ?_
        refine cv (pfree_c _ W _ _ xs _ _ (⟨_, _, _, rfl, by first | exact hb0pp _ | exact hbpp⟩) hV) ?_
        refine rcs g'17 (fun h6 h6d g'18 => ?_) (fun h6 h6d g'19 => ?_)
        · have hst : stI W Hh xs cx cy dx dy = 99 := by unfold stI; rw [if_pos hk2, if_neg hd2, hk3, h6d]; rfl
          have hfc := cst_y hst (by decide)
          exact eR g'18 hQ hbel (.tup [.agg [iV (cx + dx), iV (cy + dy)], iV 99, .bool true]) Try.results39 ⟨by rw [hfc.1, hfc.2], rfl⟩
        have hst : stI W Hh xs cx cy dx dy = -1 := by unfold stI; rw [if_pos hk2, if_neg hd2, h6d, Bool.and_false]; rfl
        have hfc := cst_n hst
        exact eR g'19 hQ hbel (.tup [.agg [iV (cx + dx), iV (cy + dy)], iV 0, .bool false]) Try.results39 ⟨by rw [hfc.1, hfc.2], rfl⟩
      have hst : stI W Hh xs cx cy dx dy = -1 := by unfold stI; rw [if_pos hk2, if_neg hd2, h5d]; rfl
      have hfc := cst_n hst
      exact eR g'20 hQ hbel (.tup [.agg [iV (cx + dx), iV (cy + dy)], iV 0, .bool false]) Try.results39 ⟨by rw [hfc.1, hfc.2], rfl⟩
    have h3n := bnT h3
    have hst : stI W Hh xs cx cy dx dy = 70 := by unfold stI; rw [if_pos hk2, if_pos (.inl h3d)]
    have hfc := cst_y hst (by decide)
    have g'21 := (jn h3 (jn h3n (jn @int_bne (jn @int_beq g'13))))
    exact eR g'21 hQ hbel (.tup [.agg [iV (cx + dx), iV (cy + dy)], iV 70, .bool true]) Try.results39 ⟨by rw [hfc.1, hfc.2], rfl⟩
  have hst : stI W Hh xs cx cy dx dy = -1 := by unfold stI; rw [h1d]; rfl
  have hfc := cst_n hst
  exact eR g'22 hQ hbel (.tup [.agg [iV (cx + dx), iV (cy + dy)], iV 0, .bool false]) Try.results39 ⟨by rw [hfc.1, hfc.2], rfl⟩
theorem push_c (H : AHeap) (R : List T3) (n : Nat) (ba bz : Nat) (x y c : Int) (ha : H[ba]? = some (.cells true 3 (r3 R))) (hz : H[bz]? = some (.cells true 0 [.sl (some (ba, 0)) (n) none])) (hnR : n ≤ R.length) (hRl : R.length ≤ 1000000) : ACalls Try.prog 53 [.ptr (some (bz, 0)), .agg [iV x, iV y, iV c]] H (fun v H' => v = .tup [] ∧ H' = ((H.set ba .dead).set bz (.cells true 0 [.sl (some (H.length, 0)) (n + 1) none])) ++ [.cells true 3 (r3 (pushH (R.take n) (x, y, c)))]) := by
  have hba := ha
  have hbz := hz
  have hbla := getElem?_lt hba
  have hblz := getElem?_lt hbz
  have hb0a := fun l => get_app (l := l) hba
  have hb0z := fun l => get_app (l := l) hbz
  have hne : ba ≠ bz := fun e => by subst e; rw [ha] at hz; simp at hz
  have hne' : bz ≠ ba := fun e => hne e.symm
  have hsfn : ((n + 1 : Nat) : Int) - 1 = ((n : Nat) : Int) := by omega
  have htl : (R.take n).length = n := by rw [List.length_take]; omega
  refine AcN true Try.func53 ?_; intro hbel Q hQ
  have g'1 := (jn @r3_take (jn @r3_one (jn @r3_len (jn @List.length_take.{0} (jn @hba (jn @hb0a (jn @hbz (jn @hb0z (jn @hbla (jn @hblz (jn @put_put (jn @put_old (jn @get_put (jn @get_put0 (jn @get_pk (jn @get_p0 (jn @set_pk (jn @set_p0 (jn @List.length_set.{0} (jn @List.set_set.{0} (jn @r3_sets @r3_sets2)))))))))))))))))))))
  refine runTf g'1 ?_
  obtain ⟨K1, hK1⟩ : ∃ K, K = H.set ba (.dead) := ⟨_, rfl⟩
  rw [← hK1]
  have hKl1 := rb_len hK1
  try simp only [show ∀ k, H.length + k = K1.length + k from fun k => by rw [hKl1], show ∀ o : Nat, (some (H.length, o) : Option (Nat × Nat)) = some (K1.length, o) from fun o => by rw [hKl1]]
  have hbel_k1 := rb_bel hK1 hbel (by first | rfl | exact bels_r3 | (simp only [ABlk.bel, AV.bels, AV.bel, Bool.and_true, decide_eq_true_eq]; omega))
  have hba_k1 := rb_new hK1 hbla
  have hbla_k1 := getElem?_lt hba_k1
  have hb0a_k1 := fun l => get_app (l := l) hba_k1
  have hbz_k1 := rb_old hK1 (by assumption) hbz
  have hblz_k1 := getElem?_lt hbz_k1
  have hb0z_k1 := fun l => get_app (l := l) hbz_k1
  have hle_k1 : H.length ≤ K1.length := rb_le hK1 (Nat.le_refl _)
  refine glp (fun k F Hx => ∃ i : Nat, ∃ m : List T3, i = k ∧ m.length = n + 1 ∧ i ≤ n ∧ upH i i m = pushH (R.take n) (x, y, c) ∧ F = [(0, .ptr (some (bz, 0))), (4, .sl (some (K1.length, 0)) m.length none), (5, iV ((i : Nat) : Int))] ∧ Hx = K1 ++ [.cells true 3 (r3 m)]) (n) ?_ ?_
  · refine ⟨_, _, _, ⟨n, List.take n R ++ [(x, y, c)], by omega, (by rw [List.length_append, htl]; rfl), Nat.le_refl _, (by unfold pushH; rw [htl]), rfl, rfl⟩, (Abs.byG hbel_k1 [] rfl [2] (by decide) ?_).le hle_k1⟩
    exact absRf (jn @htl (jn @hsfn (jn @r3_append (jn @r3_cons (jn @r3_nil @mvs_r3)))))
  rintro k0 F Hx ⟨i, m, hm0, hml, hin, hup, rfl, rfl⟩ J0 hJ0
  have g'2 := (jn @r3_take (jn @r3_one (jn @r3_len (jn @List.length_take.{0} (jn @hba_k1 (jn @hb0a_k1 (jn @hbz_k1 (jn @hb0z_k1 (jn @hbla_k1 (jn @hblz_k1 (jn @put_put (jn @put_old (jn @get_put (jn @get_put0 (jn @get_pk (jn @get_p0 (jn @set_pk (jn @set_p0 (jn @List.length_set.{0} (jn @List.set_set.{0} (jn @r3_sets @r3_sets2)))))))))))))))))))))
  refine rgs g'2 (fun h1 h1d _ => ?_) (fun h1 h1d g'6 => ?_)
  · obtain ⟨q, rfl⟩ : ∃ q, i = q + 1 := ⟨i - 1, by omega⟩
    have hsfq : ((q + 1 : Nat) : Int) - 1 = ((q : Nat) : Int) := by omega
    have hsfd : Int.tdiv ((q : Nat) : Int) 2 = ((q / 2 : Nat) : Int) := by rw [Int.tdiv_eq_ediv_of_nonneg (by omega)]; omega
    have q2 := r3_at2 (l := m) (j := q / 2) (by omega)
    have q3 := r3_at2 (l := m) (j := q + 1) (by omega)
    have g'3 := (jn h1 (jn h1d (jn @hsfq (jn @hsfd (jn q2 (jn q3 g'2))))))
    refine rcs g'3 (fun h4 h4d _ => ?_) (fun h4 h4d g'5 => ?_)
    · have hltv : g33 m (q + 1) < g33 m (q / 2) := of_decide_eq_true (by assumption)
      have q5 := r3_load (l := m) (j := q / 2) (by omega)
      have q6 := r3_load (l := m) (j := q + 1) (by omega)
      have g'4 := (jn h4 (jn h4d (jn q5 (jn q6 (jn @r3_set g'3)))))
      refine runTf g'4 ?_
      refine hJ0 _ _ ⟨q / 2, by omega, _, _, _, ⟨q / 2, ((m.set (q + 1) (g31 m (q / 2), g32 m (q / 2), g33 m (q / 2))).set (q / 2) (g31 m (q + 1), g32 m (q + 1), g33 m (q + 1))), by omega, (by rw [List.length_set, List.length_set]; exact hml), by omega, (by rw [← hup]; exact (upH_y hltv).symm), rfl, rfl⟩, (Abs.byG hbel_k1 [] rfl [0] (by decide) ?_).le hle_k1⟩
      exact absRf (jn @List.length_set.{0} (jn @r3_append (jn @r3_cons (jn @r3_nil @mvs_r3))))
    have hfinP : m = pushH (R.take n) (x, y, c) := by rw [← hup]; exact (upH_n (of_decide_eq_false (by assumption))).symm
    refine runTf g'5 ?_
    refine hQ _ _ ((end_put (b1 := .cells true 0 [.sl (some (K1.length, 0)) m.length none]) (.cells true 0 [.sl (some (K1.length, 0)) m.length none]) (l1 := [.cells true 3 (r3 m)]) (l2 := [.cells true 3 (r3 m)]) (by first | exact .inl rfl | exact .inr rfl) hbel_k1 hblz_k1 (by first | rfl | simp) (x1 := .tup []) (.tup []) (resT Try.results53) [] rfl [0] (by decide) ⟨rfl, by rw [hK1, List.length_set, hfinP, pushH_len, htl]⟩ ?_).le hle_k1)
    exact absWf @mvs_r3
  have hi0 : i = 0 := by omega
  have hfinP : m = pushH (R.take n) (x, y, c) := by rw [← hup, hi0]; rfl
  refine runTf g'6 ?_
  refine hQ _ _ ((end_put (b1 := .cells true 0 [.sl (some (K1.length, 0)) m.length none]) (.cells true 0 [.sl (some (K1.length, 0)) m.length none]) (l1 := [.cells true 3 (r3 m)]) (l2 := [.cells true 3 (r3 m)]) (by first | exact .inl rfl | exact .inr rfl) hbel_k1 hblz_k1 (by first | rfl | simp) (x1 := .tup []) (.tup []) (resT Try.results53) [] rfl [0] (by decide) ⟨rfl, by rw [hK1, List.length_set, hfinP, pushH_len, htl]⟩ ?_).le hle_k1)
  exact absWf @mvs_r3
theorem pop_c (H : AHeap) (R : List T3) (n : Nat) (ba bz : Nat) (ha : H[ba]? = some (.cells true 3 (r3 R))) (hz : H[bz]? = some (.cells true 0 [.sl (some (ba, 0)) (n + 1) none])) (hnR : n + 1 ≤ R.length) (hRl : R.length ≤ 1000000) : ACalls Try.prog 52 [.ptr (some (bz, 0))] H (fun v H' => v = .agg [iV (g31 R 0), iV (g32 R 0), iV (g33 R 0)] ∧ H' = (H.set ba (.cells true 3 (r3 (popR (n + 1) R)))).set bz (.cells true 0 [.sl (some (ba, 0)) n none])) := by
  have hba := ha
  have hbz := hz
  have hbla := getElem?_lt hba
  have hblz := getElem?_lt hbz
  have hb0a := fun l => get_app (l := l) hba
  have hb0z := fun l => get_app (l := l) hbz
  have hne : ba ≠ bz := fun e => by subst e; rw [ha] at hz; simp at hz
  have hne' : bz ≠ ba := fun e => hne e.symm
  have hsfn : ((n + 1 : Nat) : Int) - 1 = ((n : Nat) : Int) := by omega
  refine AcT true Try.func52 ?_; intro hbel Q hQ
  have q1 := r3_load0 (l := R) (by omega)
  have q2 := r3_load (l := R) (j := n) (by omega)
  have g'7 := (jn @r3_len (jn q1 (jn q2 (jn @r3_set (jn @r3_set0 (jn @List.length_set.{0} (jn @r3_one (jn @hba (jn @hb0a (jn @hbz (jn @hb0z (jn @hbla (jn @hblz (jn @put_put (jn @put_old (jn @get_put (jn @get_put0 (jn @get_pk (jn @get_p0 (jn @set_pk (jn @set_p0 (jn @List.set_set.{0} (jn @r3_sets (jn @r3_sets2 @hsfn))))))))))))))))))))))))
  refine runTf g'7 ?_
  obtain ⟨K1, hK1⟩ : ∃ K, K = H.set ba (.cells true 3 (r3 (R.set 0 (g31 R n, g32 R n, g33 R n)))) := ⟨_, rfl⟩
  rw [← hK1]
  have hKl1 := rb_len hK1
  try simp only [show ∀ k, H.length + k = K1.length + k from fun k => by rw [hKl1], show ∀ o : Nat, (some (H.length, o) : Option (Nat × Nat)) = some (K1.length, o) from fun o => by rw [hKl1]]
  have hbel_k1 := rb_bel hK1 hbel (by first | rfl | exact bels_r3 | (simp only [ABlk.bel, AV.bels, AV.bel, Bool.and_true, decide_eq_true_eq]; omega))
  have hba_k1 := rb_new hK1 hbla
  have hbla_k1 := getElem?_lt hba_k1
  have hb0a_k1 := fun l => get_app (l := l) hba_k1
  have hbz_k1 := rb_old hK1 (by assumption) hbz
  have hblz_k1 := getElem?_lt hbz_k1
  have hb0z_k1 := fun l => get_app (l := l) hbz_k1
  have hle_k1 : H.length ≤ K1.length := rb_le hK1 (Nat.le_refl _)
  refine glp (fun k F Hx => ∃ i : Nat, ∃ m : List T3, ∃ HP0 : AHeap, i + k = n + 1 ∧ HP0 = K1.set ba (.cells true 3 (r3 m)) ∧ m.length = R.length ∧ i ≤ n ∧ dnH n n i m = popR (n + 1) R ∧ F = [(0, .ptr (some (bz, 0))), (2, .ptr (some (HP0.length, 0))), (3, .sl (some (ba, 0)) n none), (4, .ptr (some (HP0.length + 1, 0))), (5, iV ((i : Nat) : Int))] ∧ Hx = HP0 ++ [.cells true 0 [iV 0, iV 0, iV 0], .cells true 0 [iV (g31 R 0), iV (g32 R 0), iV (g33 R 0)]]) (n + 1) ?_ ?_
  · refine ⟨_, _, _, ⟨0, R.set 0 (g31 R n, g32 R n, g33 R n), K1, by omega, rb_self hba_k1, List.length_set, Nat.zero_le _, rfl, rfl, rfl⟩, (Abs.byG hbel_k1 [] rfl [0, 1] (by decide) ?_).le hle_k1⟩
    exact absW
  rintro k0 F Hx ⟨i, m, HP0, hm0, hP0, hml, hin, hdn, rfl, rfl⟩ J0 hJ0
  have hbel_p0 := rb_bel hP0 hbel_k1 (by first | rfl | exact bels_r3 | (simp only [ABlk.bel, AV.bels, AV.bel, Bool.and_true, decide_eq_true_eq]; omega))
  have hba_p0 := rb_new hP0 hbla_k1
  have hbla_p0 := getElem?_lt hba_p0
  have hb0a_p0 := fun l => get_app (l := l) hba_p0
  have hbz_p0 := rb_old hP0 (by assumption) hbz_k1
  have hblz_p0 := getElem?_lt hbz_p0
  have hb0z_p0 := fun l => get_app (l := l) hbz_p0
  have hle_p0 : H.length ≤ HP0.length := rb_le hP0 hle_k1
  have hsf2 : 2 * ((i : Nat) : Int) = ((2 * i : Nat) : Int) := by omega
  have g'8 := (jn @r3_len (jn q1 (jn q2 (jn @r3_set (jn @r3_set0 (jn @List.length_set.{0} (jn @r3_one (jn @hsf2 (jn @hba_p0 (jn @hb0a_p0 (jn @hbz_p0 (jn @hb0z_p0 (jn @hbla_p0 (jn @hblz_p0 (jn @put_put (jn @put_old (jn @get_put (jn @get_put0 (jn @get_pk (jn @get_p0 (jn @set_pk (jn @set_p0 (jn @List.set_set.{0} (jn @r3_sets (jn @r3_sets2 @hsfn)))))))))))))))))))))))))
  refine runTf g'8 ?_
  refine glp (fun k F Hx => ∃ q : Nat, ∃ kk : Nat, q + k = 2 ∧ kk = minK m n i q ∧ ((kk = i ∨ i < kk ∧ kk < n)) ∧ F = [(0, .ptr (some (bz, 0))), (2, .ptr (some (HP0.length, 0))), (3, .sl (some (ba, 0)) n none), (4, .ptr (some (HP0.length + 1, 0))), (5, iV ((i : Nat) : Int)), (6, iV ((kk : Nat) : Int)), (35, .agg [iV ((2 * i + 1 : Nat) : Int), iV ((2 * i + 2 : Nat) : Int)]), (36, iV ((q : Nat) : Int))] ∧ Hx = HP0 ++ [.cells true 0 [iV 0, iV 0, iV 0], .cells true 0 [iV (g31 R 0), iV (g32 R 0), iV (g33 R 0)]]) (2) ?_ ?_
  · refine ⟨_, _, _, ⟨0, i, by omega, rfl, (.inl rfl), rfl, rfl⟩, (Abs.byG hbel_p0 [] rfl [0, 1] (by decide) ?_).le hle_p0⟩
    exact absW
  rintro k1 F Hx ⟨q, kk, hm1, hkk, hkb, rfl, rfl⟩ J1 hJ1
  refine rcs g'8 (fun h3 h3d _ => ?_) (fun h3 h3d g'19 => ?_)
  · obtain rfl | rfl := (by omega : q = 0 ∨ q = 1)
    · have g'9 := j2 h3 h3d g'8
      refine rgs g'9 (fun h4 h4d _ => ?_) (fun h4 h4d g'13 => ?_)
      · have hc0 : 2 * i + 1 + 0 < n := by omega
        have q5 := r3_at2 (l := m) (j := 2 * i + 1) (by omega)
        have q6 := r3_at2 (l := m) (j := kk) (by omega)
        have g'10 := (jn h4 (jn h4d (jn q5 (jn q6 g'9))))
        refine rcs g'10 (fun h7 h7d g'11 => ?_) (fun h7 h7d g'12 => ?_)
        · have hmk := minK_y hkk hc0 (of_decide_eq_true (by assumption))
          refine runTf g'11 ?_
          refine hJ1 _ _ ⟨k1 - 1, by omega, _, _, _, ⟨0 + 1, 2 * i + 1, by omega, hmk, (.inr (by omega)), rfl, rfl⟩, (Abs.byG hbel_p0 [] rfl [0, 1] (by decide) ?_).le hle_p0⟩
          exact absW
        have hno : ¬ (2 * i + 1 + 0 < n ∧ g33 m (2 * i + 1 + 0) < g33 m kk) := fun q => absurd q.2 (of_decide_eq_false (by assumption))
        refine runTf g'12 ?_
        refine hJ1 _ _ ⟨k1 - 1, by omega, _, _, _, ⟨0 + 1, kk, by omega, (minK_n hkk hno), hkb, rfl, rfl⟩, (Abs.byG hbel_p0 [] rfl [0, 1] (by decide) ?_).le hle_p0⟩
        exact absW
      have hno : ¬ (2 * i + 1 + 0 < n ∧ g33 m (2 * i + 1 + 0) < g33 m kk) := fun q => by omega
      refine runTf g'13 ?_
      refine hJ1 _ _ ⟨k1 - 1, by omega, _, _, _, ⟨0 + 1, kk, by omega, (minK_n hkk hno), hkb, rfl, rfl⟩, (Abs.byG hbel_p0 [] rfl [0, 1] (by decide) ?_).le hle_p0⟩
      exact absW
    have g'14 := j2 h3 h3d g'8
    refine rgs g'14 (fun h8 h8d _ => ?_) (fun h8 h8d g'18 => ?_)
    · have hc0 : 2 * i + 1 + 1 < n := by omega
      have q9 := r3_at2 (l := m) (j := 2 * i + 2) (by omega)
      have q10 := r3_at2 (l := m) (j := kk) (by omega)
      have g'15 := (jn h8 (jn h8d (jn q9 (jn q10 g'14))))
      refine rcs g'15 (fun h11 h11d g'16 => ?_) (fun h11 h11d g'17 => ?_)
      · have hmk := minK_y hkk hc0 (of_decide_eq_true (by assumption))
        refine runTf g'16 ?_
        refine hJ1 _ _ ⟨k1 - 1, by omega, _, _, _, ⟨1 + 1, 2 * i + 2, by omega, hmk, (.inr (by omega)), rfl, rfl⟩, (Abs.byG hbel_p0 [] rfl [0, 1] (by decide) ?_).le hle_p0⟩
        exact absW
      have hno : ¬ (2 * i + 1 + 1 < n ∧ g33 m (2 * i + 1 + 1) < g33 m kk) := fun q => absurd q.2 (of_decide_eq_false (by assumption))
      refine runTf g'17 ?_
      refine hJ1 _ _ ⟨k1 - 1, by omega, _, _, _, ⟨1 + 1, kk, by omega, (minK_n hkk hno), hkb, rfl, rfl⟩, (Abs.byG hbel_p0 [] rfl [0, 1] (by decide) ?_).le hle_p0⟩
      exact absW
    have hno : ¬ (2 * i + 1 + 1 < n ∧ g33 m (2 * i + 1 + 1) < g33 m kk) := fun q => by omega
    refine runTf g'18 ?_
    refine hJ1 _ _ ⟨k1 - 1, by omega, _, _, _, ⟨1 + 1, kk, by omega, (minK_n hkk hno), hkb, rfl, rfl⟩, (Abs.byG hbel_p0 [] rfl [0, 1] (by decide) ?_).le hle_p0⟩
    exact absW
  obtain rfl : q = 2 := by omega
  have hkE : kk = minH m n i := hkk
  refine rcs g'19 (fun h12 h12d _ => ?_) (fun h12 h12d _ => ?_)
  · have h12n := bnT h12
    have hki : kk = i := by have := eq_of_beq h12; omega
    have hfinP : m = popR (n + 1) R := by rw [← hdn]; exact (dnH_n (hkE.symm.trans hki)).symm
    have g'20 := (jn h12 (jn h12n (jn @int_bne (jn @int_beq g'19))))
    refine runTf g'20 ?_
    obtain ⟨K2, hK2⟩ : ∃ K, K = HP0.set bz (.cells true 0 [.sl (some (ba, 0)) n none]) := ⟨_, rfl⟩
    rw [← hK2]
    have hKl2 := rb_len hK2
    try simp only [show ∀ k, HP0.length + k = K2.length + k from fun k => by rw [hKl2], show ∀ o : Nat, (some (HP0.length, o) : Option (Nat × Nat)) = some (K2.length, o) from fun o => by rw [hKl2]]
    have hbel_k2 := rb_bel hK2 hbel_p0 (by first | rfl | exact bels_r3 | (simp only [ABlk.bel, AV.bels, AV.bel, Bool.and_true, decide_eq_true_eq]; omega))
    have hba_k2 := rb_old hK2 (by assumption) hba_p0
    have hbla_k2 := getElem?_lt hba_k2
    have hb0a_k2 := fun l => get_app (l := l) hba_k2
    have hbz_k2 := rb_new hK2 hblz_p0
    have hblz_k2 := getElem?_lt hbz_k2
    have hb0z_k2 := fun l => get_app (l := l) hbz_k2
    have hle_k2 : H.length ≤ K2.length := rb_le hK2 hle_p0
    exact hQ _ _ ((end_plain (.inl rfl) hbel_k2 (x := .agg [iV (g31 R 0), iV (g32 R 0), iV (g33 R 0)]) (resT Try.results52) rfl ⟨rfl, by rw [hK2, hP0, hK1, hfinP]; simp only [List.set_set]⟩).le hle_k2)
  have h12n := bnT h12
  have hki : kk ≠ i := fun q => by rw [q] at h12; simp at h12
  have hkn : kk < n := by omega
  have hkm : minH m n i ≠ i := fun q => hki (hkE.trans q)
  have hkl := minH_lt hkm
  have hdn2 := dnH_y hkm
  have q13 := r3_load (l := m) (j := kk) (by omega)
  have q14 := r3_load (l := m) (j := i) (by omega)
  have g'21 := (jn h12 (jn h12n (jn @int_bne (jn @int_beq (jn q13 (jn q14 g'19))))))
  refine runTf g'21 ?_
  obtain ⟨K3, hK3⟩ : ∃ K, K = HP0.set ba (.cells true 3 (r3 ((m.set i (g31 m kk, g32 m kk, g33 m kk)).set kk (g31 m i, g32 m i, g33 m i)))) := ⟨_, rfl⟩
  rw [← hK3]
  have hKl3 := rb_len hK3
  try simp only [show ∀ k, HP0.length + k = K3.length + k from fun k => by rw [hKl3], show ∀ o : Nat, (some (HP0.length, o) : Option (Nat × Nat)) = some (K3.length, o) from fun o => by rw [hKl3]]
  have hbel_k3 := rb_bel hK3 hbel_p0 (by first | rfl | exact bels_r3 | (simp only [ABlk.bel, AV.bels, AV.bel, Bool.and_true, decide_eq_true_eq]; omega))
  have hba_k3 := rb_new hK3 hbla_p0
  have hbla_k3 := getElem?_lt hba_k3
  have hb0a_k3 := fun l => get_app (l := l) hba_k3
  have hbz_k3 := rb_old hK3 (by assumption) hbz_p0
  have hblz_k3 := getElem?_lt hbz_k3
  have hb0z_k3 := fun l => get_app (l := l) hbz_k3
  have hle_k3 : H.length ≤ K3.length := rb_le hK3 hle_p0
  refine hJ0 _ _ ⟨n + 1 - kk, by omega, _, _, _, ⟨kk, ((m.set i (g31 m kk, g32 m kk, g33 m kk)).set kk (g31 m i, g32 m i, g33 m i)), K3, by omega, (by rw [hK3, hP0]; simp only [List.set_set]), (by rw [List.length_set, List.length_set]; exact hml), by omega, (by rw [← hdn, hdn2, hkE]; rfl), rfl, rfl⟩, (Abs.byG hbel_k3 [] rfl [0, 1] (by decide) ?_).le hle_k3⟩
  exact absW
theorem pop_k (H : AHeap) (R : List T3) (n : Nat) (ba bz : Nat) (ha : H[ba]? = some (.cells true 3 (r3 R))) (hz : H[bz]? = some (.cells true 0 [.sl (some (ba, 0)) n none])) (hnR : n ≤ R.length) (hRl : R.length ≤ 1000000) (h0 : 0 < n) :
    ACalls Try.prog 52 [.ptr (some (bz, 0))] H (fun v H' => v = .agg [iV (g31 R 0), iV (g32 R 0), iV (g33 R 0)] ∧ H' = (H.set ba (.cells true 3 (r3 (popR n R)))).set bz (.cells true 0 [.sl (some (ba, 0)) (n - 1) none])) := by
  cases n with
  | zero => omega
  | succ n => exact pop_c H R n ba bz ha hz hnR hRl
theorem pcosts_c (H : AHeap) (W Hh : Int) (pp : AV) (xs : List Int) (gx gy : Int) (hpp : Sl H 1 pp xs.length (ints .u8 xs)) (hV : Vld W Hh xs) (hg : isB W Hh xs gx gy 1 = true) : ACalls Try.prog 37 [.agg [iV W, iV Hh, pp], .agg [iV gx, iV gy]] H (fun v H' => v = .sl (some (H.length, 0)) ((costL W Hh xs (gx, gy)).length) none ∧ H' = H ++ [.cells true 1 (ints .i64 (costL W Hh xs (gx, gy)))]) := by
  obtain ⟨bpp, opp, cpp, rfl, hbpp⟩ := hpp
  have hblpp := getElem?_lt hbpp
  have hb0pp := fun l => get_app (l := l) hbpp
  have hwh := mul_le_64 (a := W) (b := Hh) (by have := hV.w0; omega) hV.w1 (by have := hV.h0; omega) hV.h1
  have hsfl : W * Hh = ((xs.length : Nat) : Int) := hV.len.symm
  have hgi := hV.idx (isB_in hg)
  have hgn := inB_iff.1 (isB_in hg)
  have hWb := hV.w1
  have hHb := hV.h1
  have hDz := dij0 (goal := (gx, gy)) hV.len hg
  refine AcT true Try.func37 ?_; intro hbel Q hQ
  have g'1 := (jn @hbpp (jn @hb0pp @hsfl))
  refine runTf g'1 ?_
  refine cvr g'1 (rept_c _ _ xs.length (slA) (by omega) (by omega)) ?_
  have hmz : 9 * (xs.length - nd (List.replicate xs.length (-1))) + 1 = 9 * xs.length + 1 := by rw [nd_rep]; rfl
  refine glp (fun k F Hx => ∃ L : List Int, ∃ R : List T3, ∃ n : Nat, ∃ v : Pt, 9 * (xs.length - nd L) + n = k ∧ Dij W Hh xs (gx, gy) L (R.take n) v 8 ∧ HO n R ∧ n ≤ R.length ∧ R.length ≤ 40000 ∧ 9 * (xs.length - nd L) + n ≤ 36865 ∧ F = [(2, .ptr (some (H.length, 0))), (5, .sl (some (H.length + 3, 0)) L.length none), (6, .ptr (some (H.length + 2, 0)))] ∧ Hx = H ++ [.cells true 0 [iV W, iV Hh, .sl (some (bpp, 0)) xs.length cpp], .cells true 3 (r3 R), .cells true 0 [.sl (some (H.length + 1, 0)) n none], .cells true 1 (ints .i64 L)]) (9 * xs.length + 1) ?_ ?_
  · refine ⟨_, _, _, ⟨List.replicate xs.length (-1), [(gx, gy, 0)], 1, (gx, gy), by first | exact hmz | rfl, hDz, (fun j h1 h2 => by omega), Nat.le_refl _, (by show 1 ≤ 40000; omega), (by rw [hmz]; omega), rfl, rfl⟩, bS hbel [0, 4, 5, 3] (absRf (jn @List.length_replicate.{0} (jn @r3_cons (jn @r3_nil (jn @r3_append @mvs_r3)))))⟩
  rintro k0 F Hx ⟨L, R, n, v, hm0, D, hHO, hnR, hRl, hkb, rfl, rfl⟩ J0 hJ0
  have hLl : L.length = xs.length := by have := D.len; omega
  have hndl := nd_le L
  have g'2 := (jn @r3_len (jn @r3_one (jn @ints_len (jn @ints_ones g'1))))
  refine rcs g'2 (fun h1 h1d g'3 => ?_) (fun h1 h1d g'48 => ?_)
  · have hn0 : 0 < n := by omega
    obtain ⟨hpo, hpP, hpm, hpx⟩ := pop_ok2 hn0 hnR hHO
    have hpl := popR_len (n := n) (l := R)
    obtain ⟨he1, he2, -⟩ := D.ent _ hpm
    have he1 : isB W Hh xs (g31 R 0) (g32 R 0) 1 = true := he1
    have hei := isB_in he1
    have hib := hV.idx hei
    have hein := inB_iff.1 hei
    have hbde : g33 R 0 ≤ 99 * (nd L : Int) := D.bde _ hpm
    have he2 : 0 ≤ g33 R 0 := he2
    have hR0 : 0 < R.length := by omega
    refine runTf g'3 ?_
    refine cv (pop_k _ R n (H.length + 1) _ (by first | rfl | (rw [get_newk]; rfl) | (rw [get_new0]; rfl)) (by first | rfl | (rw [get_newk]; rfl) | (rw [get_new0]; rfl)) (by omega) (by omega) (by omega)) ?_
    have q2 := ints_get (k := .i64) (xs := L) (j := (((g32 R 0) * W) + (g31 R 0)).toNat) (by omega)
    have g'4 := (jn q2 g'3)
    refine rcs g'4 (fun h3 h3d g'5 => ?_) (fun h3 h3d _ => ?_)
    · have hDo := dij_old D hpP (show 0 ≤ lv L W (g31 R 0, g32 R 0) from h3d)
      refine runTf g'5 ?_
      refine hJ0 _ _ ⟨9 * (xs.length - nd L) + (n - 1), by omega, _, _, _, ⟨L, popR n R, n - 1, v, by first | exact hmz | rfl, hDo, hpo, (by rw [hpl]; omega), (by rw [hpl]; exact hRl), (by omega), rfl, rfl⟩, bS hbel [0, 1, 2, 3] (absRf (jn @r3_append (jn @r3_cons (jn @r3_nil @mvs_r3))))⟩
    have hng : ¬ 0 ≤ lv L W (g31 R 0, g32 R 0) := h3d
    have hDn : Dij W Hh xs (gx, gy) (L.set (((g32 R 0) * W) + (g31 R 0)).toNat (g33 R 0)) ((popR n R).take (n - 1)) (g31 R 0, g32 R 0) 0 := dij_new D hpP hpx hng
    have hndn : nd (L.set (((g32 R 0) * W) + (g31 R 0)).toNat (g33 R 0)) = nd L + 1 := nd_set (by omega) (show gi L (((g32 R 0) * W) + (g31 R 0)).toNat < 0 from Int.not_le.1 hng) he2
    have hlvn : lv (L.set (((g32 R 0) * W) + (g31 R 0)).toNat (g33 R 0)) W (g31 R 0, g32 R 0) = g33 R 0 := by rw [show (((g32 R 0) * W) + (g31 R 0)).toNat = ixc W (g31 R 0, g32 R 0) from rfl, lv_set D.len hei hei, if_pos rfl]
    have g'6 := (jn h3 (jn h3d (jn @ints_set1 (jn @List.length_set.{0} g'4))))
    refine runTf g'6 ?_
    refine cvr g'6 (turns_c _) ?_
    refine glp (fun k F Hx => ∃ q : Nat, ∃ R1 : List T3, ∃ n1 : Nat, ∃ L2 : List Int, q + k = 8 ∧ Dij W Hh xs (gx, gy) L2 (R1.take n1) (g31 R 0, g32 R 0) q ∧ HO n1 R1 ∧ n1 ≤ R1.length ∧ R1.length ≤ 40000 ∧ lv L2 W (g31 R 0, g32 R 0) = g33 R 0 ∧ nd L2 = nd L + 1 ∧ n1 ≤ n - 1 + q ∧ F = [(2, .ptr (some (H.length, 0))), (5, .sl (some (H.length + 4, 0)) L2.length none), (6, .ptr (some (H.length + 2, 0))), (7, .ptr (some (H.length + 3, 0))), (48, .agg [iV 1, iV 0, iV 1, iV 1, iV 0, iV 1, iV (-1), iV 1, iV (-1), iV 0, iV (-1), iV (-1), iV 0, iV (-1), iV 1, iV (-1)]), (49, iV ((q : Nat) : Int))] ∧ Hx = H ++ [.cells true 0 [iV W, iV Hh, .sl (some (bpp, 0)) xs.length cpp], .cells true 3 (r3 R1), .cells true 0 [.sl (some (H.length + 1, 0)) n1 none], .cells true 0 [iV (g31 R 0), iV (g32 R 0), iV (g33 R 0)], .cells true 1 (ints .i64 L2)]) (8) ?_ ?_
    · refine ⟨_, _, _, ⟨0, popR n R, n - 1, L.set (((g32 R 0) * W) + (g31 R 0)).toNat (g33 R 0), by omega, hDn, hpo, (by rw [hpl]; omega), (by rw [hpl]; exact hRl), hlvn, hndn, (by omega), rfl, rfl⟩, bS hbel [0, 1, 2, 4, 3] (absRf (jn @List.length_set.{0} (jn @r3_append (jn @r3_cons (jn @r3_nil @mvs_r3)))))⟩
    rintro k1 F Hx ⟨q, R1, n1, L2, hm1, D1, hHO1, hnR1, hRl1, hlv1, hnd1, hct, rfl, rfl⟩ J1 hJ1
    have hL2 : L2.length = xs.length := by have := D1.len; omega
    have hnd2 := nd_le L2
    refine rcs g'6 (fun h4 h4d _ => ?_) (fun h4 h4d g'47 => ?_)
    · obtain rfl | rfl | rfl | rfl | rfl | rfl | rfl | rfl := (by omega : q = 0 ∨ q = 1 ∨ q = 2 ∨ q = 3 ∨ q = 4 ∨ q = 5 ∨ q = 6 ∨ q = 7)
      · have g'7 := j2 h4 h4d g'6
        refine runTf g'7 ?_
        refine cv (pcost_c _ W _ _ xs _ _ 1 0 (⟨_, _, _, rfl, by first | exact hb0pp _ | exact hbpp⟩) hV (by omega) (by omega) (by omega) (by omega)) ?_
        refine rgs g'7 (fun h5 h5d _ => ?_) (fun h5 h5d g'11 => ?_)
        · have hsk : 0 ≤ stk W Hh xs (g31 R 0, g32 R 0) 0 := of_decide_eq_true (by assumption)
          have hcn : cstN W Hh xs (g31 R 0) (g32 R 0) 1 0 = stk W Hh xs (g31 R 0, g32 R 0) 0 := if_pos hsk
          have hsi := stk_in hsk
          have hib2 := hV.idx (show inB W Hh (g31 R 0 + 1) (g32 R 0 + 0) = true from hsi.2.1)
          have hin2 := inB_iff.1 (show inB W Hh (g31 R 0 + 1) (g32 R 0 + 0) = true from hsi.2.1)
          have q6 := ints_get (k := .i64) (xs := L2) (j := ((((g32 R 0) + 0) * W) + ((g31 R 0) + 1)).toNat) (by omega)
          have g'8 := (jn h5 (jn h5d (jn q6 g'7)))
          refine rcs g'8 (fun h7 h7d g'9 => ?_) (fun h7 h7d g'10 => ?_)
          · obtain ⟨hpo1, hpo2, hpo3⟩ := push_ok2 (v := ((g31 R 0) + 1, (g32 R 0) + 0, (g33 R 0) + (cstN W Hh xs (g31 R 0) (g32 R 0) 1 0))) hnR1 hHO1
            have hpe : lv L2 W (g31 R 0, g32 R 0) + stk W Hh xs (g31 R 0, g32 R 0) 0 = (g33 R 0) + (cstN W Hh xs (g31 R 0) (g32 R 0) 1 0) := by rw [hcn, hlv1]
            have hDp := dij_push (hp2 := (pushH (R1.take n1) ((g31 R 0) + 1, (g32 R 0) + 0, (g33 R 0) + (cstN W Hh xs (g31 R 0) (g32 R 0) 1 0))).take (n1 + 1)) D1 (by omega) (by rw [hlv1]; exact he2) hsk (by rw [hpe]; exact hpo2)
            refine runTf g'9 ?_
            refine cvr g'9 (push_c _ R1 n1 (H.length + 1) _ _ _ _ (by first | rfl | (rw [get_newk]; rfl) | (rw [get_new0]; rfl)) (by first | rfl | (rw [get_newk]; rfl) | (rw [get_new0]; rfl)) (by omega) (by omega)) ?_
            refine hJ1 _ _ ⟨k1 - 1, by omega, _, _, _, ⟨0 + 1, pushH (List.take n1 R1) ((g31 R 0) + 1, (g32 R 0) + 0, (g33 R 0) + (cstN W Hh xs (g31 R 0) (g32 R 0) 1 0)), n1 + 1, L2, by omega, hDp, hpo1, (by rw [hpo3]; exact Nat.le_refl _), (by rw [hpo3]; omega), hlv1, hnd1, (by omega), rfl, rfl⟩, bS hbel [0, 7, 2, 3, 4] (absRf (jn @r3_append (jn @r3_cons (jn @r3_nil @mvs_r3))))⟩
          have hnp : ¬ (0 ≤ stk W Hh xs (g31 R 0, g32 R 0) 0 ∧ lv L2 W (to (g31 R 0, g32 R 0) 0) < 0) := fun q => absurd q.2 (of_decide_eq_false (by assumption))
          refine runTf g'10 ?_
          refine hJ1 _ _ ⟨k1 - 1, by omega, _, _, _, ⟨0 + 1, R1, n1, L2, by omega, (dij_skip D1 hnp), hHO1, hnR1, hRl1, hlv1, hnd1, (by omega), rfl, rfl⟩, bS hbel [0, 1, 2, 3, 4] (absRf (jn @r3_append (jn @r3_cons (jn @r3_nil @mvs_r3))))⟩
        have hnp : ¬ (0 ≤ stk W Hh xs (g31 R 0, g32 R 0) 0 ∧ lv L2 W (to (g31 R 0, g32 R 0) 0) < 0) := fun q => absurd q.1 (of_decide_eq_false (by assumption))
        refine runTf g'11 ?_
        refine hJ1 _ _ ⟨k1 - 1, by omega, _, _, _, ⟨0 + 1, R1, n1, L2, by omega, (dij_skip D1 hnp), hHO1, hnR1, hRl1, hlv1, hnd1, (by omega), rfl, rfl⟩, bS hbel [0, 1, 2, 3, 4] (absRf (jn @r3_append (jn @r3_cons (jn @r3_nil @mvs_r3))))⟩
      · have g'12 := j2 h4 h4d g'6
        refine runTf g'12 ?_
        refine cv (pcost_c _ W _ _ xs _ _ 1 1 (⟨_, _, _, rfl, by first | exact hb0pp _ | exact hbpp⟩) hV (by omega) (by omega) (by omega) (by omega)) ?_
        refine rgs g'12 (fun h8 h8d _ => ?_) (fun h8 h8d g'16 => ?_)
        · have hsk : 0 ≤ stk W Hh xs (g31 R 0, g32 R 0) 1 := of_decide_eq_true (by assumption)
          have hcn : cstN W Hh xs (g31 R 0) (g32 R 0) 1 1 = stk W Hh xs (g31 R 0, g32 R 0) 1 := if_pos hsk
          have hsi := stk_in hsk
          have hib2 := hV.idx (show inB W Hh (g31 R 0 + 1) (g32 R 0 + 1) = true from hsi.2.1)
          have hin2 := inB_iff.1 (show inB W Hh (g31 R 0 + 1) (g32 R 0 + 1) = true from hsi.2.1)
          have q9 := ints_get (k := .i64) (xs := L2) (j := ((((g32 R 0) + 1) * W) + ((g31 R 0) + 1)).toNat) (by omega)
          have g'13 := (jn h8 (jn h8d (jn q9 g'12)))
          refine rcs g'13 (fun h10 h10d g'14 => ?_) (fun h10 h10d g'15 => ?_)
          · obtain ⟨hpo1, hpo2, hpo3⟩ := push_ok2 (v := ((g31 R 0) + 1, (g32 R 0) + 1, (g33 R 0) + (cstN W Hh xs (g31 R 0) (g32 R 0) 1 1))) hnR1 hHO1
            have hpe : lv L2 W (g31 R 0, g32 R 0) + stk W Hh xs (g31 R 0, g32 R 0) 1 = (g33 R 0) + (cstN W Hh xs (g31 R 0) (g32 R 0) 1 1) := by rw [hcn, hlv1]
            have hDp := dij_push (hp2 := (pushH (R1.take n1) ((g31 R 0) + 1, (g32 R 0) + 1, (g33 R 0) + (cstN W Hh xs (g31 R 0) (g32 R 0) 1 1))).take (n1 + 1)) D1 (by omega) (by rw [hlv1]; exact he2) hsk (by rw [hpe]; exact hpo2)
            refine runTf g'14 ?_
            refine cvr g'14 (push_c _ R1 n1 (H.length + 1) _ _ _ _ (by first | rfl | (rw [get_newk]; rfl) | (rw [get_new0]; rfl)) (by first | rfl | (rw [get_newk]; rfl) | (rw [get_new0]; rfl)) (by omega) (by omega)) ?_
            refine hJ1 _ _ ⟨k1 - 1, by omega, _, _, _, ⟨1 + 1, pushH (List.take n1 R1) ((g31 R 0) + 1, (g32 R 0) + 1, (g33 R 0) + (cstN W Hh xs (g31 R 0) (g32 R 0) 1 1)), n1 + 1, L2, by omega, hDp, hpo1, (by rw [hpo3]; exact Nat.le_refl _), (by rw [hpo3]; omega), hlv1, hnd1, (by omega), rfl, rfl⟩, bS hbel [0, 7, 2, 3, 4] (absRf (jn @r3_append (jn @r3_cons (jn @r3_nil @mvs_r3))))⟩
          have hnp : ¬ (0 ≤ stk W Hh xs (g31 R 0, g32 R 0) 1 ∧ lv L2 W (to (g31 R 0, g32 R 0) 1) < 0) := fun q => absurd q.2 (of_decide_eq_false (by assumption))
          refine runTf g'15 ?_
          refine hJ1 _ _ ⟨k1 - 1, by omega, _, _, _, ⟨1 + 1, R1, n1, L2, by omega, (dij_skip D1 hnp), hHO1, hnR1, hRl1, hlv1, hnd1, (by omega), rfl, rfl⟩, bS hbel [0, 1, 2, 3, 4] (absRf (jn @r3_append (jn @r3_cons (jn @r3_nil @mvs_r3))))⟩
        have hnp : ¬ (0 ≤ stk W Hh xs (g31 R 0, g32 R 0) 1 ∧ lv L2 W (to (g31 R 0, g32 R 0) 1) < 0) := fun q => absurd q.1 (of_decide_eq_false (by assumption))
        refine runTf g'16 ?_
        refine hJ1 _ _ ⟨k1 - 1, by omega, _, _, _, ⟨1 + 1, R1, n1, L2, by omega, (dij_skip D1 hnp), hHO1, hnR1, hRl1, hlv1, hnd1, (by omega), rfl, rfl⟩, bS hbel [0, 1, 2, 3, 4] (absRf (jn @r3_append (jn @r3_cons (jn @r3_nil @mvs_r3))))⟩
      · have g'17 := j2 h4 h4d g'6
        refine runTf g'17 ?_
        refine cv (pcost_c _ W _ _ xs _ _ 0 1 (⟨_, _, _, rfl, by first | exact hb0pp _ | exact hbpp⟩) hV (by omega) (by omega) (by omega) (by omega)) ?_
        refine rgs g'17 (fun h11 h11d _ => ?_) (fun h11 h11d g'21 => ?_)
        · have hsk : 0 ≤ stk W Hh xs (g31 R 0, g32 R 0) 2 := of_decide_eq_true (by assumption)
          have hcn : cstN W Hh xs (g31 R 0) (g32 R 0) 0 1 = stk W Hh xs (g31 R 0, g32 R 0) 2 := if_pos hsk
          have hsi := stk_in hsk
          have hib2 := hV.idx (show inB W Hh (g31 R 0 + 0) (g32 R 0 + 1) = true from hsi.2.1)
          have hin2 := inB_iff.1 (show inB W Hh (g31 R 0 + 0) (g32 R 0 + 1) = true from hsi.2.1)
          have q12 := ints_get (k := .i64) (xs := L2) (j := ((((g32 R 0) + 1) * W) + ((g31 R 0) + 0)).toNat) (by omega)
          have g'18 := (jn h11 (jn h11d (jn q12 g'17)))
          refine rcs g'18 (fun h13 h13d g'19 => ?_) (fun h13 h13d g'20 => ?_)
          · obtain ⟨hpo1, hpo2, hpo3⟩ := push_ok2 (v := ((g31 R 0) + 0, (g32 R 0) + 1, (g33 R 0) + (cstN W Hh xs (g31 R 0) (g32 R 0) 0 1))) hnR1 hHO1
            have hpe : lv L2 W (g31 R 0, g32 R 0) + stk W Hh xs (g31 R 0, g32 R 0) 2 = (g33 R 0) + (cstN W Hh xs (g31 R 0) (g32 R 0) 0 1) := by rw [hcn, hlv1]
            have hDp := dij_push (hp2 := (pushH (R1.take n1) ((g31 R 0) + 0, (g32 R 0) + 1, (g33 R 0) + (cstN W Hh xs (g31 R 0) (g32 R 0) 0 1))).take (n1 + 1)) D1 (by omega) (by rw [hlv1]; exact he2) hsk (by rw [hpe]; exact hpo2)
            refine runTf g'19 ?_
            refine cvr g'19 (push_c _ R1 n1 (H.length + 1) _ _ _ _ (by first | rfl | (rw [get_newk]; rfl) | (rw [get_new0]; rfl)) (by first | rfl | (rw [get_newk]; rfl) | (rw [get_new0]; rfl)) (by omega) (by omega)) ?_
            refine hJ1 _ _ ⟨k1 - 1, by omega, _, _, _, ⟨2 + 1, pushH (List.take n1 R1) ((g31 R 0) + 0, (g32 R 0) + 1, (g33 R 0) + (cstN W Hh xs (g31 R 0) (g32 R 0) 0 1)), n1 + 1, L2, by omega, hDp, hpo1, (by rw [hpo3]; exact Nat.le_refl _), (by rw [hpo3]; omega), hlv1, hnd1, (by omega), rfl, rfl⟩, bS hbel [0, 7, 2, 3, 4] (absRf (jn @r3_append (jn @r3_cons (jn @r3_nil @mvs_r3))))⟩
          have hnp : ¬ (0 ≤ stk W Hh xs (g31 R 0, g32 R 0) 2 ∧ lv L2 W (to (g31 R 0, g32 R 0) 2) < 0) := fun q => absurd q.2 (of_decide_eq_false (by assumption))
          refine runTf g'20 ?_
          refine hJ1 _ _ ⟨k1 - 1, by omega, _, _, _, ⟨2 + 1, R1, n1, L2, by omega, (dij_skip D1 hnp), hHO1, hnR1, hRl1, hlv1, hnd1, (by omega), rfl, rfl⟩, bS hbel [0, 1, 2, 3, 4] (absRf (jn @r3_append (jn @r3_cons (jn @r3_nil @mvs_r3))))⟩
        have hnp : ¬ (0 ≤ stk W Hh xs (g31 R 0, g32 R 0) 2 ∧ lv L2 W (to (g31 R 0, g32 R 0) 2) < 0) := fun q => absurd q.1 (of_decide_eq_false (by assumption))
        refine runTf g'21 ?_
        refine hJ1 _ _ ⟨k1 - 1, by omega, _, _, _, ⟨2 + 1, R1, n1, L2, by omega, (dij_skip D1 hnp), hHO1, hnR1, hRl1, hlv1, hnd1, (by omega), rfl, rfl⟩, bS hbel [0, 1, 2, 3, 4] (absRf (jn @r3_append (jn @r3_cons (jn @r3_nil @mvs_r3))))⟩
      · have g'22 := j2 h4 h4d g'6
        refine runTf g'22 ?_
        refine cv (pcost_c _ W _ _ xs _ _ _ 1 (⟨_, _, _, rfl, by first | exact hb0pp _ | exact hbpp⟩) hV (by omega) (by omega) (by omega) (by omega)) ?_
        refine rgs g'22 (fun h14 h14d _ => ?_) (fun h14 h14d g'26 => ?_)
        · have hsk : 0 ≤ stk W Hh xs (g31 R 0, g32 R 0) 3 := of_decide_eq_true (by assumption)
          have hcn : cstN W Hh xs (g31 R 0) (g32 R 0) (-1) 1 = stk W Hh xs (g31 R 0, g32 R 0) 3 := if_pos hsk
          have hsi := stk_in hsk
          have hib2 := hV.idx (show inB W Hh (g31 R 0 + (-1)) (g32 R 0 + 1) = true from hsi.2.1)
          have hin2 := inB_iff.1 (show inB W Hh (g31 R 0 + (-1)) (g32 R 0 + 1) = true from hsi.2.1)
          have q15 := ints_get (k := .i64) (xs := L2) (j := ((((g32 R 0) + 1) * W) + ((g31 R 0) + (-1))).toNat) (by omega)
          have g'23 := (jn h14 (jn h14d (jn q15 g'22)))
          refine rcs g'23 (fun h16 h16d g'24 => ?_) (fun h16 h16d g'25 => ?_)
          · obtain ⟨hpo1, hpo2, hpo3⟩ := push_ok2 (v := ((g31 R 0) + (-1), (g32 R 0) + 1, (g33 R 0) + (cstN W Hh xs (g31 R 0) (g32 R 0) (-1) 1))) hnR1 hHO1
            have hpe : lv L2 W (g31 R 0, g32 R 0) + stk W Hh xs (g31 R 0, g32 R 0) 3 = (g33 R 0) + (cstN W Hh xs (g31 R 0) (g32 R 0) (-1) 1) := by rw [hcn, hlv1]
            have hDp := dij_push (hp2 := (pushH (R1.take n1) ((g31 R 0) + (-1), (g32 R 0) + 1, (g33 R 0) + (cstN W Hh xs (g31 R 0) (g32 R 0) (-1) 1))).take (n1 + 1)) D1 (by omega) (by rw [hlv1]; exact he2) hsk (by rw [hpe]; exact hpo2)
            refine runTf g'24 ?_
            refine cvr g'24 (push_c _ R1 n1 (H.length + 1) _ _ _ _ (by first | rfl | (rw [get_newk]; rfl) | (rw [get_new0]; rfl)) (by first | rfl | (rw [get_newk]; rfl) | (rw [get_new0]; rfl)) (by omega) (by omega)) ?_
            refine hJ1 _ _ ⟨k1 - 1, by omega, _, _, _, ⟨3 + 1, pushH (List.take n1 R1) ((g31 R 0) + (-1), (g32 R 0) + 1, (g33 R 0) + (cstN W Hh xs (g31 R 0) (g32 R 0) (-1) 1)), n1 + 1, L2, by omega, hDp, hpo1, (by rw [hpo3]; exact Nat.le_refl _), (by rw [hpo3]; omega), hlv1, hnd1, (by omega), rfl, rfl⟩, bS hbel [0, 7, 2, 3, 4] (absRf (jn @r3_append (jn @r3_cons (jn @r3_nil @mvs_r3))))⟩
          have hnp : ¬ (0 ≤ stk W Hh xs (g31 R 0, g32 R 0) 3 ∧ lv L2 W (to (g31 R 0, g32 R 0) 3) < 0) := fun q => absurd q.2 (of_decide_eq_false (by assumption))
          refine runTf g'25 ?_
          refine hJ1 _ _ ⟨k1 - 1, by omega, _, _, _, ⟨3 + 1, R1, n1, L2, by omega, (dij_skip D1 hnp), hHO1, hnR1, hRl1, hlv1, hnd1, (by omega), rfl, rfl⟩, bS hbel [0, 1, 2, 3, 4] (absRf (jn @r3_append (jn @r3_cons (jn @r3_nil @mvs_r3))))⟩
        have hnp : ¬ (0 ≤ stk W Hh xs (g31 R 0, g32 R 0) 3 ∧ lv L2 W (to (g31 R 0, g32 R 0) 3) < 0) := fun q => absurd q.1 (of_decide_eq_false (by assumption))
        refine runTf g'26 ?_
        refine hJ1 _ _ ⟨k1 - 1, by omega, _, _, _, ⟨3 + 1, R1, n1, L2, by omega, (dij_skip D1 hnp), hHO1, hnR1, hRl1, hlv1, hnd1, (by omega), rfl, rfl⟩, bS hbel [0, 1, 2, 3, 4] (absRf (jn @r3_append (jn @r3_cons (jn @r3_nil @mvs_r3))))⟩
      · have g'27 := j2 h4 h4d g'6
        refine runTf g'27 ?_
        refine cv (pcost_c _ W _ _ xs _ _ _ 0 (⟨_, _, _, rfl, by first | exact hb0pp _ | exact hbpp⟩) hV (by omega) (by omega) (by omega) (by omega)) ?_
        refine rgs g'27 (fun h17 h17d _ => ?_) (fun h17 h17d g'31 => ?_)
        · have hsk : 0 ≤ stk W Hh xs (g31 R 0, g32 R 0) 4 := of_decide_eq_true (by assumption)
          have hcn : cstN W Hh xs (g31 R 0) (g32 R 0) (-1) 0 = stk W Hh xs (g31 R 0, g32 R 0) 4 := if_pos hsk
          have hsi := stk_in hsk
          have hib2 := hV.idx (show inB W Hh (g31 R 0 + (-1)) (g32 R 0 + 0) = true from hsi.2.1)
          have hin2 := inB_iff.1 (show inB W Hh (g31 R 0 + (-1)) (g32 R 0 + 0) = true from hsi.2.1)
          have q18 := ints_get (k := .i64) (xs := L2) (j := ((((g32 R 0) + 0) * W) + ((g31 R 0) + (-1))).toNat) (by omega)
          have g'28 := (jn h17 (jn h17d (jn q18 g'27)))
          refine rcs g'28 (fun h19 h19d g'29 => ?_) (fun h19 h19d g'30 => ?_)
          · obtain ⟨hpo1, hpo2, hpo3⟩ := push_ok2 (v := ((g31 R 0) + (-1), (g32 R 0) + 0, (g33 R 0) + (cstN W Hh xs (g31 R 0) (g32 R 0) (-1) 0))) hnR1 hHO1
            have hpe : lv L2 W (g31 R 0, g32 R 0) + stk W Hh xs (g31 R 0, g32 R 0) 4 = (g33 R 0) + (cstN W Hh xs (g31 R 0) (g32 R 0) (-1) 0) := by rw [hcn, hlv1]
            have hDp := dij_push (hp2 := (pushH (R1.take n1) ((g31 R 0) + (-1), (g32 R 0) + 0, (g33 R 0) + (cstN W Hh xs (g31 R 0) (g32 R 0) (-1) 0))).take (n1 + 1)) D1 (by omega) (by rw [hlv1]; exact he2) hsk (by rw [hpe]; exact hpo2)
            refine runTf g'29 ?_
            refine cvr g'29 (push_c _ R1 n1 (H.length + 1) _ _ _ _ (by first | rfl | (rw [get_newk]; rfl) | (rw [get_new0]; rfl)) (by first | rfl | (rw [get_newk]; rfl) | (rw [get_new0]; rfl)) (by omega) (by omega)) ?_
            refine hJ1 _ _ ⟨k1 - 1, by omega, _, _, _, ⟨4 + 1, pushH (List.take n1 R1) ((g31 R 0) + (-1), (g32 R 0) + 0, (g33 R 0) + (cstN W Hh xs (g31 R 0) (g32 R 0) (-1) 0)), n1 + 1, L2, by omega, hDp, hpo1, (by rw [hpo3]; exact Nat.le_refl _), (by rw [hpo3]; omega), hlv1, hnd1, (by omega), rfl, rfl⟩, bS hbel [0, 7, 2, 3, 4] (absRf (jn @r3_append (jn @r3_cons (jn @r3_nil @mvs_r3))))⟩
          have hnp : ¬ (0 ≤ stk W Hh xs (g31 R 0, g32 R 0) 4 ∧ lv L2 W (to (g31 R 0, g32 R 0) 4) < 0) := fun q => absurd q.2 (of_decide_eq_false (by assumption))
          refine runTf g'30 ?_
          refine hJ1 _ _ ⟨k1 - 1, by omega, _, _, _, ⟨4 + 1, R1, n1, L2, by omega, (dij_skip D1 hnp), hHO1, hnR1, hRl1, hlv1, hnd1, (by omega), rfl, rfl⟩, bS hbel [0, 1, 2, 3, 4] (absRf (jn @r3_append (jn @r3_cons (jn @r3_nil @mvs_r3))))⟩
        have hnp : ¬ (0 ≤ stk W Hh xs (g31 R 0, g32 R 0) 4 ∧ lv L2 W (to (g31 R 0, g32 R 0) 4) < 0) := fun q => absurd q.1 (of_decide_eq_false (by assumption))
        refine runTf g'31 ?_
        refine hJ1 _ _ ⟨k1 - 1, by omega, _, _, _, ⟨4 + 1, R1, n1, L2, by omega, (dij_skip D1 hnp), hHO1, hnR1, hRl1, hlv1, hnd1, (by omega), rfl, rfl⟩, bS hbel [0, 1, 2, 3, 4] (absRf (jn @r3_append (jn @r3_cons (jn @r3_nil @mvs_r3))))⟩
      · have g'32 := j2 h4 h4d g'6
        refine runTf g'32 ?_
        refine cv (pcost_c _ W _ _ xs _ _ _ _ (⟨_, _, _, rfl, by first | exact hb0pp _ | exact hbpp⟩) hV (by omega) (by omega) (by omega) (by omega)) ?_
        refine rgs g'32 (fun h20 h20d _ => ?_) (fun h20 h20d g'36 => ?_)
        · have hsk : 0 ≤ stk W Hh xs (g31 R 0, g32 R 0) 5 := of_decide_eq_true (by assumption)
          have hcn : cstN W Hh xs (g31 R 0) (g32 R 0) (-1) (-1) = stk W Hh xs (g31 R 0, g32 R 0) 5 := if_pos hsk
          have hsi := stk_in hsk
          have hib2 := hV.idx (show inB W Hh (g31 R 0 + (-1)) (g32 R 0 + (-1)) = true from hsi.2.1)
          have hin2 := inB_iff.1 (show inB W Hh (g31 R 0 + (-1)) (g32 R 0 + (-1)) = true from hsi.2.1)
          have q21 := ints_get (k := .i64) (xs := L2) (j := ((((g32 R 0) + (-1)) * W) + ((g31 R 0) + (-1))).toNat) (by omega)
          have g'33 := (jn h20 (jn h20d (jn q21 g'32)))
          refine rcs g'33 (fun h22 h22d g'34 => ?_) (fun h22 h22d g'35 => ?_)
          · obtain ⟨hpo1, hpo2, hpo3⟩ := push_ok2 (v := ((g31 R 0) + (-1), (g32 R 0) + (-1), (g33 R 0) + (cstN W Hh xs (g31 R 0) (g32 R 0) (-1) (-1)))) hnR1 hHO1
            have hpe : lv L2 W (g31 R 0, g32 R 0) + stk W Hh xs (g31 R 0, g32 R 0) 5 = (g33 R 0) + (cstN W Hh xs (g31 R 0) (g32 R 0) (-1) (-1)) := by rw [hcn, hlv1]
            have hDp := dij_push (hp2 := (pushH (R1.take n1) ((g31 R 0) + (-1), (g32 R 0) + (-1), (g33 R 0) + (cstN W Hh xs (g31 R 0) (g32 R 0) (-1) (-1)))).take (n1 + 1)) D1 (by omega) (by rw [hlv1]; exact he2) hsk (by rw [hpe]; exact hpo2)
            refine runTf g'34 ?_
            refine cvr g'34 (push_c _ R1 n1 (H.length + 1) _ _ _ _ (by first | rfl | (rw [get_newk]; rfl) | (rw [get_new0]; rfl)) (by first | rfl | (rw [get_newk]; rfl) | (rw [get_new0]; rfl)) (by omega) (by omega)) ?_
            refine hJ1 _ _ ⟨k1 - 1, by omega, _, _, _, ⟨5 + 1, pushH (List.take n1 R1) ((g31 R 0) + (-1), (g32 R 0) + (-1), (g33 R 0) + (cstN W Hh xs (g31 R 0) (g32 R 0) (-1) (-1))), n1 + 1, L2, by omega, hDp, hpo1, (by rw [hpo3]; exact Nat.le_refl _), (by rw [hpo3]; omega), hlv1, hnd1, (by omega), rfl, rfl⟩, bS hbel [0, 7, 2, 3, 4] (absRf (jn @r3_append (jn @r3_cons (jn @r3_nil @mvs_r3))))⟩
          have hnp : ¬ (0 ≤ stk W Hh xs (g31 R 0, g32 R 0) 5 ∧ lv L2 W (to (g31 R 0, g32 R 0) 5) < 0) := fun q => absurd q.2 (of_decide_eq_false (by assumption))
          refine runTf g'35 ?_
          refine hJ1 _ _ ⟨k1 - 1, by omega, _, _, _, ⟨5 + 1, R1, n1, L2, by omega, (dij_skip D1 hnp), hHO1, hnR1, hRl1, hlv1, hnd1, (by omega), rfl, rfl⟩, bS hbel [0, 1, 2, 3, 4] (absRf (jn @r3_append (jn @r3_cons (jn @r3_nil @mvs_r3))))⟩
        have hnp : ¬ (0 ≤ stk W Hh xs (g31 R 0, g32 R 0) 5 ∧ lv L2 W (to (g31 R 0, g32 R 0) 5) < 0) := fun q => absurd q.1 (of_decide_eq_false (by assumption))
        refine runTf g'36 ?_
        refine hJ1 _ _ ⟨k1 - 1, by omega, _, _, _, ⟨5 + 1, R1, n1, L2, by omega, (dij_skip D1 hnp), hHO1, hnR1, hRl1, hlv1, hnd1, (by omega), rfl, rfl⟩, bS hbel [0, 1, 2, 3, 4] (absRf (jn @r3_append (jn @r3_cons (jn @r3_nil @mvs_r3))))⟩
      · have g'37 := j2 h4 h4d g'6
        refine runTf g'37 ?_
        refine cv (pcost_c _ W _ _ xs _ _ 0 _ (⟨_, _, _, rfl, by first | exact hb0pp _ | exact hbpp⟩) hV (by omega) (by omega) (by omega) (by omega)) ?_
        refine rgs g'37 (fun h23 h23d _ => ?_) (fun h23 h23d g'41 => ?_)
        · have hsk : 0 ≤ stk W Hh xs (g31 R 0, g32 R 0) 6 := of_decide_eq_true (by assumption)
          have hcn : cstN W Hh xs (g31 R 0) (g32 R 0) 0 (-1) = stk W Hh xs (g31 R 0, g32 R 0) 6 := if_pos hsk
          have hsi := stk_in hsk
          have hib2 := hV.idx (show inB W Hh (g31 R 0 + 0) (g32 R 0 + (-1)) = true from hsi.2.1)
          have hin2 := inB_iff.1 (show inB W Hh (g31 R 0 + 0) (g32 R 0 + (-1)) = true from hsi.2.1)
          have q24 := ints_get (k := .i64) (xs := L2) (j := ((((g32 R 0) + (-1)) * W) + ((g31 R 0) + 0)).toNat) (by omega)
          have g'38 := (jn h23 (jn h23d (jn q24 g'37)))
          refine rcs g'38 (fun h25 h25d g'39 => ?_) (fun h25 h25d g'40 => ?_)
          · obtain ⟨hpo1, hpo2, hpo3⟩ := push_ok2 (v := ((g31 R 0) + 0, (g32 R 0) + (-1), (g33 R 0) + (cstN W Hh xs (g31 R 0) (g32 R 0) 0 (-1)))) hnR1 hHO1
            have hpe : lv L2 W (g31 R 0, g32 R 0) + stk W Hh xs (g31 R 0, g32 R 0) 6 = (g33 R 0) + (cstN W Hh xs (g31 R 0) (g32 R 0) 0 (-1)) := by rw [hcn, hlv1]
            have hDp := dij_push (hp2 := (pushH (R1.take n1) ((g31 R 0) + 0, (g32 R 0) + (-1), (g33 R 0) + (cstN W Hh xs (g31 R 0) (g32 R 0) 0 (-1)))).take (n1 + 1)) D1 (by omega) (by rw [hlv1]; exact he2) hsk (by rw [hpe]; exact hpo2)
            refine runTf g'39 ?_
            refine cvr g'39 (push_c _ R1 n1 (H.length + 1) _ _ _ _ (by first | rfl | (rw [get_newk]; rfl) | (rw [get_new0]; rfl)) (by first | rfl | (rw [get_newk]; rfl) | (rw [get_new0]; rfl)) (by omega) (by omega)) ?_
            refine hJ1 _ _ ⟨k1 - 1, by omega, _, _, _, ⟨6 + 1, pushH (List.take n1 R1) ((g31 R 0) + 0, (g32 R 0) + (-1), (g33 R 0) + (cstN W Hh xs (g31 R 0) (g32 R 0) 0 (-1))), n1 + 1, L2, by omega, hDp, hpo1, (by rw [hpo3]; exact Nat.le_refl _), (by rw [hpo3]; omega), hlv1, hnd1, (by omega), rfl, rfl⟩, bS hbel [0, 7, 2, 3, 4] (absRf (jn @r3_append (jn @r3_cons (jn @r3_nil @mvs_r3))))⟩
          have hnp : ¬ (0 ≤ stk W Hh xs (g31 R 0, g32 R 0) 6 ∧ lv L2 W (to (g31 R 0, g32 R 0) 6) < 0) := fun q => absurd q.2 (of_decide_eq_false (by assumption))
          refine runTf g'40 ?_
          refine hJ1 _ _ ⟨k1 - 1, by omega, _, _, _, ⟨6 + 1, R1, n1, L2, by omega, (dij_skip D1 hnp), hHO1, hnR1, hRl1, hlv1, hnd1, (by omega), rfl, rfl⟩, bS hbel [0, 1, 2, 3, 4] (absRf (jn @r3_append (jn @r3_cons (jn @r3_nil @mvs_r3))))⟩
        have hnp : ¬ (0 ≤ stk W Hh xs (g31 R 0, g32 R 0) 6 ∧ lv L2 W (to (g31 R 0, g32 R 0) 6) < 0) := fun q => absurd q.1 (of_decide_eq_false (by assumption))
        refine runTf g'41 ?_
        refine hJ1 _ _ ⟨k1 - 1, by omega, _, _, _, ⟨6 + 1, R1, n1, L2, by omega, (dij_skip D1 hnp), hHO1, hnR1, hRl1, hlv1, hnd1, (by omega), rfl, rfl⟩, bS hbel [0, 1, 2, 3, 4] (absRf (jn @r3_append (jn @r3_cons (jn @r3_nil @mvs_r3))))⟩
      have g'42 := j2 h4 h4d g'6
      refine runTf g'42 ?_
      refine cv (pcost_c _ W _ _ xs _ _ 1 _ (⟨_, _, _, rfl, by first | exact hb0pp _ | exact hbpp⟩) hV (by omega) (by omega) (by omega) (by omega)) ?_
      refine rgs g'42 (fun h26 h26d _ => ?_) (fun h26 h26d g'46 => ?_)
      · have hsk : 0 ≤ stk W Hh xs (g31 R 0, g32 R 0) 7 := of_decide_eq_true (by assumption)
        have hcn : cstN W Hh xs (g31 R 0) (g32 R 0) 1 (-1) = stk W Hh xs (g31 R 0, g32 R 0) 7 := if_pos hsk
        have hsi := stk_in hsk
        have hib2 := hV.idx (show inB W Hh (g31 R 0 + 1) (g32 R 0 + (-1)) = true from hsi.2.1)
        have hin2 := inB_iff.1 (show inB W Hh (g31 R 0 + 1) (g32 R 0 + (-1)) = true from hsi.2.1)
        have q27 := ints_get (k := .i64) (xs := L2) (j := ((((g32 R 0) + (-1)) * W) + ((g31 R 0) + 1)).toNat) (by omega)
        have g'43 := (jn h26 (jn h26d (jn q27 g'42)))
        refine rcs g'43 (fun h28 h28d g'44 => ?_) (fun h28 h28d g'45 => ?_)
        · obtain ⟨hpo1, hpo2, hpo3⟩ := push_ok2 (v := ((g31 R 0) + 1, (g32 R 0) + (-1), (g33 R 0) + (cstN W Hh xs (g31 R 0) (g32 R 0) 1 (-1)))) hnR1 hHO1
          have hpe : lv L2 W (g31 R 0, g32 R 0) + stk W Hh xs (g31 R 0, g32 R 0) 7 = (g33 R 0) + (cstN W Hh xs (g31 R 0) (g32 R 0) 1 (-1)) := by rw [hcn, hlv1]
          have hDp := dij_push (hp2 := (pushH (R1.take n1) ((g31 R 0) + 1, (g32 R 0) + (-1), (g33 R 0) + (cstN W Hh xs (g31 R 0) (g32 R 0) 1 (-1)))).take (n1 + 1)) D1 (by omega) (by rw [hlv1]; exact he2) hsk (by rw [hpe]; exact hpo2)
          refine runTf g'44 ?_
          refine cvr g'44 (push_c _ R1 n1 (H.length + 1) _ _ _ _ (by first | rfl | (rw [get_newk]; rfl) | (rw [get_new0]; rfl)) (by first | rfl | (rw [get_newk]; rfl) | (rw [get_new0]; rfl)) (by omega) (by omega)) ?_
          refine hJ1 _ _ ⟨k1 - 1, by omega, _, _, _, ⟨7 + 1, pushH (List.take n1 R1) ((g31 R 0) + 1, (g32 R 0) + (-1), (g33 R 0) + (cstN W Hh xs (g31 R 0) (g32 R 0) 1 (-1))), n1 + 1, L2, by omega, hDp, hpo1, (by rw [hpo3]; exact Nat.le_refl _), (by rw [hpo3]; omega), hlv1, hnd1, (by omega), rfl, rfl⟩, bS hbel [0, 7, 2, 3, 4] (absRf (jn @r3_append (jn @r3_cons (jn @r3_nil @mvs_r3))))⟩
        have hnp : ¬ (0 ≤ stk W Hh xs (g31 R 0, g32 R 0) 7 ∧ lv L2 W (to (g31 R 0, g32 R 0) 7) < 0) := fun q => absurd q.2 (of_decide_eq_false (by assumption))
        refine runTf g'45 ?_
        refine hJ1 _ _ ⟨k1 - 1, by omega, _, _, _, ⟨7 + 1, R1, n1, L2, by omega, (dij_skip D1 hnp), hHO1, hnR1, hRl1, hlv1, hnd1, (by omega), rfl, rfl⟩, bS hbel [0, 1, 2, 3, 4] (absRf (jn @r3_append (jn @r3_cons (jn @r3_nil @mvs_r3))))⟩
      have hnp : ¬ (0 ≤ stk W Hh xs (g31 R 0, g32 R 0) 7 ∧ lv L2 W (to (g31 R 0, g32 R 0) 7) < 0) := fun q => absurd q.1 (of_decide_eq_false (by assumption))
      refine runTf g'46 ?_
      refine hJ1 _ _ ⟨k1 - 1, by omega, _, _, _, ⟨7 + 1, R1, n1, L2, by omega, (dij_skip D1 hnp), hHO1, hnR1, hRl1, hlv1, hnd1, (by omega), rfl, rfl⟩, bS hbel [0, 1, 2, 3, 4] (absRf (jn @r3_append (jn @r3_cons (jn @r3_nil @mvs_r3))))⟩
    obtain rfl : q = 8 := by omega
    refine runTf g'47 ?_
    refine hJ0 _ _ ⟨9 * (xs.length - nd L2) + n1, by omega, _, _, _, ⟨L2, R1, n1, (g31 R 0, g32 R 0), by first | exact hmz | rfl, D1, hHO1, hnR1, hRl1, (by omega), rfl, rfl⟩, bS hbel [0, 1, 2, 4] (absRf (jn @r3_append (jn @r3_cons (jn @r3_nil @mvs_r3))))⟩
  have hnE : n = 0 := by omega
  have hend : CostP W Hh xs (gx, gy) L := by subst hnE; rw [List.take_zero] at D; exact dij_end D
  have hfin := costL_eq hV.w0 (isB_in hg) hend
  refine runTf g'48 ?_
  refine hQ _ _ (end_byG (.inl rfl) hbel (x1 := .sl (some (H.length + 3, 0)) L.length none) (l2 := [.cells true 1 (ints .i64 L)]) (.sl (some (H.length, 0)) L.length none) (resT Try.results37) [] rfl [3] (by decide) ⟨by rw [hfin], by rw [hfin]⟩ ?_)
  exact absW
theorem pcs_y (H : AHeap) (W Hh : Int) (pp : AV) (xs : List Int) (gx gy : Int) (hpp : Sl H 1 pp xs.length (ints .u8 xs)) (hv : vldB W Hh xs = true) (hg : isB W Hh xs gx gy 1 = true) : ACalls Try.prog 27 [.agg [iV W, iV Hh, pp], .agg [iV gx, iV gy]] H (fun v H' => v = .tup [.sl (some (H.length, 0)) ((costL W Hh xs (gx, gy)).length) none, iV 0] ∧ H' = H ++ [.cells true 1 (ints .i64 (costL W Hh xs (gx, gy)))]) := by
  obtain ⟨bpp, opp, cpp, rfl, hbpp⟩ := hpp
  have hblpp := getElem?_lt hbpp
  have hb0pp := fun l => get_app (l := l) hbpp
  have hV := vld_iff.1 hv
  refine AcT true Try.func27 ?_; intro hbel Q hQ
  have g'1 := (jn @hbpp @hb0pp)
  refine runTf g'1 ?_
  refine cv (valid_a _ W Hh _ xs (.inr ⟨_, _, _, rfl, by first | exact hb0pp _ | exact hbpp⟩)) ?_
  refine rcs g'1 (fun h1 h1d _ => ?_) (fun h1 h1d g'2 => ?_)
  · rw [hv] at h1d; cases h1d
  refine runTf g'2 ?_
  refine cv (pfree_c _ W _ _ xs _ _ (⟨_, _, _, rfl, by first | exact hb0pp _ | exact hbpp⟩) hV) ?_
  refine rcs g'2 (fun h2 h2d _ => ?_) (fun h2 h2d g'3 => ?_)
  · rw [hg] at h2d; cases h2d
  refine runTf g'3 ?_
  refine cvr g'3 (pcosts_c _ W _ _ xs _ _ (⟨_, _, _, rfl, by first | exact hb0pp _ | exact hbpp⟩) hV hg) ?_
  refine hQ _ _ (end_byG (.inl rfl) hbel (x1 := .tup [.sl (some (H.length + 2, 0)) ((costL W Hh xs (gx, gy)).length) none, iV 0]) (l2 := [.cells true 1 (ints .i64 (costL W Hh xs (gx, gy)))]) (.tup [.sl (some (H.length, 0)) ((costL W Hh xs (gx, gy)).length) none, iV 0]) (resT Try.results27) [] rfl [2] (by decide) ⟨rfl, rfl⟩ ?_)
  exact absW
theorem pcs_f (H : AHeap) (W Hh : Int) (pp : AV) (xs : List Int) (gx gy : Int) (hpp : Sl H 1 pp xs.length (ints .u8 xs)) (hv : vldB W Hh xs = true) (hg : isB W Hh xs gx gy 1 = false) : ACalls Try.prog 27 [.agg [iV W, iV Hh, pp], .agg [iV gx, iV gy]] H (fun v H' => v = .tup [.sl none 0 (some 0), iV 7] ∧ H' = H) := by
  obtain ⟨bpp, opp, cpp, rfl, hbpp⟩ := hpp
  have hblpp := getElem?_lt hbpp
  have hb0pp := fun l => get_app (l := l) hbpp
  have hV := vld_iff.1 hv
  refine AcT true Try.func27 ?_; intro hbel Q hQ
  have g'4 := (jn @hbpp @hb0pp)
  refine runTf g'4 ?_
  refine cv (valid_a _ W Hh _ xs (.inr ⟨_, _, _, rfl, by first | exact hb0pp _ | exact hbpp⟩)) ?_
  refine rcs g'4 (fun h1 h1d _ => ?_) (fun h1 h1d g'5 => ?_)
  · rw [hv] at h1d; cases h1d
  refine runTf g'5 ?_
  refine cv (pfree_c _ W _ _ xs _ _ (⟨_, _, _, rfl, by first | exact hb0pp _ | exact hbpp⟩) hV) ?_
  refine rcs g'5 (fun h2 h2d g'6 => ?_) (fun h2 h2d _ => ?_)
  · exact eR g'6 hQ hbel (.tup [.sl none 0 (some 0), iV 7]) Try.results27 ⟨rfl, rfl⟩
  rw [hg] at h2d; cases h2d
theorem pcs_n (H : AHeap) (W Hh : Int) (pp : AV) (xs : List Int) (gx gy : Int) (hpp : Sl H 1 pp xs.length (ints .u8 xs)) (hv : vldB W Hh xs = false) : ACalls Try.prog 27 [.agg [iV W, iV Hh, pp], .agg [iV gx, iV gy]] H (fun v H' => v = .tup [.sl none 0 (some 0), iV 1] ∧ H' = H) := by
  obtain ⟨bpp, opp, cpp, rfl, hbpp⟩ := hpp
  have hblpp := getElem?_lt hbpp
  have hb0pp := fun l => get_app (l := l) hbpp
  refine AcT true Try.func27 ?_; intro hbel Q hQ
  have g'7 := (jn @hbpp @hb0pp)
  refine runTf g'7 ?_
  refine cv (valid_a _ W Hh _ xs (.inr ⟨_, _, _, rfl, by first | exact hb0pp _ | exact hbpp⟩)) ?_
  refine rcs g'7 (fun h1 h1d g'8 => ?_) (fun h1 h1d _ => ?_)
  · exact eR g'8 hQ hbel (.tup [.sl none 0 (some 0), iV 1]) Try.results27 ⟨rfl, rfl⟩
  rw [hv] at h1d; cases h1d
theorem IsI.parts {H : AHeap} {k : IntKind} {s : AV} {l : List Int} (h : IsI H k s l) : ∃ a c, s = .sl a l.length c := by
  rcases h with ⟨rfl, rfl⟩ | ⟨b, own, cap, rfl, hb⟩
  · exact ⟨_, _, rfl⟩
  exact ⟨_, _, rfl⟩
theorem IsI.pos {H : AHeap} {k : IntKind} {a : Option (Nat × Nat)} {c : Option Nat} {n : Nat} {l : List Int} (h : IsI H k (.sl a n c) l) (h0 : 0 < l.length) : ∃ b own, a = some (b, 0) ∧ n = l.length ∧ H[b]? = some (.cells own 1 (ints k l)) := by
  rcases h with ⟨rfl, h⟩ | ⟨b, own, cap, h, hb⟩
  · simp at h0
  injection h with h1 h2 h3
  exact ⟨b, own, h1, h2, hb⟩
theorem end_drop {P : Program} {fn : Func} {H G l1 : AHeap} {R : AV → AHeap → Prop} {F : Fr} {ex : Exit} (he : ex = .ret ∨ ex = .normal) (hpre : ∃ Y, G = H ++ Y) (hbel : HBel H.length H) (k : Nat) {n : Nat} {c : Option Nat} {z : Int} {o : Bool} {es : Nat} {xs : List AV}
    (hx : aResult P fn F (G ++ l1) = some (.tup [.sl (some (G.length + k, 0)) n c, .int .i64 z])) (hk : l1[k]? = some (.cells o es xs)) (hmv : ∀ σ : Nat → Nat, AV.mvs σ xs = xs)
    (hR : R (.tup [.sl (some (H.length, 0)) n c, .int .i64 z]) (H ++ [.cells o es xs])) : AEnd P fn H.length R ex F (G ++ l1) := by
  obtain ⟨Y, rfl⟩ := hpre
  have hg : (Y ++ l1)[Y.length + k]? = some (.cells o es xs) := by
    rw [List.getElem?_append_right (by omega), Nat.add_sub_cancel_left]; exact hk
  rw [List.append_assoc] at hx ⊢
  refine end_byG he hbel (.tup [.sl (some (H.length, 0)) n c, .int .i64 z]) hx [] rfl [Y.length + k] (List.pairwise_singleton _ _) hR ⟨?_, ?_⟩
  · have hs : sig H.length ((Y ++ l1) ++ []).length [Y.length + k] H.length = H.length + (Y.length + k) := by rw [sig_new0]; rfl
    have e : (AV.tup [.sl (some (H.length, 0)) n c, .int .i64 z]).mv (sig H.length ((Y ++ l1) ++ []).length [Y.length + k]) = .tup [.sl (some ((H ++ Y).length + k, 0)) n c, .int .i64 z] := by
      simp only [AV.mv, AV.mvs]
      rw [hs, List.length_append, Nat.add_assoc]
    rw [e]; exact W.refl _
  refine ⟨.inr (.inl ?_), trivial⟩
  rw [List.append_nil, hg]
  simp only [ABlk.mv, hmv]
theorem bst_y {L : List Int} {W : Int} {c : List Pt} {m : Nat} (h1 : 0 ≤ lv L W (gp c m)) (h2 : (bstS L W c m).2.2 < 0 ∨ lv L W (gp c m) < (bstS L W c m).2.2) : bstS L W c (m + 1) = (g1 c m, g2 c m, lv L W (gp c m)) := if_pos ⟨h1, h2⟩
theorem bst_n {L : List Int} {W : Int} {c : List Pt} {m : Nat} (h : ¬ (0 ≤ lv L W (gp c m) ∧ ((bstS L W c m).2.2 < 0 ∨ lv L W (gp c m) < (bstS L W c m).2.2))) : bstS L W c (m + 1) = bstS L W c m := if_neg h
/-- The goals of a plan. -/
noncomputable def golF (W H : Int) (xs : List Int) (gx gy : Int) : List T4 := golI (costL W H xs (gx, gy)) W (cluL (froL W H xs)) (cluL (froL W H xs)).length
theorem pcs_L (H : AHeap) (L : List Int) {W Hh gx gy : Int} {xs : List Int} (hL : costL W Hh xs (gx, gy) = L) (W' Hh' : Int) (s : AV) (xs' : List Int) (gx' gy' : Int) (hs : Sl H 1 s xs'.length (ints .u8 xs')) (hv : vldB W' Hh' xs' = true) (hg : isB W' Hh' xs' gx' gy' 1 = true) (e : (W, Hh, xs, gx, gy) = (W', Hh', xs', gx', gy') := by rfl) :
    ACalls Try.prog 27 [.agg [iV W', iV Hh', s], .agg [iV gx', iV gy']] H (fun v H' => v = .tup [.sl (some (H.length, 0)) L.length none, iV 0] ∧ H' = H ++ [.cells true 1 (ints .i64 L)]) := by
  simp only [Prod.mk.injEq] at e
  obtain ⟨rfl, rfl, rfl, rfl, rfl⟩ := e
  subst hL; exact pcs_y H W Hh s xs gx gy hs hv hg
theorem gols_n (H : AHeap) (W Hh : Int) (pp : AV) (xs : List Int) (gx gy : Int) (hpp : Sl H 1 pp xs.length (ints .u8 xs)) (hv : vldB W Hh xs = false) : ACalls Try.prog 14 [.agg [iV W, iV Hh, pp], .agg [iV gx, iV gy]] H (fun v H' => v = .tup [.sl none 0 (some 0), iV 1] ∧ H' = H) := by
  obtain ⟨bpp, opp, cpp, rfl, hbpp⟩ := hpp
  have hblpp := getElem?_lt hbpp
  have hb0pp := fun l => get_app (l := l) hbpp
  refine AcT true Try.func14 ?_; intro hbel Q hQ
  have g'1 := (jn @hbpp @hb0pp)
  refine runTf g'1 ?_
  rcases Bool.eq_false_or_eq_true (vldB W Hh xs) with h1 | h1
  · have h1d := h1
    rw [hv] at h1d; cases h1d
  have h1d := h1
  refine cv (pcs_n _ W _ _ xs _ _ (⟨_, _, _, rfl, by first | exact hb0pp _ | exact hbpp⟩) (by assumption)) ?_
  have g'2 := j2 h1 h1d g'1
  exact eR g'2 hQ hbel (.tup [.sl none 0 (some 0), iV 1]) Try.results14 ⟨rfl, rfl⟩
theorem gols_f (H : AHeap) (W Hh : Int) (pp : AV) (xs : List Int) (gx gy : Int) (hpp : Sl H 1 pp xs.length (ints .u8 xs)) (hv : vldB W Hh xs = true) (hg : isB W Hh xs gx gy 1 = false) : ACalls Try.prog 14 [.agg [iV W, iV Hh, pp], .agg [iV gx, iV gy]] H (fun v H' => v = .tup [.sl none 0 (some 0), iV 7] ∧ H' = H) := by
  obtain ⟨bpp, opp, cpp, rfl, hbpp⟩ := hpp
  have hblpp := getElem?_lt hbpp
  have hb0pp := fun l => get_app (l := l) hbpp
  refine AcT true Try.func14 ?_; intro hbel Q hQ
  have g'3 := (jn @hbpp @hb0pp)
  refine runTf g'3 ?_
  rcases Bool.eq_false_or_eq_true (vldB W Hh xs) with h1 | h1
  · have h1d := h1
    rcases Bool.eq_false_or_eq_true (isB W Hh xs gx gy 1) with h2 | h2
    · have h2d := h2
      rw [hg] at h2d; cases h2d
    have h2d := h2
    refine cv (pcs_f _ W _ _ xs _ _ (⟨_, _, _, rfl, by first | exact hb0pp _ | exact hbpp⟩) (by assumption) (by assumption)) ?_
    have g'4 := (jn h1 (jn h1d (j2 h2 h2d g'3)))
    exact eR g'4 hQ hbel (.tup [.sl none 0 (some 0), iV 7]) Try.results14 ⟨rfl, rfl⟩
  have h1d := h1
  rw [hv] at h1d; cases h1d
theorem gols_y (H : AHeap) (A : List (Int × Int)) (CS : List (List (Int × Int))) (L : List Int) (W Hh : Int) (pp : AV) (xs : List Int) (gx gy : Int) (hpp : Sl H 1 pp xs.length (ints .u8 xs)) (hv : vldB W Hh xs = true) (hg : isB W Hh xs gx gy 1 = true) (hA : froL W Hh xs = A) (hCS : cluL A = CS) (hL : costL W Hh xs (gx, gy) = L) (hLl : L.length = xs.length) : ACalls Try.prog 14 [.agg [iV W, iV Hh, pp], .agg [iV gx, iV gy]] H (fun v H' => v = .tup [.sl (some (H.length, 0)) ((golI L W CS CS.length).length) (capG (golI L W CS CS.length).length), iV 0] ∧ H' = H ++ [.cells (ownG (golI L W CS CS.length).length) 4 (r4 (golI L W CS CS.length))]) := by
  obtain ⟨bpp, opp, cpp, rfl, hbpp⟩ := hpp
  have hblpp := getElem?_lt hbpp
  have hb0pp := fun l => get_app (l := l) hbpp
  have hV := vld_iff.1 hv
  have hAb : ∀ p ∈ A, (0 ≤ p.1 ∧ p.1 < 64) ∧ 0 ≤ p.2 ∧ p.2 < 64 := hA ▸ fro_bd hV
  have hAi : ∀ p ∈ A, inB W Hh p.1 p.2 = true := hA ▸ fun p hp => inB_iff.2 (by have := (gridP_mem _ _ _ p).1 hp; have := hV.w0; have := hV.h0; omega)
  have hAn : A.Nodup := hA ▸ fro_nodup
  have hAl : A.length ≤ 4096 := hA ▸ fro_len hV
  have hC : CluP A CS := hCS ▸ cluL_ok hAn
  have hCl := hC.len
  refine AcT true Try.func14 ?_; intro hbel Q hQ
  have h0bel := hbel
  have g'5 := (jn @hbpp @hb0pp)
  refine runTf g'5 ?_
  rcases Bool.eq_false_or_eq_true (vldB W Hh xs) with h1 | h1
  · have h1d := h1
    rcases Bool.eq_false_or_eq_true (isB W Hh xs gx gy 1) with h2 | h2
    · have h2d := h2
      refine cv (pcs_L _ L hL W Hh _ xs gx gy (⟨_, _, _, rfl, by first | exact hb0pp _ | exact hbpp⟩) hv hg) ?_
      have g'6 := (jn h1 (jn h1d (j2 h2 h2d g'5)))
      refine runTf g'6 ?_
      obtain ⟨n_c, hn_c⟩ : ∃ n, n = (H ++ ([.cells true 0 [iV W, iV Hh, .sl (some (bpp, 0)) xs.length cpp], .cells true 0 [iV gx, iV gy], .cells true 1 (ints .i64 L)] : AHeap)).length := ⟨_, rfl⟩
      refine call_of (by kernel_rfl) (clus_k _ A n_c W Hh _ xs CS (⟨_, _, _, rfl, by first | exact hb0pp _ | exact hbpp⟩) (by assumption) hA hn_c hCS) ?_
      rintro _ _ ⟨X_c, hXg_c, hXe_c, rfl, rfl⟩
      obtain ⟨G_c, hG_c⟩ : ∃ G, G = H ++ (([.cells true 0 [iV W, iV Hh, .sl (some (bpp, 0)) xs.length cpp], .cells true 0 [iV gx, iV gy], .cells true 1 (ints .i64 L)] : AHeap) ++ (X_c ++ [.cells (ownG CS.length) 1 (slr n_c CS)])) := ⟨_, rfl⟩
      have hGe_c : ((H ++ ([.cells true 0 [iV W, iV Hh, .sl (some (bpp, 0)) xs.length cpp], .cells true 0 [iV gx, iV gy], .cells true 1 (ints .i64 L)] : AHeap)) ++ X_c) ++ [.cells (ownG CS.length) 1 (slr n_c CS)] = G_c := by rw [hG_c]; simp only [List.append_assoc]
      obtain ⟨br_c, hbr_c⟩ : ∃ b, b = ((H ++ ([.cells true 0 [iV W, iV Hh, .sl (some (bpp, 0)) xs.length cpp], .cells true 0 [iV gx, iV gy], .cells true 1 (ints .i64 L)] : AHeap)) ++ X_c).length := ⟨_, rfl⟩
      rw [← hbr_c, hGe_c]
      have hlX_c : n_c + X_c.length = br_c := by rw [hbr_c, hn_c]; exact List.length_append.symm
      have hlG_c : G_c.length = br_c + 1 := by rw [← hGe_c, List.length_append, ← hbr_c]; rfl
      have hlN_c : n_c = H.length + 3 := by rw [hn_c, List.length_append]; rfl
      have hlen_c := (by rw [hXe_c, List.length_map] at hlX_c; exact hlX_c : n_c + CS.length = br_c)
      have hXb_c : ∀ x ∈ ([.cells true 0 [iV W, iV Hh, .sl (some (bpp, 0)) xs.length cpp], .cells true 0 [iV gx, iV gy], .cells true 1 (ints .i64 L)] : AHeap) ++ (X_c ++ [.cells (ownG CS.length) 1 (slr n_c CS)]), ABlk.bel G_c.length x = true := by
        intro x hx
        rcases List.mem_append.1 hx with hx | hx
        · simp only [List.mem_cons, List.not_mem_nil, or_false] at hx
          rcases hx with rfl | rfl | rfl <;> simp only [ABlk.bel, AV.bels, AV.bel, bels_prs, bels_ints, Bool.and_true, Bool.true_and, decide_eq_true_eq] <;> omega
        rcases List.mem_append.1 hx with hx | hx
        · exact ABlk.bel_up (by rw [List.length_append, ← hn_c]; omega) (hXg_c x hx)
        rw [List.mem_singleton.1 hx]; exact bels_slr (by omega)
      have hbel_c := hbel_grow hG_c hbel hXb_c
      have hbpp_c := grow1 hG_c hb0pp
      have hblpp_c := getElem?_lt hbpp_c
      have hb0pp_c := fun l => get_app (l := l) hbpp_c
      have hpre_c : ∃ X, G_c = H ++ X := ⟨_, hG_c⟩
      have hle_c := pre_le hpre_c
      have hbE_c0_c : G_c[H.length]? = some (.cells true 0 [iV W, iV Hh, .sl (some (bpp, 0)) xs.length cpp]) := by rw [hG_c, List.getElem?_append_right (by omega), Nat.sub_self]; rfl
      have hblE_c0_c := getElem?_lt hbE_c0_c
      have hb0E_c0_c := fun l => get_app (l := l) hbE_c0_c
      have hbE_c1_c : G_c[H.length + 1]? = some (.cells true 0 [iV gx, iV gy]) := by rw [hG_c, List.getElem?_append_right (by omega), Nat.add_sub_cancel_left]; rfl
      have hblE_c1_c := getElem?_lt hbE_c1_c
      have hb0E_c1_c := fun l => get_app (l := l) hbE_c1_c
      have hbE_c2_c : G_c[H.length + 2]? = some (.cells true 1 (ints .i64 L)) := by rw [hG_c, List.getElem?_append_right (by omega), Nat.add_sub_cancel_left]; rfl
      have hblE_c2_c := getElem?_lt hbE_c2_c
      have hb0E_c2_c := fun l => get_app (l := l) hbE_c2_c
      have hbR_c_c : G_c[br_c]? = some (.cells (ownG CS.length) 1 (slr n_c CS)) := by rw [← hGe_c, hbr_c, List.getElem?_append_right (Nat.le_refl _), Nat.sub_self]; rfl
      have hblR_c_c := getElem?_lt hbR_c_c
      have hb0R_c_c := fun l => get_app (l := l) hbR_c_c
      have hcl_c := grow_at hG_c hXe_c hn_c
      have hcl0_c : ∀ i (l : AHeap), i < CS.length → (G_c ++ l)[n_c + i]? = some (.cells true 2 (prs (gc CS i))) := fun i l hi => get_app (l := l) (hcl_c i hi)
      have g'7 := (jn @hbpp_c (jn @hb0pp_c (jn h1 (jn h1d (jn h2 (jn h2d (jn @hbE_c0_c (jn @hb0E_c0_c (jn @hbE_c1_c (jn @hb0E_c1_c (jn @hbE_c2_c (jn @hb0E_c2_c (jn @hbR_c_c (jn @hb0R_c_c (jn @hcl_c (jn @hcl0_c (jn @slr_len @slr_ones)))))))))))))))))
      refine runTf g'7 ?_
      refine glp (fun k F Hx => ∃ i : Nat, i + k = CS.length ∧ F = [(2, .ptr (some (H.length, 0))), (6, .sl (some (H.length + 2, 0)) L.length none), (10, .sl (some (G_c.length, 0)) ((golS L W CS i).length) (capG (golS L W CS i).length)), (31, .sl (some (br_c, 0)) CS.length (capG CS.length)), (32, iV ((CS.length : Nat) : Int)), (33, iV ((i : Nat) : Int))] ∧ Hx = G_c ++ [.cells (ownG (golS L W CS i).length) 4 (r4 (golS L W CS i))]) (CS.length) ?_ ?_
      · refine ⟨_, _, _, ⟨0, by omega, rfl, rfl⟩, (Abs.byE hbel_c [.cells false 4 []] rfl [0] (by decide) ?_).le hle_c⟩
        exact absRf (jn @golS.eq_1 (jn @r4_append (jn @r4_cons (jn @r4_nil @mvs_r4))))
      rintro k0 F Hx ⟨i, hm0, rfl, rfl⟩ J0 hJ0
      have hgl0 := golS_len (L := L) (W := W) (CS := CS) i
      have g'8 := (jn @r4_len (jn @r4_one g'7))
      refine rcs g'8 (fun h3 h3d _ => ?_) (fun h3 h3d g'20 => ?_)
      · have hlt : i < CS.length := by omega
        have hgl := hC.le i hlt
        have q4 := slr_get (n := n_c) (cs := CS) (i := i) (by omega)
        have g'9 := (jn h3 (jn h3d (jn q4 g'8)))
        refine runTf g'9 ?_
        refine glp (fun k F Hx => ∃ m : Nat, m + k = (gc CS i).length ∧ F = [(2, .ptr (some (H.length, 0))), (6, .sl (some (H.length + 2, 0)) L.length none), (10, .sl (some (G_c.length, 0)) ((golS L W CS i).length) (capG (golS L W CS i).length)), (13, .ptr (some (G_c.length + 1, 0))), (31, .sl (some (br_c, 0)) CS.length (capG CS.length)), (32, iV ((CS.length : Nat) : Int)), (33, iV ((i : Nat) : Int)), (40, .sl (some (n_c + i, 0)) ((gc CS i).length) none), (41, iV (((gc CS i).length : Nat) : Int)), (42, iV ((m : Nat) : Int))] ∧ Hx = G_c ++ [.cells (ownG (golS L W CS i).length) 4 (r4 (golS L W CS i)), .cells true 0 [iV ((bstS L W (gc CS i) m).1), iV ((bstS L W (gc CS i) m).2.1), iV ((bstS L W (gc CS i) m).2.2), iV (((gc CS i).length : Nat) : Int)]]) ((gc CS i).length) ?_ ?_
        · refine ⟨_, _, _, ⟨0, by omega, rfl, rfl⟩, (Abs.byG hbel_c [] rfl [0, 1] (by decide) ?_).le hle_c⟩
          exact absRf (jn @bstS.eq_1 (jn @r4_append (jn @r4_cons (jn @r4_nil @mvs_r4))))
        rintro k1 F Hx ⟨m, hm1, rfl, rfl⟩ J1 hJ1
        refine rcs g'9 (fun h5 h5d _ => ?_) (fun h5 h5d g'17 => ?_)
        · have hlm : m < (gc CS i).length := by omega
          have hmA : (g1 (gc CS i) m, g2 (gc CS i) m) ∈ A := hC.mem i m hlt hlm
          have hin := hAi _ hmA
          have hib := hV.idx (show inB W Hh (g1 (gc CS i) m) (g2 (gc CS i) m) = true from hin)
          have hcb := hAb _ hmA
          simp only at hcb
          have q6 := prs_load (l := gc CS i) (j := m) (by omega)
          have q7 := ints_get (k := .i64) (xs := L) (j := (((g2 (gc CS i) m) * W) + (g1 (gc CS i) m)).toNat) (by omega)
          have g'10 := (jn h5 (jn h5d (jn q6 (jn q7 g'9))))
          refine rgs g'10 (fun h8 h8d g'11 => ?_) (fun h8 h8d g'16 => ?_)
          · have hn0 : 0 ≤ lv L W (gp (gc CS i) m) := h8d
            refine rgs g'11 (fun h9 h9d g'12 => ?_) (fun h9 h9d g'15 => ?_)
            · have hng := h9d
              refine rcs g'12 (fun h10 h10d g'13 => ?_) (fun h10 h10d g'14 => ?_)
              · have hby := bst_y hn0 (.inr h10d)
                refine runTf g'13 ?_
                refine hJ1 _ _ ⟨k1 - 1, by omega, _, _, _, ⟨m + 1, by omega, rfl, rfl⟩, (Abs.byG hbel_c [] rfl [0, 1] (by decide) ?_).le hle_c⟩
                exact absRf (jn @hby (jn @r4_append (jn @r4_cons (jn @r4_nil @mvs_r4))))
              have hbn := bst_n (L := L) (W := W) (c := gc CS i) (m := m) (fun q => q.2.elim hng h10d)
              refine runTf g'14 ?_
              refine hJ1 _ _ ⟨k1 - 1, by omega, _, _, _, ⟨m + 1, by omega, rfl, rfl⟩, (Abs.byG hbel_c [] rfl [0, 1] (by decide) ?_).le hle_c⟩
              exact absRf (jn @hbn (jn @r4_append (jn @r4_cons (jn @r4_nil @mvs_r4))))
            have hby := bst_y hn0 (.inl h9d)
            refine runTf g'15 ?_
            refine hJ1 _ _ ⟨k1 - 1, by omega, _, _, _, ⟨m + 1, by omega, rfl, rfl⟩, (Abs.byG hbel_c [] rfl [0, 1] (by decide) ?_).le hle_c⟩
            exact absRf (jn @hby (jn @r4_append (jn @r4_cons (jn @r4_nil @mvs_r4))))
          have hbn := bst_n (L := L) (W := W) (c := gc CS i) (m := m) (fun q => h8d q.1)
          refine runTf g'16 ?_
          refine hJ1 _ _ ⟨k1 - 1, by omega, _, _, _, ⟨m + 1, by omega, rfl, rfl⟩, (Abs.byG hbel_c [] rfl [0, 1] (by decide) ?_).le hle_c⟩
          exact absRf (jn @hbn (jn @r4_append (jn @r4_cons (jn @r4_nil @mvs_r4))))
        obtain rfl : m = (gc CS i).length := by omega
        refine rcs g'17 (fun h11 h11d _ => ?_) (fun h11 h11d g'19 => ?_)
        · have g'18 := (jn h11 (jn h11d (jn @prs_len (jn @capG_s g'17))))
          refine runTf g'18 ?_
          have hgs : golS L W CS (i + 1) = golS L W CS i ++ [((bstS L W (gc CS i) (gc CS i).length).1, (bstS L W (gc CS i) (gc CS i).length).2.1, (bstS L W (gc CS i) (gc CS i).length).2.2, (((gc CS i).length : Nat) : Int))] := if_pos (by assumption)
          refine hJ0 _ _ ⟨k0 - 1, by omega, _, _, _, ⟨i + 1, by omega, rfl, rfl⟩, (Abs.byG hbel_c [] rfl [3] (by decide) ?_).le hle_c⟩
          exact absRf (jn @hgs (jn @r4_append (jn @r4_cons (jn @r4_nil @mvs_r4))))
        refine runTf g'19 ?_
        have hgs : golS L W CS (i + 1) = golS L W CS i := if_neg (by assumption)
        refine hJ0 _ _ ⟨k0 - 1, by omega, _, _, _, ⟨i + 1, by omega, rfl, rfl⟩, (Abs.byG hbel_c [] rfl [0] (by decide) ?_).le hle_c⟩
        exact absRf (jn @hgs (jn @r4_append (jn @r4_cons (jn @r4_nil @mvs_r4))))
      obtain rfl : i = CS.length := by omega
      have hpl : (golI L W CS CS.length).length = (golS L W CS CS.length).length := (golI_perm _).length_eq
      refine runTf g'20 ?_
      refine cvr g'20 (srtg_k _ _ _ (golI L W CS CS.length) (by first | rfl | (rw [get_newk]; rfl) | (rw [get_new0]; rfl)) (by omega) (golI_sorted hC (Nat.le_refl _)) (golI_perm _)) ?_
      exact hQ _ _ (end_drop (n := (golS L W CS CS.length).length) (c := (capG (golS L W CS CS.length).length)) (z := 0) (.inl rfl) hpre_c h0bel 0 (resT Try.results14) rfl (fun _ => mvs_r4) ⟨by rw [hpl], by rw [hpl]⟩)
    have h2d := h2
    rw [hg] at h2d; cases h2d
  have h1d := h1
  rw [hv] at h1d; cases h1d
/-- What is left to improve: each unknown cost counts B. -/
def pot (B : Nat) : List Int → Nat
  | [] => 0
  | x :: r => (if x < 0 then B else x.toNat) + pot B r
theorem pot_set {B : Nat} : ∀ {L : List Int} {i : Nat} {v : Int}, i < L.length → 0 ≤ v → v < B → (gi L i < 0 ∨ v < gi L i) → pot B (L.set i v) < pot B L
  | [], i, _, h, _, _, _ => by simp at h
  | x :: r, 0, v, _, h0, hB, h => by
    have e : gi (x :: r) 0 = x := rfl
    rw [e] at h
    simp only [List.set_cons_zero, pot]
    rw [if_neg (show ¬ v < 0 by omega)]
    split <;> omega
  | x :: r, i + 1, v, hl, h0, hB, h => by
    have e : gi (x :: r) (i + 1) = gi r i := rfl
    rw [e] at h
    have := pot_set (L := r) (i := i) (v := v) (by simpa using hl) h0 hB h
    simp only [List.set_cons_succ, pot]; omega
section
variable (W H : Int) (xs : List Int) (goal : Pt)
/-- Where the improving stands: Q the cells whose steps are to be looked at, v the cell whose steps below q have been looked at. -/
structure Rlx (L : List Int) (Q : List Pt) (v : Pt) (q : Nat) : Prop where
  gin : inB W H goal.1 goal.2 = true
  len : (L.length : Int) = W * H
  neg : ∀ i, i < L.length → gi L i < 0 → gi L i = -1
  gl : lv L W goal = 0
  frm : ∀ c : Pt, inB W H c.1 c.2 = true → 0 ≤ lv L W c → isB W H xs c.1 c.2 1 = true ∧ (c = goal ∨ ∃ b k, k < 8 ∧ to b k = c ∧ 0 ≤ stk W H xs b k ∧ 0 ≤ lv L W b ∧ lv L W b + stk W H xs b k ≤ lv L W c)
  out : ∀ (c : Pt) k, k < 8 → 0 ≤ stk W H xs c k → 0 ≤ lv L W c → c ∈ Q ∨ (c = v ∧ q ≤ k) ∨ (0 ≤ lv L W (to c k) ∧ lv L W (to c k) ≤ lv L W c + stk W H xs c k)
  qin : ∀ c ∈ Q, isB W H xs c.1 c.2 1 = true ∧ 0 ≤ lv L W c
  bd : ∀ c : Pt, inB W H c.1 c.2 = true → 0 ≤ lv L W c → lv L W c + 99 ≤ 99 * (nd L : Int)
variable {W H xs goal}
theorem nd_setle : ∀ {L : List Int} {i : Nat} {v : Int}, i < L.length → 0 ≤ gi L i → 0 ≤ v → nd (L.set i v) = nd L
  | [], i, _, h, _, _ => by simp at h
  | x :: r, 0, v, _, h1, h2 => by
    have e : gi (x :: r) 0 = x := rfl
    rw [e] at h1
    simp only [List.set_cons_zero, nd]
    rw [if_pos h2, if_pos h1]
  | x :: r, i + 1, v, h, h1, h2 => by
    have e : gi (x :: r) (i + 1) = gi r i := rfl
    rw [e] at h1
    have := nd_setle (L := r) (i := i) (v := v) (by simpa using h) h1 h2
    simp only [List.set_cons_succ, nd, this]
theorem rlx0 {n : Nat} (hn : (n : Int) = W * H) (hg : isB W H xs goal.1 goal.2 1 = true) (v : Pt) : Rlx W H xs goal ((List.replicate n (-1)).set (ixc W goal) 0) [goal] v 8 := by
  have hgi := isB_in hg
  have hi := idx_bd hgi
  have hl : ((List.replicate n (-1 : Int)).length : Int) = W * H := by rw [List.length_replicate]; exact hn
  have hlt : ixc W goal < (List.replicate n (-1 : Int)).length := by unfold ixc; omega
  have key := fun (c : Pt) (hc : inB W H c.1 c.2 = true) => lv_set (x := 0) hl hgi hc
  have only : ∀ c : Pt, inB W H c.1 c.2 = true → 0 ≤ lv ((List.replicate n (-1)).set (ixc W goal) 0) W c → c = goal := fun c hc h => by
    rw [key c hc] at h
    refine Classical.byContradiction fun q => ?_
    rw [if_neg (fun e => q e.symm), lv_rep hn hc] at h
    omega
  have hg0 : lv ((List.replicate n (-1)).set (ixc W goal) 0) W goal = 0 := by rw [key goal hgi, if_pos rfl]
  have hnd : nd ((List.replicate n (-1 : Int)).set (ixc W goal) 0) = 1 := by
    rw [nd_set hlt (by rw [gi_rep (by rwa [List.length_replicate] at hlt)]; decide) (Int.le_refl _), nd_rep]
  refine ⟨hgi, by rw [List.length_set]; exact hl, fun i hi hneg => ?_, hg0, fun c hc h => ?_, fun c k hk hs h => .inl ?_, fun c hc => ?_, fun c hc h => ?_⟩
  · rw [List.length_set] at hi
    rw [gi_setC hlt] at hneg ⊢
    split at hneg
    · omega
    rename_i q; rw [if_neg q]; exact gi_rep (by rwa [List.length_replicate] at hi)
  · rw [only c hc h]; exact ⟨hg, .inl rfl⟩
  · rw [only c (stk_in hs).1 h]; exact List.mem_singleton.2 rfl
  · rw [List.mem_singleton.1 hc]; exact ⟨hg, by rw [hg0]; exact Int.le_refl _⟩
  rw [only c hc h, hg0, hnd]; decide
/-- The next cell of the list. -/
theorem rlx_pop {L : List Int} {Q : List Pt} {v c : Pt} (D : Rlx W H xs goal L (c :: Q) v 8) : Rlx W H xs goal L Q c 0 := by
  refine ⟨D.gin, D.len, D.neg, D.gl, D.frm, fun d k hk hs h => ?_, fun d hd => D.qin d (List.mem_cons_of_mem _ hd), D.bd⟩
  rcases D.out d k hk hs h with q | q | q
  · rcases List.mem_cons.1 q with r | r
    · exact .inr (.inl ⟨r, Nat.zero_le _⟩)
    exact .inl r
  · omega
  exact .inr (.inr q)
theorem rlx_skip {L : List Int} {Q : List Pt} {v : Pt} {q : Nat} (D : Rlx W H xs goal L Q v q) (h : 0 ≤ stk W H xs v q → 0 ≤ lv L W (to v q) ∧ lv L W (to v q) ≤ lv L W v + stk W H xs v q) : Rlx W H xs goal L Q v (q + 1) := by
  refine ⟨D.gin, D.len, D.neg, D.gl, D.frm, fun d k hk hs hl => ?_, D.qin, D.bd⟩
  rcases D.out d k hk hs hl with r | ⟨r1, r2⟩ | r
  · exact .inl r
  · by_cases e : k = q
    · subst e; subst r1; exact .inr (.inr (h hs))
    exact .inr (.inl ⟨r1, by omega⟩)
  exact .inr (.inr r)
theorem rlx_set {L : List Int} {Q : List Pt} {v : Pt} {q : Nat} (D : Rlx W H xs goal L Q v q) (hq : q < 8) (hv : 0 ≤ lv L W v) (hs : 0 ≤ stk W H xs v q) (hlt : lv L W (to v q) < 0 ∨ lv L W v + stk W H xs v q < lv L W (to v q)) (hne : to v q ≠ v) :
    Rlx W H xs goal (L.set (ixc W (to v q)) (lv L W v + stk W H xs v q)) (Q ++ [to v q]) v (q + 1) := by
  have hvi := (stk_in hs).1
  have hti := (stk_in hs).2.1
  have h99 := (stk_in hs).2.2.1
  have h70 := (stk_in hs).2.2.2
  have hi := idx_bd hti
  have hlx : ixc W (to v q) < L.length := by have := D.len; unfold ixc; omega
  have hgn : to v q ≠ goal := fun e => by rw [e, D.gl] at hlt; omega
  have hbv := D.bd v hvi hv
  generalize hx : lv L W v + stk W H xs v q = x at *
  generalize hT : to v q = T at *
  have key := fun (c : Pt) (hc : inB W H c.1 c.2 = true) => lv_set (x := x) D.len hti hc
  have self : lv (L.set (ixc W T) x) W T = x := by rw [key T hti, if_pos rfl]
  have oth : ∀ c : Pt, inB W H c.1 c.2 = true → T ≠ c → lv (L.set (ixc W T) x) W c = lv L W c := fun c hc h => by rw [key c hc, if_neg h]
  -- a cost that was known stays known, and is not greater
  have less : ∀ c : Pt, inB W H c.1 c.2 = true → 0 ≤ lv L W c → 0 ≤ lv (L.set (ixc W T) x) W c ∧ lv (L.set (ixc W T) x) W c ≤ lv L W c := fun c hc h => by
    by_cases e : T = c
    · subst e; rw [self]; omega
    rw [oth c hc e]; omega
  have hnd : (nd L : Int) ≤ nd (L.set (ixc W T) x) ∧ (lv L W T < 0 → (nd (L.set (ixc W T) x) : Int) = nd L + 1) := by
    by_cases h : gi L (ixc W T) < 0
    · rw [nd_set hlx h (by omega)]; omega
    have h2 : ¬ lv L W T < 0 := h
    rw [nd_setle hlx (by omega) (by omega)]
    exact ⟨Int.le_refl _, fun q => (h2 q).elim⟩
  refine ⟨D.gin, by rw [List.length_set]; exact D.len, fun i hi hneg => ?_, by rw [oth goal D.gin hgn]; exact D.gl, fun c hc h => ?_, fun c k hk hsc hl => ?_, fun c hc => ?_, fun c hc h => ?_⟩
  · rw [List.length_set] at hi
    rw [gi_setC hlx] at hneg ⊢
    split at hneg
    · omega
    rename_i q; rw [if_neg q]; exact D.neg i hi hneg
  · by_cases e : T = c
    · subst e
      refine ⟨by have := (stI_free hs).2.1; rw [← hT]; exact this, .inr ⟨v, q, hq, hT, hs, (less v hvi hv).1, ?_⟩⟩
      rw [self, oth v hvi hne]; omega
    rw [oth c hc e] at h ⊢
    obtain ⟨f1, f2⟩ := D.frm c hc h
    refine ⟨f1, f2.imp id ?_⟩
    rintro ⟨b, k, hk, hb, hsb, hlb, hle⟩
    have := less b (stk_in hsb).1 hlb
    exact ⟨b, k, hk, hb, hsb, this.1, by omega⟩
  · have hci := (stk_in hsc).1
    by_cases e : T = c
    · subst e; exact .inl (List.mem_append.2 (.inr (List.mem_singleton.2 rfl)))
    rw [oth c hci e] at hl ⊢
    rcases D.out c k hk hsc hl with r | ⟨r1, r2⟩ | r
    · exact .inl (List.mem_append.2 (.inl r))
    · by_cases e2 : k = q
      · subst e2; subst r1
        right; right
        rw [hT, self]; omega
      exact .inr (.inl ⟨r1, by omega⟩)
    have := less _ (stk_in hsc).2.1 r.1
    exact .inr (.inr ⟨this.1, by omega⟩)
  · rcases List.mem_append.1 hc with r | r
    · have := D.qin c r
      exact ⟨this.1, (less c (isB_in this.1) this.2).1⟩
    rw [List.mem_singleton.1 r, self]
    exact ⟨by have := (stI_free hs).2.1; rw [← hT]; exact this, by omega⟩
  by_cases e : T = c
  · subst e
    rw [self]
    rcases hlt with r | r
    · have := hnd.2 r; omega
    have := D.bd T hti (by omega); omega
  rw [oth c hc e] at h ⊢
  have := D.bd c hc h; omega
theorem rlx_end {L : List Int} {v : Pt} (D : Rlx W H xs goal L [] v 8) : CostP W H xs goal L := by
  have hout : ∀ (c : Pt) k, k < 8 → 0 ≤ stk W H xs c k → 0 ≤ lv L W c → 0 ≤ lv L W (to c k) ∧ lv L W (to c k) ≤ lv L W c + stk W H xs c k := fun c k hk hs h => by
    rcases D.out c k hk hs h with q | q | q
    · cases q
    · omega
    exact q
  refine ⟨D.len, D.neg, D.gl, hout, fun c hc h => ?_, fun c hc h => (D.frm c hc h).1, fun c hc => ?_⟩
  · rcases (D.frm c hc h).2 with q | ⟨b, k, hk, hb, hs, hl, hle⟩
    · exact .inl q
    have := hout b k hk hs hl
    rw [hb] at this
    exact .inr ⟨b, k, hk, hb, hs, hl, by omega⟩
  by_cases h : 0 ≤ lv L W c
  · have := D.bd c hc h
    have := nd_le L
    omega
  omega
theorem to_ne {v : Pt} {k : Nat} : to v k ≠ v := fun e => by
  have e1 := congrArg Prod.fst e
  have e2 := congrArg Prod.snd e
  unfold to at e1 e2
  simp only at e1 e2
  unfold trn at e1 e2
  split at e1 <;> simp only at e1 e2 <;> omega
end
theorem isS {x : AV} : (some x).isSome = true := rfl
theorem golI_len {L : List Int} {W : Int} {CS : List (List Pt)} (i : Nat) : (golI L W CS i).length ≤ i := by rw [(golI_perm i).length_eq]; exact golS_len i
section
variable {W H : Int} {xs : List Int} {goal : Pt}
theorem rlx_round {B : Nat} {L : List Int} {Q : List Pt} {c : Pt} (hB : 99 * L.length < B) (D : Rlx W H xs goal L Q c 0) (hc : inB W H c.1 c.2 = true) (hv : 0 ≤ lv L W c) : ∀ q : Nat, q ≤ 8 → ∃ (M : List Int) (R : List Pt), Rlx W H xs goal M R c q ∧ 0 ≤ lv M W c ∧ M.length = L.length ∧ 2 * pot B M + R.length ≤ 2 * pot B L + Q.length
  | 0, _ => ⟨L, Q, D, hv, rfl, Nat.le_refl _⟩
  | q + 1, hq => by
    obtain ⟨M, R, D1, h1, h2, h3⟩ := rlx_round hB D hc hv q (by omega)
    by_cases hs : 0 ≤ stk W H xs c q
    · by_cases hk : 0 ≤ lv M W (to c q) ∧ lv M W (to c q) ≤ lv M W c + stk W H xs c q
      · exact ⟨M, R, rlx_skip D1 (fun _ => hk), h1, h2, h3⟩
      have hlt : lv M W (to c q) < 0 ∨ lv M W c + stk W H xs c q < lv M W (to c q) := by omega
      have hti := (stk_in hs).2.1
      have hix := idx_bd hti
      have hbd := D1.bd c hc h1
      have hnd := nd_le M
      have h99 := (stk_in hs).2.2
      have hlx : ixc W (to c q) < M.length := by have := D1.len; unfold ixc; omega
      have hp := pot_set (B := B) (L := M) (i := ixc W (to c q)) (v := lv M W c + stk W H xs c q) hlx (by omega) (by omega) hlt
      refine ⟨_, _, rlx_set D1 (by omega) h1 hs hlt to_ne, ?_, by rw [List.length_set]; exact h2, by rw [List.length_append, List.length_singleton]; omega⟩
      rw [lv_set D1.len hti hc, if_neg to_ne]; exact h1
    exact ⟨M, R, rlx_skip D1 (fun h => absurd h hs), h1, h2, h3⟩
theorem rlx_ex {B : Nat} : ∀ (k : Nat) (L : List Int) (Q : List Pt) (v : Pt), 99 * L.length < B → Rlx W H xs goal L Q v 8 → 2 * pot B L + Q.length ≤ k → ∃ M, CostP W H xs goal M
  | k, L, [], v, _, D, _ => ⟨L, rlx_end D⟩
  | 0, L, c :: Q, v, _, D, h => by simp at h
  | k + 1, L, c :: Q, v, hB, D, h => by
    have hq := D.qin c (List.mem_cons_self ..)
    obtain ⟨M, R, D1, h1, h2, h3⟩ := rlx_round hB (rlx_pop D) (isB_in hq.1) hq.2 8 (Nat.le_refl _)
    exact rlx_ex k M R c (by rw [h2]; exact hB) D1 (by simp only [List.length_cons] at h; omega)
theorem cost_ex {n : Nat} (hn : (n : Int) = W * H) (hg : isB W H xs goal.1 goal.2 1 = true) : ∃ M, CostP W H xs goal M :=
  rlx_ex (B := 99 * n + 1) _ _ _ goal (by rw [List.length_set, List.length_replicate]; omega) (rlx0 hn hg goal) (Nat.le_refl _)
theorem cost_spec {n : Nat} (hn : (n : Int) = W * H) (h0 : 1 ≤ W) (hg : isB W H xs goal.1 goal.2 1 = true) : CostP W H xs goal (costL W H xs goal) := by
  obtain ⟨M, hM⟩ := cost_ex hn hg
  rw [costL_eq h0 (isB_in hg) hM]; exact hM
theorem cost_len {n : Nat} (hn : (n : Int) = W * H) (h0 : 1 ≤ W) (hg : isB W H xs goal.1 goal.2 1 = true) : (costL W H xs goal).length = n := by
  have := (cost_spec hn h0 hg).len
  omega
end
theorem gols_T (H : AHeap) (T : List T4) (W Hh : Int) (s : AV) (xs : List Int) (gx gy : Int) (hs : Sl H 1 s xs.length (ints .u8 xs)) (hv : vldB W Hh xs = true) (hg : isB W Hh xs gx gy 1 = true) (hT : golF W Hh xs gx gy = T) :
    ACalls Try.prog 14 [.agg [iV W, iV Hh, s], .agg [iV gx, iV gy]] H (fun v H' => v = .tup [.sl (some (H.length, 0)) T.length (capG T.length), iV 0] ∧ H' = H ++ [.cells (ownG T.length) 4 (r4 T)]) := by
  subst hT
  exact gols_y H _ _ _ W Hh s xs gx gy hs hv hg rfl rfl rfl (cost_len (vld_iff.1 hv).len (vld_iff.1 hv).w0 (goal := (gx, gy)) hg)
theorem done_y (H : AHeap) (T : List T4) (W Hh : Int) (pp : AV) (xs : List Int) (gx gy : Int) (hpp : Sl H 1 pp xs.length (ints .u8 xs)) (hv : vldB W Hh xs = true) (hg : isB W Hh xs gx gy 1 = true) (hT : golF W Hh xs gx gy = T) : ACalls Try.prog 15 [.agg [iV W, iV Hh, pp], .agg [iV gx, iV gy]] H (fun v H' => v = .tup [.bool (((T.length : Nat) : Int) == 0), iV 0] ∧ H' = H) := by
  obtain ⟨bpp, opp, cpp, rfl, hbpp⟩ := hpp
  have hblpp := getElem?_lt hbpp
  have hb0pp := fun l => get_app (l := l) hbpp
  refine AcT true Try.func15 ?_; intro hbel Q hQ
  have g'1 := (jn @hbpp @hb0pp)
  refine runTf g'1 ?_
  rcases Bool.eq_false_or_eq_true (vldB W Hh xs) with h1 | h1
  · have h1d := h1
    rcases Bool.eq_false_or_eq_true (isB W Hh xs gx gy 1) with h2 | h2
    · have h2d := h2
      refine cv (gols_T _ T W Hh _ xs gx gy (⟨_, _, _, rfl, by first | exact hb0pp _ | exact hbpp⟩) (by assumption) (by assumption) hT) ?_
      have g'2 := (jn h1 (jn h1d (j2 h2 h2d g'1)))
      exact eR g'2 hQ hbel (.tup [.bool (((T.length : Nat) : Int) == 0), iV 0]) Try.results15 ⟨rfl, rfl⟩
    have h2d := h2
    rw [hg] at h2d; cases h2d
  have h1d := h1
  rw [hv] at h1d; cases h1d
theorem done_f (H : AHeap) (W Hh : Int) (pp : AV) (xs : List Int) (gx gy : Int) (hpp : Sl H 1 pp xs.length (ints .u8 xs)) (hv : vldB W Hh xs = true) (hg : isB W Hh xs gx gy 1 = false) : ACalls Try.prog 15 [.agg [iV W, iV Hh, pp], .agg [iV gx, iV gy]] H (fun v H' => v = .tup [.bool false, iV 7] ∧ H' = H) := by
  obtain ⟨bpp, opp, cpp, rfl, hbpp⟩ := hpp
  have hblpp := getElem?_lt hbpp
  have hb0pp := fun l => get_app (l := l) hbpp
  refine AcT true Try.func15 ?_; intro hbel Q hQ
  have g'3 := (jn @hbpp @hb0pp)
  refine runTf g'3 ?_
  rcases Bool.eq_false_or_eq_true (vldB W Hh xs) with h1 | h1
  · have h1d := h1
    rcases Bool.eq_false_or_eq_true (isB W Hh xs gx gy 1) with h2 | h2
    · have h2d := h2
      rw [hg] at h2d; cases h2d
    have h2d := h2
    refine cv (gols_f _ W _ _ xs _ _ (⟨_, _, _, rfl, by first | exact hb0pp _ | exact hbpp⟩) (by assumption) (by assumption)) ?_
    have g'4 := (jn h1 (jn h1d (j2 h2 h2d g'3)))
    exact eR g'4 hQ hbel (.tup [.bool false, iV 7]) Try.results15 ⟨rfl, rfl⟩
  have h1d := h1
  rw [hv] at h1d; cases h1d
theorem done_n (H : AHeap) (W Hh : Int) (pp : AV) (xs : List Int) (gx gy : Int) (hpp : Sl H 1 pp xs.length (ints .u8 xs)) (hv : vldB W Hh xs = false) : ACalls Try.prog 15 [.agg [iV W, iV Hh, pp], .agg [iV gx, iV gy]] H (fun v H' => v = .tup [.bool false, iV 1] ∧ H' = H) := by
  obtain ⟨bpp, opp, cpp, rfl, hbpp⟩ := hpp
  have hblpp := getElem?_lt hbpp
  have hb0pp := fun l => get_app (l := l) hbpp
  refine AcT true Try.func15 ?_; intro hbel Q hQ
  have g'5 := (jn @hbpp @hb0pp)
  refine runTf g'5 ?_
  rcases Bool.eq_false_or_eq_true (vldB W Hh xs) with h1 | h1
  · have h1d := h1
    rw [hv] at h1d; cases h1d
  have h1d := h1
  refine cv (gols_n _ W _ _ xs _ _ (⟨_, _, _, rfl, by first | exact hb0pp _ | exact hbpp⟩) (by assumption)) ?_
  have g'6 := j2 h1 h1d g'5
  exact eR g'6 hQ hbel (.tup [.bool false, iV 1]) Try.results15 ⟨rfl, rfl⟩
def opk (k : Nat) : Nat := (k + 4) % 8
theorem trn_op : ∀ {k : Nat}, k < 8 → trn (opk k) = (0 - (trn k).1, 0 - (trn k).2)
  | 0, _ => rfl
  | 1, _ => rfl
  | 2, _ => rfl
  | 3, _ => rfl
  | 4, _ => rfl
  | 5, _ => rfl
  | 6, _ => rfl
  | 7, _ => rfl
  | k + 8, h => by omega
theorem opk_lt {k : Nat} : opk k < 8 := Nat.mod_lt _ (by omega)
theorem to_op {c : Pt} {k : Nat} (hk : k < 8) : to (to c k) (opk k) = c := by
  unfold to
  rw [trn_op hk]
  exact Prod.ext (by simp only; omega) (by simp only; omega)
theorem stI_sym {W H : Int} {xs : List Int} {x y dx dy : Int} : stI W H xs (x + dx) (y + dy) (0 - dx) (0 - dy) = stI W H xs x y dx dy := by
  unfold stI
  rw [show x + dx + (0 - dx) = x by omega, show y + dy + (0 - dy) = y by omega, Bool.and_comm (isB W H xs (x + dx) (y + dy) 1), Bool.and_comm (isB W H xs x (y + dy) 1)]
  have e : (0 - dx = 0 ∨ 0 - dy = 0) ↔ (dx = 0 ∨ dy = 0) := by omega
  simp only [e]
theorem stk_sym {W H : Int} {xs : List Int} {c : Pt} {k : Nat} (hk : k < 8) : stk W H xs (to c k) (opk k) = stk W H xs c k := by
  unfold stk
  rw [trn_op hk]
  exact stI_sym
section
variable {W H : Int} {xs : List Int} {n : Nat}
/-- One step more. -/
theorem cost_tri {p c : Pt} {k : Nat} {M N : List Int} (hk : k < 8) (hs : 0 ≤ stk W H xs p k) (hc : to p k = c) (hM : CostP W H xs p M) (hN : CostP W H xs c N) : ∀ (m : Nat) (x : Pt), inB W H x.1 x.2 = true → 0 ≤ lv M W x → lv M W x ≤ m → 0 ≤ lv N W x ∧ lv N W x ≤ lv M W x + stk W H xs p k
  | m, x, hx, h0, hm => by
    rcases hM.frm x hx h0 with rfl | ⟨b, j, hj, hb, hsb, hl, e⟩
    · have h1 := hN.edg c (opk k) opk_lt (by rw [← hc, stk_sym hk]; exact hs) (by rw [hN.gl0]; exact Int.le_refl _)
      rw [← hc, to_op hk, stk_sym hk, hc, hN.gl0] at h1
      rw [hM.gl0]; omega
    have h70 := stk_in hsb
    cases m with
    | zero => omega
    | succ m =>
      have ih := cost_tri hk hs hc hM hN m b h70.1 hl (by omega)
      have := hN.edg b j hj hsb ih.1
      rw [hb] at this
      exact ⟨this.1, by omega⟩
theorem cost_half (hn : (n : Int) = W * H) (h0 : 1 ≤ W) {a : Pt} {L : List Int} (ha : inB W H a.1 a.2 = true) (hL : CostP W H xs a L) : ∀ (m : Nat) (c : Pt), inB W H c.1 c.2 = true → 0 ≤ lv L W c → lv L W c ≤ m → ∀ M, CostP W H xs c M → 0 ≤ lv M W a ∧ lv M W a ≤ lv L W c
  | m, c, hc, hl, hm, M, hM => by
    rcases hL.frm c hc hl with rfl | ⟨p, k, hk, hp, hs, hlp, e⟩
    · rw [hM.gl0, hL.gl0]; omega
    have h70 := stk_in hs
    cases m with
    | zero => omega
    | succ m =>
      have hP := cost_spec (goal := p) hn h0 (stI_free hs).1
      have ih := cost_half hn h0 ha hL m p h70.1 hlp (by omega) _ hP
      have := cost_tri hk hs hp hP hM (lv (costL W H xs p) W a).toNat a ha ih.1 (by omega)
      exact ⟨this.1, by omega⟩
/-- It costs the same both ways. -/
theorem cost_sym (hn : (n : Int) = W * H) (h0 : 1 ≤ W) {a b : Pt} (ha : isB W H xs a.1 a.2 1 = true) (hb : isB W H xs b.1 b.2 1 = true) (h : 0 ≤ lv (costL W H xs a) W b) : lv (costL W H xs b) W a = lv (costL W H xs a) W b := by
  have hA := cost_spec (goal := a) hn h0 ha
  have hB := cost_spec (goal := b) hn h0 hb
  have h1 := cost_half hn h0 (isB_in ha) hA (lv (costL W H xs a) W b).toNat b (isB_in hb) h (by omega) _ hB
  have h2 := cost_half hn h0 (isB_in hb) hB (lv (costL W H xs b) W a).toNat a (isB_in ha) h1.1 (by omega) _ hA
  omega
end
/-- From a cell that is not the goal a step leads down. -/
theorem cost_down {W H : Int} {xs : List Int} {g c : Pt} {L : List Int} (hL : CostP W H xs g L) (hc : inB W H c.1 c.2 = true) (h : 0 ≤ lv L W c) (hg : c ≠ g) : ∃ k, k < 8 ∧ 0 ≤ stk W H xs c k ∧ 0 ≤ lv L W (to c k) ∧ lv L W (to c k) + stk W H xs c k = lv L W c := by
  obtain ⟨b, k, hk, hb, hs, hl, e⟩ := (hL.frm c hc h).resolve_left hg
  refine ⟨opk k, opk_lt, by rw [← hb, stk_sym hk]; exact hs, ?_⟩
  rw [← hb, to_op hk, stk_sym hk, hb]
  exact ⟨hl, e.symm⟩
section
variable {L : List Int} {W : Int} {CS : List (List Pt)}
theorem bstS_pos {c : List Pt} : ∀ {m : Nat} (k : Nat), k < m → 0 ≤ lv L W (gp c k) → 0 ≤ (bstS L W c m).2.2
  | 0, k, h, _ => by omega
  | m + 1, k, hk, h0 => by
    unfold bstS
    split
    · rename_i q; exact q.1
    rename_i q
    by_cases e : k = m
    · subst e
      omega
    exact bstS_pos k (by omega) h0
theorem golS_cost : ∀ {i : Nat}, ∀ a ∈ golS L W CS i, 0 ≤ a.2.2.1 ∧ lv L W (a.1, a.2.1) = a.2.2.1
  | 0, a, h => by cases h
  | i + 1, a, h => by
    unfold golS at h
    split at h
    · rename_i q
      rcases List.mem_append.1 h with r | r
      · exact golS_cost a r
      rw [List.mem_singleton.1 r]
      obtain ⟨k, -, h2, h3⟩ := bstS_mem (Nat.le_refl _) q
      refine ⟨q, ?_⟩
      show lv L W ((bstS L W (gc CS i) (gc CS i).length).1, (bstS L W (gc CS i) (gc CS i).length).2.1) = (bstS L W (gc CS i) (gc CS i).length).2.2
      rw [← h2]; exact h3
    exact golS_cost a h
theorem golS_none : ∀ {n : Nat}, golS L W CS n = [] → ∀ j, j < n → ¬ 0 ≤ (bst L W (gc CS j)).2.2.1
  | 0, _, j, h => by omega
  | n + 1, e, j, h => by
    unfold golS at e
    split at e
    · simp at e
    rename_i q
    by_cases x : j = n
    · rw [x]; exact q
    exact golS_none e j (by omega)
end
section
variable {W H gx gy : Int} {xs : List Int}
theorem golF_mem {t : T4} (h : t ∈ golF W H xs gx gy) : froB W H xs t.1 t.2.1 = true ∧ 0 ≤ t.2.2.1 ∧ lv (costL W H xs (gx, gy)) W (t.1, t.2.1) = t.2.2.1 := by
  have h1 := (golI_perm _).mem_iff.1 h
  have hC := cluL_ok (A := froL W H xs) fro_nodup
  obtain ⟨j, k, hj, hk, e⟩ := golS_cell hC (Nat.le_refl _) t h1
  have hm := hC.mem j k hj hk
  rw [e] at hm
  have := (gridP_mem _ _ _ _).1 hm
  exact ⟨this.2.2.2.2, golS_cost t h1⟩
theorem fro_isB {x y : Int} (h : froB W H xs x y = true) : isB W H xs x y 1 = true := by
  unfold froB at h
  exact (Bool.and_eq_true _ _ ▸ h).1
theorem golF_nil (h : golF W H xs gx gy = []) {x y : Int} (hf : froB W H xs x y = true) : ¬ 0 ≤ lv (costL W H xs (gx, gy)) W (x, y) := fun h0 => by
  have hp := golI_perm (L := costL W H xs (gx, gy)) (W := W) (CS := cluL (froL W H xs)) (cluL (froL W H xs)).length
  have h1 : golS (costL W H xs (gx, gy)) W (cluL (froL W H xs)) (cluL (froL W H xs)).length = [] := by
    unfold golF at h
    rw [h] at hp; exact hp.nil_eq.symm
  have hC := cluL_ok (A := froL W H xs) fro_nodup
  have hb := inB_iff.1 (isB_in (fro_isB hf))
  have hm : (x, y) ∈ froL W H xs := (gridP_mem _ _ _ _).2 ⟨hb.1, by simp only; omega, hb.2.2.1, by simp only; omega, hf⟩
  obtain ⟨c, hc, hxc⟩ := List.mem_flatten.1 (hC.perm.mem_iff.2 hm)
  obtain ⟨j, hj, ej⟩ := List.getElem_of_mem hc
  obtain ⟨k, hk, ek⟩ := List.getElem_of_mem hxc
  have hg : gc (cluL (froL W H xs)) j = c := by rw [gc_lt hj]; exact ej
  refine golS_none h1 j hj (bstS_pos (m := _) k (by rw [hg]; exact hk) ?_)
  rw [hg, gp_eq hk, ek]; exact h0
theorem golF_find (hV : Vld W H xs) (hg : isB W H xs gx gy 1 = true) {t : T4} (h : t ∈ golF W H xs gx gy) : isB W H xs t.1 t.2.1 1 = true ∧ froB W H xs t.1 t.2.1 = true ∧ 0 ≤ gi (costL W H xs (t.1, t.2.1)) (gy * W + gx).toNat ∧ gi (costL W H xs (t.1, t.2.1)) (gy * W + gx).toNat = t.2.2.1 := by
  obtain ⟨h1, h2, h3⟩ := golF_mem h
  have hi := fro_isB h1
  have hs := cost_sym (a := (gx, gy)) (b := (t.1, t.2.1)) hV.len hV.w0 hg hi (by omega)
  have e : gi (costL W H xs (t.1, t.2.1)) (gy * W + gx).toNat = t.2.2.1 := hs.trans h3
  exact ⟨hi, h1, by omega, e⟩
theorem golF_far (hV : Vld W H xs) (hg : isB W H xs gx gy 1 = true) (h : golF W H xs gx gy = []) {x y : Int} (hf : froB W H xs x y = true) : ¬ 0 ≤ gi (costL W H xs (x, y)) (gy * W + gx).toNat := fun h0 => by
  have hs := cost_sym (a := (x, y)) (b := (gx, gy)) hV.len hV.w0 (fro_isB hf) hg h0
  exact golF_nil h hf (by rw [hs]; exact h0)
end
theorem prs_allD {l : List (Int × Int)} : (prs l).take (l.length * 2) = prs l := List.take_of_length_le (by rw [prs_len]; omega)
theorem pdt {o : List (Int × Int)} {a b : AV} : List.take 2 (List.drop (o.length * 2) (prs o ++ [a, b])) = [a, b] := by
  rw [← prs_len, List.drop_left]; rfl
theorem gs1 {o : List Pt} {x y : Int} : g1 (o ++ [(x, y)]) o.length = x := by simp [g1, List.getD_eq_getElem?_getD]
theorem gs2 {o : List Pt} {x y : Int} : g2 (o ++ [(x, y)]) o.length = y := by simp [g2, List.getD_eq_getElem?_getD]
theorem trn_at : ∀ {q : Nat}, q < 8 → List.take 2 (List.drop (q * 2) [AV.int .i64 (1), AV.int .i64 (0), AV.int .i64 (1), AV.int .i64 (1), AV.int .i64 (0), AV.int .i64 (1), AV.int .i64 (-1), AV.int .i64 (1), AV.int .i64 (-1), AV.int .i64 (0), AV.int .i64 (-1), AV.int .i64 (-1), AV.int .i64 (0), AV.int .i64 (-1), AV.int .i64 (1), AV.int .i64 (-1)]) = [AV.int .i64 (trn q).1, AV.int .i64 (trn q).2]
  | 0, _ => rfl
  | 1, _ => rfl
  | 2, _ => rfl
  | 3, _ => rfl
  | 4, _ => rfl
  | 5, _ => rfl
  | 6, _ => rfl
  | 7, _ => rfl
  | q + 8, h => by omega
theorem trn_bd : ∀ q : Nat, (-1 ≤ (trn q).1 ∧ (trn q).1 ≤ 1) ∧ -1 ≤ (trn q).2 ∧ (trn q).2 ≤ 1
  | 0 => by decide
  | 1 => by decide
  | 2 => by decide
  | 3 => by decide
  | 4 => by decide
  | 5 => by decide
  | 6 => by decide
  | q + 7 => by show (-1 ≤ (1 : Int) ∧ (1 : Int) ≤ 1) ∧ -1 ≤ (-1 : Int) ∧ (-1 : Int) ≤ 1; decide
section
variable {W Hh : Int} {xs L : List Int} {c g : Pt}
/-- The first way down, from the k-th of n on. -/
def hitF (W Hh : Int) (xs L : List Int) (c : Pt) : Nat → Nat → Nat
  | 0, k => k
  | n + 1, k => if 0 ≤ stk W Hh xs c k ∧ lv L W (to c k) + stk W Hh xs c k = lv L W c then k else hitF W Hh xs L c n (k + 1)
theorem hitF_at : ∀ (n k q : Nat), q < n → (∀ j, k ≤ j → j < k + q → ¬ (0 ≤ stk W Hh xs c j ∧ lv L W (to c j) + stk W Hh xs c j = lv L W c)) → (0 ≤ stk W Hh xs c (k + q) ∧ lv L W (to c (k + q)) + stk W Hh xs c (k + q) = lv L W c) → hitF W Hh xs L c n k = k + q
  | 0, _, _, h, _, _ => by omega
  | n + 1, k, 0, _, _, h2 => if_pos h2
  | n + 1, k, q + 1, h, h1, h2 => by
    unfold hitF
    rw [if_neg (h1 k (Nat.le_refl _) (by omega)), hitF_at n (k + 1) q (by omega) (fun j a b => h1 j (by omega) (by omega)) (by rw [show k + 1 + q = k + (q + 1) by omega]; exact h2)]
    omega
/-- The way down from a cell to the goal. -/
def wayT (W Hh : Int) (xs L : List Int) (g : Pt) : Nat → Pt → List Pt
  | 0, _ => []
  | n + 1, c => if c = g then [] else to c (hitF W Hh xs L c 8 0) :: wayT W Hh xs L g n (to c (hitF W Hh xs L c 8 0))
theorem way_end : ∀ n : Nat, wayT W Hh xs L g n g = []
  | 0 => rfl
  | _ + 1 => if_pos rfl
theorem way_step {n q : Nat} (hn : 0 < n) (hq : q < 8) (hne : c ≠ g) (h1 : ∀ j, j < q → ¬ (0 ≤ stk W Hh xs c j ∧ lv L W (to c j) + stk W Hh xs c j = lv L W c)) (h2 : 0 ≤ stk W Hh xs c q ∧ lv L W (to c q) + stk W Hh xs c q = lv L W c) : wayT W Hh xs L g n c = to c q :: wayT W Hh xs L g (n - 1) (to c q) := by
  cases n with
  | zero => omega
  | succ n =>
    unfold wayT
    rw [if_neg hne, hitF_at 8 0 q hq (fun j _ b => h1 j (by omega)) (by rw [Nat.zero_add]; exact h2), Nat.zero_add]
    cases n <;> rfl
end
def wayL (W Hh : Int) (xs L : List Int) (g s : Pt) : List Pt := s :: wayT W Hh xs L g (lv L W s).toNat s
theorem pcosts_L (H : AHeap) (L : List Int) {W Hh gx gy : Int} {xs : List Int} (hL : costL W Hh xs (gx, gy) = L) (s : AV) (hs : Sl H 1 s xs.length (ints .u8 xs)) (hV : Vld W Hh xs) (hg : isB W Hh xs gx gy 1 = true) :
    ACalls Try.prog 37 [.agg [iV W, iV Hh, s], .agg [iV gx, iV gy]] H (fun v H' => v = .sl (some (H.length, 0)) L.length none ∧ H' = H ++ [.cells true 1 (ints .i64 L)]) := by
  subst hL; exact pcosts_c H W Hh s xs gx gy hs hV hg
theorem find_y (H : AHeap) (L : List Int) (W Hh : Int) (pp : AV) (xs : List Int) (sx sy : Int) (gx gy : Int) (hpp : Sl H 1 pp xs.length (ints .u8 xs)) (hv : vldB W Hh xs = true) (hs0 : isB W Hh xs sx sy 1 = true) (hg : isB W Hh xs gx gy 1 = true) (hL : costL W Hh xs (gx, gy) = L) (hP : CostP W Hh xs (gx, gy) L) (h0 : 0 ≤ gi L ((sy * W) + sx).toNat) : ACalls Try.prog 20 [.agg [iV W, iV Hh, pp], .agg [iV sx, iV sy], .agg [iV gx, iV gy]] H (fun v H' => v = .tup [.sl (some (H.length, 0)) ((wayL W Hh xs L (gx, gy) (sx, sy)).length) none, iV (gi L ((sy * W) + sx).toNat), iV 0] ∧ H' = H ++ [.cells true 2 (prs (wayL W Hh xs L (gx, gy) (sx, sy)))]) := by
  obtain ⟨bpp, opp, cpp, rfl, hbpp⟩ := hpp
  have hblpp := getElem?_lt hbpp
  have hb0pp := fun l => get_app (l := l) hbpp
  have hV := vld_iff.1 hv
  have hLl : L.length = xs.length := by have := hP.len; have := hV.len; omega
  have hwh := mul_le_64 (a := W) (b := Hh) (by have := hV.w0; omega) hV.w1 (by have := hV.h0; omega) hV.h1
  have hWb := hV.w1
  have hHb := hV.h1
  have hxl : xs.length ≤ 4096 := by have := hV.len; omega
  have hsi0 := hV.idx (isB_in hs0)
  have hsn := inB_iff.1 (isB_in hs0)
  have hsb : gi L ((sy * W) + sx).toNat ≤ 99 * (L.length : Int) := hP.bd (sx, sy) (isB_in hs0)
  have hsl1 : ∀ n : Nat, ((n + 1 : Nat) : Int) - 1 = ((n : Nat) : Int) := fun n => by omega
  refine AcT true Try.func20 ?_; intro hbel Q hQ
  have g'1 := (jn @hbpp (jn @hb0pp (jn @hsl1 (jn @prs_allD @pdt))))
  refine runTf g'1 ?_
  refine cv (valid_a _ W Hh _ xs (.inr ⟨_, _, _, rfl, by first | exact hb0pp _ | exact hbpp⟩)) ?_
  refine rcs g'1 (fun h1 h1d _ => ?_) (fun h1 h1d g'2 => ?_)
  · rw [hv] at h1d; cases h1d
  refine runTf g'2 ?_
  refine cv (pfree_c _ W _ _ xs _ _ (⟨_, _, _, rfl, by first | exact hb0pp _ | exact hbpp⟩) hV) ?_
  refine rgs g'2 (fun h2 h2d g'3 => ?_) (fun h2 h2d _ => ?_)
  · refine runTf g'3 ?_
    refine cv (pfree_c _ W _ _ xs _ _ (⟨_, _, _, rfl, by first | exact hb0pp _ | exact hbpp⟩) hV) ?_
    refine rcs g'3 (fun h3 h3d _ => ?_) (fun h3 h3d g'4 => ?_)
    · rw [hg] at h3d; cases h3d
    refine runTf g'4 ?_
    refine cv (pcosts_L _ L hL _ (⟨_, _, _, rfl, by first | exact hb0pp _ | exact hbpp⟩) hV hg) ?_
    have q4 := ints_get (k := .i64) (xs := L) (j := ((sy * W) + sx).toNat) (by omega)
    have g'5 := (jn q4 g'4)
    refine rcs g'5 (fun h5 h5d _ => ?_) (fun h5 h5d g'6 => ?_)
    · exact absurd h5d (Int.not_lt.2 h0)
    refine runTf g'6 ?_
    refine glp (fun k F Hx => ∃ o : List (Int × Int), ∃ c : Int × Int, ∃ n : Nat, (lv L W c).toNat = k ∧ inB W Hh c.1 c.2 = true ∧ 0 ≤ lv L W c ∧ o.length + (lv L W c).toNat ≤ (gi L ((sy * W) + sx).toNat).toNat + 1 ∧ o ++ wayT W Hh xs L (gx, gy) n c = wayL W Hh xs L (gx, gy) (sx, sy) ∧ (lv L W c).toNat ≤ n ∧ F = [(3, .ptr (some (H.length, 0))), (5, .ptr (some (H.length + 1, 0))), (9, .sl (some (H.length + 2, 0)) L.length none), (10, iV (gi L (((sy * W) + sx).toNat))), (11, .sl (some (H.length + 4, 0)) o.length none), (12, .ptr (some (H.length + 3, 0)))] ∧ Hx = H ++ [.cells true 0 [iV W, iV Hh, .sl (some (bpp, 0)) xs.length cpp], .cells true 0 [iV gx, iV gy], .cells true 1 (ints .i64 L), .cells true 0 [iV c.1, iV c.2], .cells true 2 (prs o)]) ((lv L W (sx, sy)).toNat) ?_ ?_
    · refine ⟨_, _, _, ⟨[(sx, sy)], (sx, sy), (lv L W (sx, sy)).toNat, rfl, (isB_in hs0), h0, (by show 1 + (gi L ((sy * W) + sx).toNat).toNat ≤ _; omega), rfl, (Nat.le_refl _), rfl, rfl⟩, bS hbel [0, 2, 3, 5, 4] absR⟩
    rintro k0 F Hx ⟨o, c, n, hm0, hcin, hcl, hob, hoe, hon, rfl, rfl⟩ J0 hJ0
    have g'7 := (jn @ints_len (jn @ints_ones (jn @prs_len (jn @prs_one g'6))))
    refine rcs g'7 (fun h6 h6d _ => ?_) (fun h6 h6d _ => ?_)
    · have h6n := bnT h6
      have hne : c ≠ (gx, gy) := fun e => by rw [e] at h6; simp at h6
      have hdn := cost_down hP hcin hcl hne
      have hci := hV.idx hcin
      have hcn := inB_iff.1 hcin
      have g'8 := (jn h6 (jn h6n (jn @int_bne (jn @int_beq g'7))))
      refine runTf g'8 ?_
      refine cvr g'8 (turns_c _) ?_
      refine glp (fun k F Hx => ∃ q : Nat, q + k = 8 ∧ (∀ j, j < q → ¬ (0 ≤ stk W Hh xs c j ∧ lv L W (to c j) + stk W Hh xs c j = lv L W c)) ∧ F = [(3, .ptr (some (H.length, 0))), (5, .ptr (some (H.length + 1, 0))), (9, .sl (some (H.length + 2, 0)) L.length none), (10, iV (gi L (((sy * W) + sx).toNat))), (11, .sl (some (H.length + 4, 0)) o.length none), (12, .ptr (some (H.length + 3, 0))), (61, .agg [iV 1, iV 0, iV 1, iV 1, iV 0, iV 1, iV (-1), iV 1, iV (-1), iV 0, iV (-1), iV (-1), iV 0, iV (-1), iV 1, iV (-1)]), (62, iV ((q : Nat) : Int))] ∧ Hx = H ++ [.cells true 0 [iV W, iV Hh, .sl (some (bpp, 0)) xs.length cpp], .cells true 0 [iV gx, iV gy], .cells true 1 (ints .i64 L), .cells true 0 [iV c.1, iV c.2], .cells true 2 (prs o)]) (8) ?_ ?_
      · refine ⟨_, _, _, ⟨0, by omega, (fun j h => by omega), rfl, rfl⟩, bS hbel [0, 1, 2, 3, 4] absR⟩
      rintro k1 F Hx ⟨q, hm1, hnq, rfl, rfl⟩ J1 hJ1
      refine rcs g'8 (fun h7 h7d _ => ?_) (fun h7 h7d _ => ?_)
      · have htb := trn_bd q
        have q8 := trn_at (q := q) (by omega)
        have g'9 := (jn h7 (jn h7d (jn q8 g'8)))
        refine runTf g'9 ?_
        refine cv (pcost_c _ W _ _ xs _ _ _ _ (⟨_, _, _, rfl, by first | exact hb0pp _ | exact hbpp⟩) hV (by omega) (by omega) (by omega) (by omega)) ?_
        refine rgs g'9 (fun h9 h9d _ => ?_) (fun h9 h9d g'13 => ?_)
        · have hsk : 0 ≤ stk W Hh xs c q := of_decide_eq_true (by assumption)
          have hcn2 : cstN W Hh xs c.1 c.2 ((trn q).1) ((trn q).2) = stk W Hh xs c q := if_pos hsk
          have hsi := stk_in hsk
          have hib2 := hV.idx (show inB W Hh (c.1 + ((trn q).1)) (c.2 + ((trn q).2)) = true from hsi.2.1)
          have hin2 := inB_iff.1 (show inB W Hh (c.1 + ((trn q).1)) (c.2 + ((trn q).2)) = true from hsi.2.1)
          have hle2 := hP.bd _ (show inB W Hh (c.1 + ((trn q).1), c.2 + ((trn q).2)).1 (c.1 + ((trn q).1), c.2 + ((trn q).2)).2 = true from hsi.2.1)
          have hed := hP.edg c q (by omega) hsk hcl
          have hed2 : 0 ≤ gi L ((((c.2 + ((trn q).2)) * W) + (c.1 + ((trn q).1))).toNat) := hed.1
          have hed3 : gi L ((((c.2 + ((trn q).2)) * W) + (c.1 + ((trn q).1))).toNat) ≤ 99 * (L.length : Int) := hle2
          have q10 := ints_get (k := .i64) (xs := L) (j := (((c.2 + ((trn q).2)) * W) + (c.1 + ((trn q).1))).toNat) (by omega)
          have q11 := ints_get (k := .i64) (xs := L) (j := ((c.2 * W) + c.1).toNat) (by omega)
          have g'10 := (jn h9 (jn h9d (jn q10 (jn q11 g'9))))
          refine rcs g'10 (fun h12 h12d _ => ?_) (fun h12 h12d _ => ?_)
          · have h12n := bnT h12
            have heq : gi L ((((c.2 + ((trn q).2)) * W) + (c.1 + ((trn q).1))).toNat) + cstN W Hh xs c.1 c.2 ((trn q).1) ((trn q).2) = gi L (((c.2 * W) + c.1).toNat) := by simpa using h12
            have hapl : (o ++ [(c.1 + ((trn q).1), c.2 + ((trn q).2))]).length = o.length + 1 := List.length_append
            have hlvc : gi L (((c.2 * W) + c.1).toNat) = lv L W c := rfl
            have hlvt : gi L ((((c.2 + ((trn q).2)) * W) + (c.1 + ((trn q).1))).toNat) = lv L W (c.1 + ((trn q).1), c.2 + ((trn q).2)) := rfl
            have hwy := way_step (g := (gx, gy)) (n := n) (q := q) (by omega) (by omega) hne hnq ⟨hsk, by rw [← hcn2]; exact heq⟩
            have q13 := prs_load (l := o ++ [(c.1 + ((trn q).1), c.2 + ((trn q).2))]) (j := o.length) (by omega)
            have g'11 := (jn h12 (jn h12n (jn @capG_s (jn q13 g'10))))
            refine runTf g'11 ?_
            refine hJ0 _ _ ⟨(lv L W (c.1 + ((trn q).1), c.2 + ((trn q).2))).toNat, by omega, _, _, _, ⟨o ++ [(c.1 + ((trn q).1), c.2 + ((trn q).2))], (c.1 + ((trn q).1), c.2 + ((trn q).2)), n - 1, rfl, hsi.2.1, hed.1, (by rw [hapl]; omega), (by rw [List.append_assoc, ← hoe, hwy]; rfl), (by omega), rfl, rfl⟩, bS hbel [0, 1, 2, 9, 8] (absRf (jn @gs1 @gs2))⟩
          have h12n := bnT h12
          have hnj : ¬ (0 ≤ stk W Hh xs c q ∧ lv L W (to c q) + stk W Hh xs c q = lv L W c) := fun q9 => by
            have h9 : gi L ((((c.2 + ((trn q).2)) * W) + (c.1 + ((trn q).1))).toNat) + cstN W Hh xs c.1 c.2 ((trn q).1) ((trn q).2) = gi L (((c.2 * W) + c.1).toNat) := by rw [hcn2]; exact q9.2
            rw [h9] at h12; simp at h12
          have g'12 := j2 h12 h12n g'10
          refine runTf g'12 ?_
          refine hJ1 _ _ ⟨k1 - 1, by omega, _, _, _, ⟨q + 1, by omega, (fun j hj => by
            by_cases e : j = q
            · rw [e]; exact hnj
            exact hnq j (by omega)), rfl, rfl⟩, bS hbel [0, 1, 2, 3, 4] absR⟩
        have hnj : ¬ (0 ≤ stk W Hh xs c q ∧ lv L W (to c q) + stk W Hh xs c q = lv L W c) := fun q9 => absurd q9.1 (of_decide_eq_false (by assumption))
        refine runTf g'13 ?_
        refine hJ1 _ _ ⟨k1 - 1, by omega, _, _, _, ⟨q + 1, by omega, (fun j hj => by
          by_cases e : j = q
          · rw [e]; exact hnj
          exact hnq j (by omega)), rfl, rfl⟩, bS hbel [0, 1, 2, 3, 4] absR⟩
      obtain ⟨j, hj, hsj, -, hej⟩ := hdn
      exact absurd ⟨hsj, hej⟩ (hnq j (by omega))
    have h6n := bnT h6
    have hce : c = (gx, gy) := by
      have h9 : (c.1 == gx && c.2 == gy) = true := by assumption
      simp only [Bool.and_eq_true, beq_iff_eq] at h9
      exact Prod.ext h9.1 h9.2
    obtain rfl : o = wayL W Hh xs L (gx, gy) (sx, sy) := by
      rw [hce, way_end, List.append_nil] at hoe; exact hoe
    have g'14 := (jn h6 (jn h6n (jn @int_bne (jn @int_beq g'7))))
    refine runTf g'14 ?_
    refine hQ _ _ (end_byG (.inl rfl) hbel (x1 := .tup [.sl (some (H.length + 4, 0)) ((wayL W Hh xs L (gx, gy) (sx, sy)).length) none, iV (gi L (((sy * W) + sx).toNat)), iV 0]) (l2 := [.cells true 2 (prs (wayL W Hh xs L (gx, gy) (sx, sy)))]) (.tup [.sl (some (H.length, 0)) ((wayL W Hh xs L (gx, gy) (sx, sy)).length) none, iV (gi L (((sy * W) + sx).toNat)), iV 0]) (resT Try.results20) [] rfl [4] (by decide) ⟨rfl, rfl⟩ ?_)
    exact absW
  rw [hs0] at h2d; cases h2d
theorem find_0 (H : AHeap) (W Hh : Int) (pp : AV) (xs : List Int) (sx sy : Int) (gx gy : Int) (hpp : Sl H 1 pp xs.length (ints .u8 xs)) (hv : vldB W Hh xs = true) (hs0 : isB W Hh xs sx sy 1 = true) (hg : isB W Hh xs gx gy 1 = true) (h0 : gi (costL W Hh xs (gx, gy)) ((sy * W) + sx).toNat < 0) : ACalls Try.prog 20 [.agg [iV W, iV Hh, pp], .agg [iV sx, iV sy], .agg [iV gx, iV gy]] H (fun v H' => v = .tup [.sl none 0 (some 0), iV 0, iV 14] ∧ H' = H) := by
  obtain ⟨bpp, opp, cpp, rfl, hbpp⟩ := hpp
  have hblpp := getElem?_lt hbpp
  have hb0pp := fun l => get_app (l := l) hbpp
  have hV := vld_iff.1 hv
  have hLl := cost_len hV.len hV.w0 (goal := (gx, gy)) hg
  have hwh := mul_le_64 (a := W) (b := Hh) (by have := hV.w0; omega) hV.w1 (by have := hV.h0; omega) hV.h1
  have hsi0 := hV.idx (isB_in hs0)
  have hsn := inB_iff.1 (isB_in hs0)
  refine AcT true Try.func20 ?_; intro hbel Q hQ
  have g'1 := (jn @hbpp @hb0pp)
  refine runTf g'1 ?_
  refine cv (valid_a _ W Hh _ xs (.inr ⟨_, _, _, rfl, by first | exact hb0pp _ | exact hbpp⟩)) ?_
  refine rcs g'1 (fun h1 h1d _ => ?_) (fun h1 h1d g'2 => ?_)
  · rw [hv] at h1d; cases h1d
  refine runTf g'2 ?_
  refine cv (pfree_c _ W _ _ xs _ _ (⟨_, _, _, rfl, by first | exact hb0pp _ | exact hbpp⟩) hV) ?_
  refine rgs g'2 (fun h2 h2d g'3 => ?_) (fun h2 h2d _ => ?_)
  · refine runTf g'3 ?_
    refine cv (pfree_c _ W _ _ xs _ _ (⟨_, _, _, rfl, by first | exact hb0pp _ | exact hbpp⟩) hV) ?_
    refine rcs g'3 (fun h3 h3d _ => ?_) (fun h3 h3d g'4 => ?_)
    · rw [hg] at h3d; cases h3d
    refine runTf g'4 ?_
    refine cv (pcosts_c _ W _ _ xs _ _ (⟨_, _, _, rfl, by first | exact hb0pp _ | exact hbpp⟩) hV hg) ?_
    have q4 := ints_get (k := .i64) (xs := costL W Hh xs (gx, gy)) (j := ((sy * W) + sx).toNat) (by omega)
    have g'5 := (jn q4 g'4)
    refine rcs g'5 (fun h5 h5d g'6 => ?_) (fun h5 h5d _ => ?_)
    · exact eR g'6 hQ hbel (.tup [.sl none 0 (some 0), iV 0, iV 14]) Try.results20 ⟨rfl, rfl⟩
    exact absurd h0 h5d
  rw [hs0] at h2d; cases h2d
theorem find_f (H : AHeap) (W Hh : Int) (pp : AV) (xs : List Int) (sx sy : Int) (gx gy : Int) (hpp : Sl H 1 pp xs.length (ints .u8 xs)) (hv : vldB W Hh xs = true) (hs0 : isB W Hh xs sx sy 1 = true) (hg : isB W Hh xs gx gy 1 = false) : ACalls Try.prog 20 [.agg [iV W, iV Hh, pp], .agg [iV sx, iV sy], .agg [iV gx, iV gy]] H (fun v H' => v = .tup [.sl none 0 (some 0), iV 0, iV 7] ∧ H' = H) := by
  obtain ⟨bpp, opp, cpp, rfl, hbpp⟩ := hpp
  have hblpp := getElem?_lt hbpp
  have hb0pp := fun l => get_app (l := l) hbpp
  have hV := vld_iff.1 hv
  refine AcT true Try.func20 ?_; intro hbel Q hQ
  have g'7 := (jn @hbpp @hb0pp)
  refine runTf g'7 ?_
  refine cv (valid_a _ W Hh _ xs (.inr ⟨_, _, _, rfl, by first | exact hb0pp _ | exact hbpp⟩)) ?_
  refine rcs g'7 (fun h1 h1d _ => ?_) (fun h1 h1d g'8 => ?_)
  · rw [hv] at h1d; cases h1d
  refine runTf g'8 ?_
  refine cv (pfree_c _ W _ _ xs _ _ (⟨_, _, _, rfl, by first | exact hb0pp _ | exact hbpp⟩) hV) ?_
  refine rgs g'8 (fun h2 h2d g'9 => ?_) (fun h2 h2d _ => ?_)
  · refine runTf g'9 ?_
    refine cv (pfree_c _ W _ _ xs _ _ (⟨_, _, _, rfl, by first | exact hb0pp _ | exact hbpp⟩) hV) ?_
    refine rcs g'9 (fun h3 h3d g'10 => ?_) (fun h3 h3d _ => ?_)
    · exact eR g'10 hQ hbel (.tup [.sl none 0 (some 0), iV 0, iV 7]) Try.results20 ⟨rfl, rfl⟩
    rw [hg] at h3d; cases h3d
  rw [hs0] at h2d; cases h2d
theorem r4_q0 {l : List T4} (h : 0 < l.length) : (r4 l).take 2 = [iV (g41 l 0), iV (g42 l 0)] := by
  have h4 := r4_load0 h
  have h5 := congrArg (List.take 2) h4
  rw [List.take_take] at h5
  exact h5
theorem g4_mem {l : List T4} {j : Nat} (h : j < l.length) : g4 l j ∈ l := by rw [g4, List.getD_eq_getElem?_getD, List.getElem?_eq_getElem h]; exact List.getElem_mem h
theorem golF_len {W Hh gx gy : Int} {xs : List Int} (hv : vldB W Hh xs = true) : (golF W Hh xs gx gy).length ≤ 4096 := by
  have h1 := golI_len (L := costL W Hh xs (gx, gy)) (W := W) (CS := cluL (froL W Hh xs)) (cluL (froL W Hh xs)).length
  have h2 := (cluL_ok (A := froL W Hh xs) fro_nodup).len
  have h3 := fro_len (vld_iff.1 hv)
  unfold golF; omega
theorem ldone_c (H : AHeap) (W Hh : Int) (pp : AV) (xs : List Int) (gx gy : Int) (hpp : Sl H 1 pp xs.length (ints .u8 xs)) : ACalls Try.prog 6 [.agg [iV W, iV Hh, pp], .agg [iV gx, iV gy]] H (fun v H' => v = .bool true ∧ H' = H) := by
  obtain ⟨bpp, opp, cpp, rfl, hbpp⟩ := hpp
  have hblpp := getElem?_lt hbpp
  have hb0pp := fun l => get_app (l := l) hbpp
  obtain ⟨T, hT⟩ : ∃ T, golF W Hh xs gx gy = T := ⟨_, rfl⟩
  refine AcT false Try.func6 ?_; intro hbel Q hQ
  have g'1 := (jn @hbpp @hb0pp)
  refine runTf g'1 ?_
  refine cvr g'1 (awake_a _) ?_
  refine cv (few38_c _ W _ _ xs (⟨_, _, _, rfl, by first | exact hb0pp _ | exact hbpp⟩)) ?_
  refine rcs g'1 (fun h1 h1d g'2 => ?_) (fun h1 h1d g'3 => ?_)
  · refine runTf g'2 ?_
    refine cvr g'2 (awake_a _) ?_
    exact eP hQ hbel (.bool true) Try.results6 ⟨by first | rfl | exact congrArg AV.bool hatn | exact congrArg AV.bool (beq_iff_eq.2 hgf.2.2.2), rfl⟩
  refine runTf g'3 ?_
  rcases Bool.eq_false_or_eq_true (vldB W Hh xs) with h2 | h2
  · have h2d := h2
    have hV := vld_iff.1 h2d
    have hWb := hV.w1
    have hHb := hV.h1
    rcases Bool.eq_false_or_eq_true (isB W Hh xs gx gy 1) with h3 | h3
    · have h3d := h3
      have hTl : T.length ≤ 4096 := hT ▸ golF_len (by assumption)
      refine cv (done_y _ T W _ _ xs _ _ (⟨_, _, _, rfl, by first | exact hb0pp _ | exact hbpp⟩) (by assumption) (by assumption) hT) ?_
      have g'4 := (jn h2 (jn h2d (j2 h3 h3d g'3)))
      refine runTf g'4 ?_
      refine cv (rplan_a _ W Hh _ xs (.inr ⟨_, _, _, rfl, by first | exact hb0pp _ | exact hbpp⟩)) ?_
      refine rcs g'4 (fun h4 h4d _ => ?_) (fun h4 h4d _ => ?_)
      · have h4n := bnT h4
        have hlt : 0 < T.length := by
          have h9 : ¬ ((T.length : Nat) : Int) = 0 := by simpa using h4d
          omega
        have hgf : isB W Hh xs (g41 T 0) (g42 T 0) 1 = true ∧ froB W Hh xs (g41 T 0) (g42 T 0) = true ∧ 0 ≤ gi (costL W Hh xs (g41 T 0, g42 T 0)) (((gy * W) + gx).toNat) ∧ gi (costL W Hh xs (g41 T 0, g42 T 0)) (((gy * W) + gx).toNat) = g43 T 0 := golF_find hV (by assumption) (t := g4 T 0) (by rw [hT]; exact g4_mem hlt)
        have hgb := inB_iff.1 (isB_in hgf.1)
        have g'5 := (jn h4 (jn h4n (jn @int_bne (jn @int_beq g'4))))
        refine runTf g'5 ?_
        refine cv (gols_T _ T W Hh _ xs gx gy (⟨_, _, _, rfl, by first | exact hb0pp _ | exact hbpp⟩) (by assumption) (by assumption) hT) ?_
        have q5 := r4_q0 (l := T) (by omega)
        have g'6 := (jn @r4_len (jn q5 g'5))
        refine runTf g'6 ?_
        refine cd (ris_c (x := (g41 T 0)) (y := (g42 T 0)) hV (by first | exact hb0pp _ | exact hbpp) rfl (by omega)) ?_
        refine rcs g'6 (fun h6 h6d _ => ?_) (fun h6 h6d _ => ?_)
        · rw [hgf.2.1] at h6d; cases h6d
        have q7 := r4_q0 (l := T) (by omega)
        have g'7 := (jn h6 (jn h6d (jn q7 g'6)))
        refine runTf g'7 ?_
        rcases Bool.eq_false_or_eq_true (isB W Hh xs (g41 T 0) (g42 T 0) 1) with h8 | h8
        · have h8d := h8
          rcases Bool.eq_false_or_eq_true (decide (0 ≤ gi (costL W Hh xs (g41 T 0, g42 T 0)) (((gy * W) + gx).toNat))) with h9 | h9
          · have h9d := h9
            refine cx (find_y _ (costL W Hh xs (g41 T 0, g42 T 0)) W _ _ xs _ _ _ _ (⟨_, _, _, rfl, by first | exact hb0pp _ | exact hbpp⟩) (by assumption) (show isB W Hh xs gx gy 1 = true by assumption) (show isB W Hh xs (g41 T 0) (g42 T 0) 1 = true by assumption) rfl (cost_spec hV.len hV.w0 (goal := ((g41 T 0), (g42 T 0))) (by assumption)) (of_decide_eq_true (by assumption))) ?_
            have q10 := r4_z2 (l := T) (by omega)
            have g'8 := (jn h8 (jn h8d (jn h9 (jn h9d (jn q10 g'7)))))
            refine runTf g'8 ?_
            exact ePf (jn @int_beq @int_bne) hQ hbel (.bool ((gi (costL W Hh xs (g41 T 0, g42 T 0)) (((gy * W) + gx).toNat)) == (g43 T 0))) Try.results6 ⟨by first | rfl | exact congrArg AV.bool hatn | exact congrArg AV.bool (beq_iff_eq.2 hgf.2.2.2), rfl⟩
          have h9d := h9
          exact absurd hgf.2.2.1 (of_decide_eq_false h9d)
        have h8d := h8
        rw [hgf.1] at h8d; cases h8d
      have h4n := bnT h4
      have hT0 : golF W Hh xs gx gy = [] := by
        rw [hT]; exact List.eq_nil_of_length_eq_zero (by simpa using h4d)
      have g'9 := (jn h4 (jn h4n (jn @int_bne (jn @int_beq g'4))))
      refine runTf g'9 ?_
      refine glp (fun k F Hx => ∃ i : Nat, i + k = Hh.toNat ∧ F = [(2, .ptr (some (H.length, 0))), (3, .ptr (some (H.length + 1, 0))), (12, iV ((i : Nat) : Int))] ∧ Hx = H ++ [.cells true 0 [iV W, iV Hh, .sl (some (bpp, 0)) xs.length cpp], .cells true 0 [iV gx, iV gy]]) (Hh.toNat) ?_ ?_
      · refine ⟨_, _, _, ⟨0, by omega, rfl, rfl⟩, bS hbel [0, 1] absW⟩
      rintro k0 F Hx ⟨i, hm0, rfl, rfl⟩ J0 hJ0
      refine rcs g'9 (fun h11 h11d g'10 => ?_) (fun h11 h11d g'17 => ?_)
      · refine runTf g'10 ?_
        refine glp (fun k F Hx => ∃ j : Nat, j + k = W.toNat ∧ F = [(2, .ptr (some (H.length, 0))), (3, .ptr (some (H.length + 1, 0))), (12, iV ((i : Nat) : Int)), (13, iV ((j : Nat) : Int))] ∧ Hx = H ++ [.cells true 0 [iV W, iV Hh, .sl (some (bpp, 0)) xs.length cpp], .cells true 0 [iV gx, iV gy]]) (W.toNat) ?_ ?_
        · refine ⟨_, _, _, ⟨0, by omega, rfl, rfl⟩, bS hbel [0, 1] absW⟩
        rintro k1 F Hx ⟨j, hm1, rfl, rfl⟩ J1 hJ1
        refine rcs g'10 (fun h12 h12d g'11 => ?_) (fun h12 h12d g'16 => ?_)
        · refine runTf g'11 ?_
          rcases Bool.eq_false_or_eq_true (isB W Hh xs ((j : Nat) : Int) ((i : Nat) : Int) 1) with h13 | h13
          · have h13d := h13
            rcases Bool.eq_false_or_eq_true (decide (0 ≤ gi (costL W Hh xs (((j : Nat) : Int), ((i : Nat) : Int))) (((gy * W) + gx).toNat))) with h14 | h14
            · have h14d := h14
              refine cv (find_y _ (costL W Hh xs (((j : Nat) : Int), ((i : Nat) : Int))) W _ _ xs _ _ _ _ (⟨_, _, _, rfl, by first | exact hb0pp _ | exact hbpp⟩) (by assumption) (show isB W Hh xs gx gy 1 = true by assumption) (show isB W Hh xs ((j : Nat) : Int) ((i : Nat) : Int) 1 = true by assumption) rfl (cost_spec hV.len hV.w0 (goal := (((j : Nat) : Int), ((i : Nat) : Int))) (by assumption)) (of_decide_eq_true (by assumption))) ?_
              have g'12 := (jn h13 (jn h13d (j2 h14 h14d g'11)))
              refine runTf g'12 ?_
              refine cv (ris_c (x := ((j : Nat) : Int)) (y := ((i : Nat) : Int)) hV (by first | exact hb0pp _ | exact hbpp) rfl (by omega)) ?_
              refine rcs g'12 (fun h15 h15d _ => ?_) (fun h15 h15d g'13 => ?_)
              · exact absurd (of_decide_eq_true (by assumption)) (golF_far hV (by assumption) hT0 h15d)
              refine runTf g'13 ?_
              refine hJ1 _ _ ⟨k1 - 1, by omega, _, _, _, ⟨j + 1, by omega, rfl, rfl⟩, bS hbel [0, 1] absW⟩
            have h14d := h14
            refine cv (find_0 _ W _ _ xs _ _ _ _ (⟨_, _, _, rfl, by first | exact hb0pp _ | exact hbpp⟩) (by assumption) (show isB W Hh xs gx gy 1 = true by assumption) (show isB W Hh xs ((j : Nat) : Int) ((i : Nat) : Int) 1 = true by assumption) (Int.not_le.1 (of_decide_eq_false (by assumption)))) ?_
            have g'14 := (jn h13 (jn h13d (j2 h14 h14d g'11)))
            refine runTf g'14 ?_
            refine hJ1 _ _ ⟨k1 - 1, by omega, _, _, _, ⟨j + 1, by omega, rfl, rfl⟩, bS hbel [0, 1] absW⟩
          have h13d := h13
          refine cv (find_f _ W _ _ xs _ _ _ _ (⟨_, _, _, rfl, by first | exact hb0pp _ | exact hbpp⟩) (by assumption) (show isB W Hh xs gx gy 1 = true by assumption) (show isB W Hh xs ((j : Nat) : Int) ((i : Nat) : Int) 1 = false by assumption)) ?_
          have g'15 := j2 h13 h13d g'11
          refine runTf g'15 ?_
          refine hJ1 _ _ ⟨k1 - 1, by omega, _, _, _, ⟨j + 1, by omega, rfl, rfl⟩, bS hbel [0, 1] absW⟩
        refine runTf g'16 ?_
        refine hJ0 _ _ ⟨k0 - 1, by omega, _, _, _, ⟨i + 1, by omega, rfl, rfl⟩, bS hbel [0, 1] absW⟩
      exact eR g'17 hQ hbel (.bool true) Try.results6 ⟨by first | rfl | exact congrArg AV.bool hatn | exact congrArg AV.bool (beq_iff_eq.2 hgf.2.2.2), rfl⟩
    have h3d := h3
    have hatn : (atI W Hh xs gx gy != 1) = true := by
      have h9 := h3d
      rw [isB_at (by decide)] at h9
      rw [bne, h9]; rfl
    refine cv (done_f _ W _ _ xs _ _ (⟨_, _, _, rfl, by first | exact hb0pp _ | exact hbpp⟩) (by assumption) (by assumption)) ?_
    have g'18 := (jn h2 (jn h2d (j2 h3 h3d g'3)))
    refine runTf g'18 ?_
    refine cvr g'18 (rplan_a _ W Hh _ xs (.inr ⟨_, _, _, rfl, by first | exact hb0pp _ | exact hbpp⟩)) ?_
    refine cvr g'18 (at_c (x := gx) (y := gy) hV (by first | exact hb0pp _ | exact hbpp) rfl) ?_
    exact eP hQ hbel (.bool ((atI W Hh xs gx gy) != 1)) Try.results6 ⟨by first | rfl | exact congrArg AV.bool hatn | exact congrArg AV.bool (beq_iff_eq.2 hgf.2.2.2), rfl⟩
  have h2d := h2
  refine cv (done_n _ W _ _ xs _ _ (⟨_, _, _, rfl, by first | exact hb0pp _ | exact hbpp⟩) (by assumption)) ?_
  have g'19 := j2 h2 h2d g'3
  refine runTf g'19 ?_
  refine cvr g'19 (rplan_a _ W Hh _ xs (.inr ⟨_, _, _, rfl, by first | exact hb0pp _ | exact hbpp⟩)) ?_
  exact eP hQ hbel (.bool true) Try.results6 ⟨by first | rfl | exact congrArg AV.bool hatn | exact congrArg AV.bool (beq_iff_eq.2 hgf.2.2.2), rfl⟩
set_option maxRecDepth 100000 in
theorem frontierDone_top (H : AHeap) (xs : List AV) (hn : xs.length = 2) (hy : ∀ (j : Nat) (t : TypeId) (x : AV), [24, 36][j]? = some t → xs[j]? = some x → ATy Try.prog H 9 t x) : ACalls Try.prog 6 xs H (fun v H' => v = .bool true ∧ H' = H) := by
  match xs, hn, hy with
  | [a0, a1], _, hy =>
    obtain ⟨ys0, e0, r0_0⟩ := (hy 0 _ a0 rfl rfl).agg (ls := [3, 3, 22]) (by kernel_rfl) (by kernel_rfl)
    obtain ⟨y0_0, q0_0, rfl, t0_0, r0_1⟩ := r0_0.cons
    obtain ⟨z1, rfl, w1⟩ := t0_0.int (k := .i64) (by kernel_rfl)
    obtain ⟨y0_1, q0_1, rfl, t0_1, r0_2⟩ := r0_1.cons
    obtain ⟨z2, rfl, w2⟩ := t0_1.int (k := .i64) (by kernel_rfl)
    obtain ⟨y0_2, q0_2, rfl, t0_2, r0_3⟩ := r0_2.cons
    obtain ⟨l3, s3, m3, w3⟩ := t0_2.intsU (n := 7) (t := 22) (e := 5) (by kernel_rfl) (by kernel_rfl) (by kernel_rfl)
    obtain rfl := r0_3.nil
    subst e0
    obtain ⟨ys1, e1, r1_0⟩ := (hy 1 _ a1 rfl rfl).agg (ls := [3, 3]) (by kernel_rfl) (by kernel_rfl)
    obtain ⟨y1_0, q1_0, rfl, t1_0, r1_1⟩ := r1_0.cons
    obtain ⟨z4, rfl, w4⟩ := t1_0.int (k := .i64) (by kernel_rfl)
    obtain ⟨y1_1, q1_1, rfl, t1_1, r1_2⟩ := r1_1.cons
    obtain ⟨z5, rfl, w5⟩ := t1_1.int (k := .i64) (by kernel_rfl)
    obtain rfl := r1_2.nil
    subst e1
    exact ldone_c H z1 z2 _ l3 z4 z5 s3
section
open Go.ChangeShapes Go.WideShapes Go.ChangeAt Go.Joins
open Go.ChangeMaps (open_string shut_string)
set_option maxRecDepth 100000 in
theorem frontierDone_lifted (os : Os) (started : os.Started) (H : Type) (enc : TypeId × Value → H) :
    ReturnsInHanded {} Try.checked os 6 .any (Rows.frontierDoneSpec.pre6 enc Try.prog Try.f6 Rows.frontierDoneRow.domain false) (Rows.frontierDoneSpec.post enc Try.prog Try.f6 false true false false) := by
  refine returnsInHanded_of_change (C := Try.checked) own started (by kernel_rfl) Try.func6
    (ChangeSpec.witness6 (enc := enc) (C := Try.checked) false ⟨#[], #[.agg #[.int .i64 0, .int .i64 0, .slice none 0 0], .agg #[.int .i64 0, .int .i64 0]], []⟩ 8 (by kernel_rfl) (by kernel_rfl) (by kernel_rfl) (by kernel_rfl)) ?_
  intro W base args ds gs before hval0 hW hcnd _
  have hval : ∀ (j : Nat) t v, Try.f6.params[j]? = some t → args[j]? = some v → Value.okWide Try.prog W .any base t v := hval0
  have hW' := hW
  obtain ⟨p, q, hA0, hV, rfl, hfz, hnd⟩ := hW
  have hA : DataW.TrodAll enc Try.prog W 0 (fun _ => true) true Try.f6.params.toList args.toList ds p := hA0
  rw [Try.params6] at hA hval
  have hwalk := calls_top (n := 9) (f := 6) hA (fun j t v a b => hval j t v (by simpa using a) (by simpa using b)) (by kernel_rfl) (fun H xs hn hy => frontierDone_top H xs hn hy)
  rw [Array.toArray_toList] at hwalk
  obtain ⟨v0, vs0, d0, ds0, p0, q0, hargs, rfl, rfl, h0, r0⟩ := trodAll_cons hA
  obtain ⟨v1, vs1, d1, ds1, p1, q1, rfl, rfl, rfl, h1, r1⟩ := trodAll_cons r0
  obtain ⟨rfl, rfl, rfl⟩ := trodAll_nil r1
  obtain rfl : args = #[v0, v1] := by cases args; simp_all
  obtain ⟨rfl, rfl⟩ := trodVars_none hV
  have k0 := h0
  have lt0 : ∀ x ∈ p0, x.block < W.heap.size := by obtain ⟨m, hm⟩ := k0; exact DataW.trod_lt m _ _ _ hm
  have k1 := h1
  have lt1 : ∀ x ∈ p1, x.block < W.heap.size := by obtain ⟨m, hm⟩ := k1; exact DataW.trod_lt m _ _ _ hm
  clear hA0 hval0
  refine hwalk.mono fun e W' ⟨he, bel⟩ => ?_
  subst he
  exact ⟨_, rfl, _, _, _, [], _, [], hW', trodAll_mk1 (shut_bool Try.underlying4 _), (trodAll_cons_mk (Below.trod laidOut (by kernel_rfl) (of_decide_eq_true (by kernel_rfl)) k0 bel lt0) (trodAll_cons_mk (Below.trod laidOut (by kernel_rfl) (of_decide_eq_true (by kernel_rfl)) k1 bel lt1) trodAll_mk0)), rfl, bel.frame _, fun h => by cases h⟩
theorem and_t {a b : Bool} (h : a = true) (k : b = true) : (a && b) = true := by rw [h, k]; rfl
theorem frontierDone_h0 : (Rows.frontierDoneRow.inPlace == Try.pinned.checked.prog.inPlace 6) = true := by kernel_rfl
theorem frontierDone_h1 : (Rows.frontierDoneRow.unfollowed == Try.pinned.checked.prog.unfollowed 6) = true := by kernel_rfl
theorem frontierDone_h2 : (Rows.frontierDoneRow.recurses == Try.pinned.checked.prog.recurses 6) = true := by kernel_rfl
theorem frontierDone_h3 : (Rows.frontierDoneRow.named == Try.pinned.checked.prog.varsNamed 6) = true := by kernel_rfl
theorem frontierDone_h4 : Try.pinned.checked.prog.stopsHeard = true := by kernel_rfl
theorem frontierDone_h5 : Try.pinned.checked.prog.mayEnter = true := by kernel_rfl
theorem frontierDone_h6 : (Rows.frontierDoneRow.lifted == Try.pinned.checked.prog.liftsFinal) = true := by kernel_rfl
theorem frontierDone_closed : joinedFacts Try.pinned.checked.prog 6 Try.f6 Rows.frontierDoneSpec Rows.frontierDoneRow = true := by
  unfold joinedFacts
  exact (and_t (and_t (and_t (and_t (and_t (and_t (and_t (and_t (and_t (and_t (and_t (and_t (and_t (and_t (and_t (and_t (and_t (and_t (and_t (and_t (and_t (and_t (and_t (and_t (and_t (and_t (and_t (and_t (and_t (and_t (and_t (by kernel_rfl) laidOut) (by kernel_rfl)) (by kernel_rfl)) (by kernel_rfl)) (by kernel_rfl)) (by kernel_rfl)) (by kernel_rfl)) (by kernel_rfl)) frontierDone_h0) frontierDone_h1) frontierDone_h2) frontierDone_h3) (by kernel_rfl)) (by kernel_rfl)) (by kernel_rfl)) (by kernel_rfl)) (by kernel_rfl)) (by kernel_rfl)) (by kernel_rfl)) (by kernel_rfl)) (by kernel_rfl)) (by kernel_rfl)) (by kernel_rfl)) frontierDone_h4) frontierDone_h5) frontierDone_h6) (by kernel_rfl)) (by kernel_rfl)) (by kernel_rfl)) (by kernel_rfl)) (by kernel_rfl))
theorem frontierDone_over : Rows.frontierDoneRow.holds Try.pinned (OpenSpec.ofChange Rows.frontierDoneSpec) :=
  OpenClaim.holds_of_wide 6 Try.f6 rfl rfl rfl rfl rfl rfl rfl ⟨rfl, rfl, rfl, rfl, rfl⟩ rfl rfl rfl rfl rfl (by kernel_rfl) Try.func6 frontierDone_closed
    (of_decide_eq_true (by kernel_rfl)) (by unfold Func.isWrapper; rw [if_neg (by decide +kernel)]; exact ⟨rfl, rfl⟩)
    (fun os started H enc _ => frontierDone_lifted os started H enc)
/-- The given statement. -/
theorem frontierDone_proved : Rows.FrontierDoneSaid := frontierDone_over
end
end Go.Proofs.Ytcghekjnjbpeoaa
