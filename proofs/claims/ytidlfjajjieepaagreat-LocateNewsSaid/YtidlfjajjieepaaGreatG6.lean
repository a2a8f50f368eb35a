/- Proved: the law LocateNews returns true on every input, and its arguments read afterwards as before. Conditions: none beyond the given row's. -/
import Derived.Test.YtidlfjajjieepaaGreatG5
import Derived.Test.YtidlfjajjieepaaGreatG2
namespace Go.Proofs.YtidlfjajjieepaaGreat
set_option linter.unusedSimpArgs false
set_option linter.unusedVariables false
open Go.RowKit
set_option maxHeartbeats 4000000
set_option maxRecDepth 100000
theorem same_y (H : ac) (W : Int) (Hh : Int) (pp : AV) (xs : List Int) (s : AV) (l : List T6) (tu : Int) (le : Int) (sl : Int) (ra : Int) (lost : Bool) (bz : Nat)   (gp : AV) (gs : AV)      (bu : Nat) (hpp : Sl H 1 pp xs.length (ints .u8 xs)) (hs : Sl H 6 s l.length (r6 l)) (hz : ∃ o, H[bz]? = some (.cells o 0 [.int .i64 W, .int .i64 Hh, pp, s, .int .i64 tu, .int .i64 le, .int .i64 sl, .int .i64 ra, .bool lost])) (hgp : Sl H 1 gp xs.length (ints .u8 xs)) (hgs : Sl H 6 gs l.length (r6 l)) (hu : ∃ o, H[bu]? = some (.cells o 0 [.int .i64 W, .int .i64 Hh, gp, gs, .int .i64 tu, .int .i64 le, .int .i64 sl, .int .i64 ra, .bool lost])) (hx6 : xs.length ≤ 1000000) (hx0 : 0 < xs.length) (hS : bW l = true) (hl0 : 0 < l.length) : ACalls Tryz.prog 10 [.ptr (some (bz, 0)), .ptr (some (bu, 0))] H (fun v H' => v = .bool true ∧ H' = H) := by
 obtain ⟨bpp, opp, cpp, rfl, hbpp⟩ := hpp
 have hblpp := getElem?_lt hbpp
 have hb0pp := fun l => aq (l := l) hbpp
 obtain ⟨bs, os, cs, rfl, hbs⟩ := hs
 have hbls := getElem?_lt hbs
 have hb0s := fun l => aq (l := l) hbs
 obtain ⟨bgp, ogp, cgp, rfl, hbgp⟩ := hgp
 have hblgp := getElem?_lt hbgp
 have hb0gp := fun l => aq (l := l) hbgp
 obtain ⟨bgs, ogs, cgs, rfl, hbgs⟩ := hgs
 have hblgs := getElem?_lt hbgs
 have hb0gs := fun l => aq (l := l) hbgs
 obtain ⟨oz, hbz⟩ := hz
 have hblz := getElem?_lt hbz
 have hb0z := fun l => aq (l := l) hbz
 obtain ⟨ou, hbu⟩ := hu
 have hblu := getElem?_lt hbu
 have hb0u := fun l => aq (l := l) hbu
 have hSS := cg.1 hS
 have hl16 := hSS.1
 refine AcT false Tryz.func10 ?_; intro hbel Q hQ
 have g'1 := (jn @hbpp (jn @hb0pp (jn @hbs (jn @hb0s (jn @hbgp (jn @hb0gp (jn @hbgs (jn @hb0gs (jn @hbz (jn @hb0z (jn @hbu (jn @hb0u (jn @Option.isNone_some.{0} @Nat.add_assoc)))))))))))))
 refine aa g'1 ?_
 refine af (by kernel_rfl) (lbox_c _ W Hh (.sl (some (bpp, 0)) xs.length cpp) xs (.sl (some (bs, 0)) l.length cs) l tu le sl ra lost _ ⟨_, _, _, rfl, by first | exact hb0pp _ | exact hbpp⟩ ⟨_, _, _, rfl, by first | exact hb0s _ | exact hbs⟩ ⟨_, by first | exact hb0z _ | exact hbz⟩ (by assumption) (by assumption)) ?_
 refine aa g'1 ?_
 refine af (by kernel_rfl) (rgbox_c _ W Hh (.sl (some (bgp, 0)) xs.length cgp) xs (.sl (some (bgs, 0)) l.length cgs) l tu le sl ra lost _ ⟨_, _, _, rfl, by first | exact hb0gp _ | exact hbgp⟩ ⟨_, _, _, rfl, by first | exact hb0gs _ | exact hbgs⟩ ⟨_, by first | exact hb0u _ | exact hbu⟩ (by assumption) (by assumption)) ?_
 refine aa g'1 ?_
 refine af (by kernel_rfl) (lE _ W Hh (.sl (some (bpp, 0)) xs.length cpp) xs (.sl (some (bs, 0)) l.length cs) l tu le sl ra lost _ ⟨_, _, _, rfl, by first | exact hb0pp _ | exact hbpp⟩ ⟨_, _, _, rfl, by first | exact hb0s _ | exact hbs⟩ ⟨_, by first | exact hb0z _ | exact hbz⟩ (by omega) (by assumption)) ?_
 refine aa g'1 ?_
 refine af (by kernel_rfl) (rgset_c _ W Hh (.sl (some (bgp, 0)) xs.length cgp) xs (.sl (some (bgs, 0)) l.length cgs) l tu le sl ra lost _ ⟨_, _, _, rfl, by first | exact hb0gp _ | exact hbgp⟩ ⟨_, _, _, rfl, by first | exact hb0gs _ | exact hbgs⟩ ⟨_, by first | exact hb0u _ | exact hbu⟩ (by omega) (by assumption)) ?_
 refine aa g'1 ?_
 refine af (by kernel_rfl) (bxs_e _ _ l _ l (by first | rfl | assumption) ⟨_, _, _, by first | rfl | (rw [List.length_append]; done) | (rw [List.length_append]; rfl), by first | rfl | (rw [al]; rfl) | (rw [ai]; rfl) | (rw [al, aj]; rfl) | (rw [ai, aj]; rfl)⟩ ⟨_, _, _, by first | rfl | (rw [List.length_append]; done) | (rw [List.length_append]; rfl), by first | rfl | (rw [al]; rfl) | (rw [ai]; rfl) | (rw [al, aj]; rfl) | (rw [ai, aj]; rfl)⟩ (by omega)) ?_
 refine aa g'1 ?_
 refine af (by kernel_rfl) (lY _ W Hh (.sl (some (bpp, 0)) xs.length cpp) xs (.sl (some (bs, 0)) l.length cs) l tu le sl ra lost _ ⟨_, _, _, rfl, by first | exact hb0pp _ | exact hbpp⟩ ⟨_, _, _, rfl, by first | exact hb0s _ | exact hbs⟩ ⟨_, by first | exact hb0z _ | exact hbz⟩ (by omega) (by omega)) ?_
 refine aa g'1 ?_
 refine af (by kernel_rfl) (rgplan_c _ W Hh (.sl (some (bgp, 0)) xs.length cgp) xs (.sl (some (bgs, 0)) l.length cgs) l tu le sl ra lost _ ⟨_, _, _, rfl, by first | exact hb0gp _ | exact hbgp⟩ ⟨_, _, _, rfl, by first | exact hb0gs _ | exact hbgs⟩ ⟨_, by first | exact hb0u _ | exact hbu⟩ (by omega) (by omega)) ?_
 refine aa g'1 ?_
 refine af (by kernel_rfl) (iw _ W Hh W Hh xs xs _ _ ⟨_, _, _, by first | rfl | (rw [List.length_append]; done) | (rw [List.length_append]; rfl), by first | rfl | (rw [al]; rfl) | (rw [ai]; rfl) | (rw [al, aj]; rfl) | (rw [ai, aj]; rfl)⟩ ⟨_, _, _, by first | rfl | (rw [List.length_append]; done) | (rw [List.length_append]; rfl), by first | rfl | (rw [al]; rfl) | (rw [ai]; rfl) | (rw [al, aj]; rfl) | (rw [ai, aj]; rfl)⟩ (by first | rfl | assumption) (by first | rfl | assumption) (by first | rfl | assumption)) ?_
 refine aa g'1 ?_
 refine af (by kernel_rfl) (jE _ W Hh (.sl (some (bpp, 0)) xs.length cpp) xs (.sl (some (bs, 0)) l.length cs) l tu le sl ra lost _ ⟨_, _, _, rfl, by first | exact hb0pp _ | exact hbpp⟩ ⟨_, _, _, rfl, by first | exact hb0s _ | exact hbs⟩ ⟨_, by first | exact hb0z _ | exact hbz⟩) ?_
 refine aa g'1 ?_
 refine af (by kernel_rfl) (rflost_c _ W Hh (.sl (some (bgp, 0)) xs.length cgp) xs (.sl (some (bgs, 0)) l.length cgs) l tu le sl ra lost _ ⟨_, _, _, rfl, by first | exact hb0gp _ | exact hbgp⟩ ⟨_, _, _, rfl, by first | exact hb0gs _ | exact hbgs⟩ ⟨_, by first | exact hb0u _ | exact hbu⟩) ?_
 refine aa g'1 ?_
 refine af (by kernel_rfl) (lvol_c _ W Hh (.sl (some (bpp, 0)) xs.length cpp) xs (.sl (some (bs, 0)) l.length cs) l tu le sl ra lost _ ⟨_, _, _, rfl, by first | exact hb0pp _ | exact hbpp⟩ ⟨_, _, _, rfl, by first | exact hb0s _ | exact hbs⟩ ⟨_, by first | exact hb0z _ | exact hbz⟩ (by omega) (by assumption)) ?_
 refine aa g'1 ?_
 refine af (by kernel_rfl) (rgvol_c _ W Hh (.sl (some (bgp, 0)) xs.length cgp) xs (.sl (some (bgs, 0)) l.length cgs) l tu le sl ra lost _ ⟨_, _, _, rfl, by first | exact hb0gp _ | exact hbgp⟩ ⟨_, _, _, rfl, by first | exact hb0gs _ | exact hbgs⟩ ⟨_, by first | exact hb0u _ | exact hbu⟩ (by omega) (by assumption)) ?_
 refine aa g'1 ?_
 exact hQ _ _ (ae (.inl rfl) hbel (x := .bool true) (ag Tryz.results10) rfl ⟨rfl, rfl⟩)
theorem same_n (H : ac)   : ACalls Tryz.prog 10 [.ptr none, .ptr none] H (fun v H' => v = .bool true ∧ H' = H) := by
 refine AcT false Tryz.func10 ?_; intro hbel Q hQ
 have g'2 := (jn @Option.isNone_none.{0} trivial)
 refine aa g'2 ?_
 refine af (by kernel_rfl) (lbx_n _) ?_
 refine aa g'2 ?_
 refine af (by kernel_rfl) (rgb_n _) ?_
 refine aa g'2 ?_
 refine af (by kernel_rfl) (lst_n _) ?_
 refine aa g'2 ?_
 refine af (by kernel_rfl) (rgs_n _) ?_
 refine aa g'2 ?_
 refine af (by kernel_rfl) (boxz_c _) ?_
 refine aa g'2 ?_
 refine af (by kernel_rfl) (lpl_n _) ?_
 refine aa g'2 ?_
 refine af (by kernel_rfl) (rgp_n _) ?_
 refine aa g'2 ?_
 refine af (by kernel_rfl) (planz_c _) ?_
 refine aa g'2 ?_
 refine af (by kernel_rfl) (lls_n _) ?_
 refine aa g'2 ?_
 refine af (by kernel_rfl) (rgl_n _) ?_
 refine aa g'2 ?_
 refine af (by kernel_rfl) (lvl_n _) ?_
 refine aa g'2 ?_
 refine af (by kernel_rfl) (rgv_n _) ?_
 refine aa g'2 ?_
 exact hQ _ _ (ae (.inl rfl) hbel (x := .bool true) (ag Tryz.results10) rfl ⟨rfl, rfl⟩)
open Go.RowKit
theorem lb_mv (H : ac) (pp s : AV) (bz : Nat) (hpp : Sl H 1 pp 4 (ints .u8 [1, 1, 1, 2])) (hs : Sl H 6 s laL.length (r6 laL)) (hz : H[bz]? = some (.cells true 0 [.int .i64 4, .int .i64 1, pp, s, .int .i64 0, .int .i64 0, .int .i64 0, .int .i64 4, .bool false])) : ACalls Tryz.prog 19 [.ptr (some (bz, 0)), .agg [.int .i64 0, .int .i64 10], .bool false] H (fun v H' => v = .int .i64 0 ∧ H' = H.set bz (.cells true 0 [.int .i64 4, .int .i64 1, pp, .sl (some (H.length, 0)) laM.length none, .int .i64 0, .int .i64 0, .int .i64 0, .int .i64 4, .bool false]) ++ [.cells true 6 (r6 laM)]) := by
 have k := lmv_y H 4 1 pp [1, 1, 1, 2] s laL 0 0 0 4 bz 0 10 false hpp hs hz la_s2 (by decide) lb_c1 la_b lb_im
 rw [lb_is] at k
 exact k
theorem lb_see (H : ac) (pp s q : AV) (bz : Nat) (hpp : Sl H 1 pp 4 (ints .u8 [1, 1, 1, 2])) (hs : Sl H 6 s laM.length (r6 laM)) (hz : H[bz]? = some (.cells true 0 [.int .i64 4, .int .i64 1, pp, s, .int .i64 0, .int .i64 0, .int .i64 0, .int .i64 4, .bool false])) (hq : Sl H 2 q 1 (prs [(0, 3)])) : ACalls Tryz.prog 21 [.ptr (some (bz, 0)), q] H (fun v H' => v = .int .i64 12 ∧ H' = H.set bz (.cells true 0 [.int .i64 4, .int .i64 1, pp, s, .int .i64 0, .int .i64 0, .int .i64 0, .int .i64 4, .bool true])) :=
 lse_e H 4 1 pp [1, 1, 1, 2] s laM 0 0 0 4 bz q [(0, 3)] hpp hs hz hq la_v2 lb_s (by decide) la_c2 (by decide) (by rw [lb_r]; rfl)
theorem lb_mv2 (H : ac) (pp s : AV) (bz : Nat) (hpp : Sl H 1 pp 4 (ints .u8 [1, 1, 1, 2])) (hs : Sl H 6 s laM.length (r6 laM)) (hz : ∃ o, H[bz]? = some (.cells o 0 [.int .i64 4, .int .i64 1, pp, s, .int .i64 0, .int .i64 0, .int .i64 0, .int .i64 4, .bool true])) : ACalls Tryz.prog 19 [.ptr (some (bz, 0)), .agg [.int .i64 0, .int .i64 0], .bool false] H (fun v H' => v = .int .i64 9 ∧ H' = H) :=
 lmv_s H 4 1 pp [1, 1, 1, 2] s laM 0 0 0 4 bz 0 0 false hpp hs hz lb_c2
theorem lb_box (H : ac) (pp s : AV) (bz : Nat) (hpp : Sl H 1 pp 4 (ints .u8 [1, 1, 1, 2])) (hs : Sl H 6 s laM.length (r6 laM)) (hz : ∃ o, H[bz]? = some (.cells o 0 [.int .i64 4, .int .i64 1, pp, s, .int .i64 0, .int .i64 0, .int .i64 0, .int .i64 4, .bool false])) : ACalls Tryz.prog 26 [.ptr (some (bz, 0))] H (fun v H' => v = .tup [.agg [.int .i64 42, .int .i64 32, .int .i64 50, .int .i64 32, .int .i64 0, .int .i64 1], .bool true] ∧ H' = H) := by
 have k := lbox_c H 4 1 pp [1, 1, 1, 2] s laM 0 0 0 4 false bz hpp hs hz lb_s (by decide)
 rw [lb_h] at k
 exact k
theorem lb_res (H : ac) (pp s q : AV) (bz : Nat) (hpp : Sl H 1 pp 4 (ints .u8 [1, 1, 1, 2])) (hs : Sl H 6 s laM.length (r6 laM)) (hz : H[bz]? = some (.cells true 0 [.int .i64 4, .int .i64 1, pp, s, .int .i64 0, .int .i64 0, .int .i64 0, .int .i64 4, .bool true])) (hq : Sl H 6 q 1 (r6 [(100, 32, 100, 32, 0, 1)])) : ACalls Tryz.prog 16 [.ptr (some (bz, 0)), q] H (fun v H' => v = .int .i64 0 ∧ H' = H.set bz (.cells true 0 [.int .i64 4, .int .i64 1, pp, .sl (some (H.length, 0)) 1 none, .int .i64 0, .int .i64 0, .int .i64 0, .int .i64 4, .bool false]) ++ [.cells true 6 (r6 [(100, 32, 100, 32, 0, 1)])]) :=
 lrs_y H 4 1 pp [1, 1, 1, 2] s laM 0 0 0 4 true bz q [(100, 32, 100, 32, 0, 1)] hpp hs hz hq lb_m
theorem lb_vol (H : ac) (pp s : AV) (bz : Nat) (hpp : Sl H 1 pp 4 (ints .u8 [1, 1, 1, 2])) (hs : Sl H 6 s 1 (r6 [(100, 32, 100, 32, 0, 1)])) (hz : ∃ o, H[bz]? = some (.cells o 0 [.int .i64 4, .int .i64 1, pp, s, .int .i64 0, .int .i64 0, .int .i64 0, .int .i64 4, .bool false])) : ACalls Tryz.prog 25 [.ptr (some (bz, 0))] H (fun v H' => v = .int .i64 1 ∧ H' = H) := by
 have k := lvol_c H 4 1 pp [1, 1, 1, 2] s [(100, 32, 100, 32, 0, 1)] 0 0 0 4 false bz hpp hs hz (by decide) (by decide)
 rw [lb_v] at k
 exact k
theorem lb_set (H : ac) (pp s : AV) (bz : Nat) (hpp : Sl H 1 pp 4 (ints .u8 [1, 1, 1, 2])) (hs : Sl H 6 s 1 (r6 [(100, 32, 100, 32, 0, 1)])) (hz : ∃ o, H[bz]? = some (.cells o 0 [.int .i64 4, .int .i64 1, pp, s, .int .i64 0, .int .i64 0, .int .i64 0, .int .i64 4, .bool false])) : ACalls Tryz.prog 12 [.ptr (some (bz, 0))] H (fun v H' => v = .sl (some (H.length, 0)) 1 none ∧ H' = H ++ [.cells true 6 (r6 [(100, 32, 100, 32, 0, 1)])]) :=
 lE H 4 1 pp [1, 1, 1, 2] s [(100, 32, 100, 32, 0, 1)] 0 0 0 4 false bz hpp hs hz (by decide) (by decide)
set_option maxHeartbeats 4000000 in
set_option maxRecDepth 100000 in
theorem kaw_c (H : ac)  : ACalls Tryz.prog 7 [] H (fun v H' => v = .bool true ∧ H' = H) := by
 refine AcT false Tryz.func7 ?_; intro hbel Q hQ
 simp -implicitDefEqProofs (maxSteps := 2000000) (disch := omega) only [bO, List.length_replicate, Option.isNone_some.{0}, Option.isNone_none.{0}, Nat.add_assoc, bQ, bB, bC, bR, simprocAttr, aF, aG, Function.comp_apply, one1, lenV, ap, az, aA, aop, AV.ofValue, AV.ofCell, AV.cells, AV.flat, AV.one, arep, aP, aE]
 repeat refine And.intro (by omega) ?_
 refine af (by kernel_rfl) (lnew_y _ 4 1 _ [0, 0, 0, 0] _ [(32, 32, 40, 32, 0, 1)] 0 0 0 4 ⟨_, _, _, by first | rfl | (rw [List.length_append]; done) | (rw [List.length_append]; rfl), by first | rfl | (rw [al]; rfl) | (rw [ai]; rfl) | (rw [al, aj]; rfl) | (rw [ai, aj]; rfl)⟩ ⟨_, _, _, by first | rfl | (rw [List.length_append]; done) | (rw [List.length_append]; rfl), by first | rfl | (rw [al]; rfl) | (rw [ai]; rfl) | (rw [al, aj]; rfl) | (rw [ai, aj]; rfl)⟩ la_v la_l la_b) ?_
 simp -implicitDefEqProofs (maxSteps := 2000000) (disch := omega) only [bO, List.length_replicate, Option.isNone_some.{0}, Option.isNone_none.{0}, Nat.add_assoc, bQ, bB, bC, bR, simprocAttr, aF, aG, Function.comp_apply, one1, lenV, ap, az, aA, aop, AV.ofValue, AV.ofCell, AV.cells, AV.flat, AV.one, arep, aP, aE]
 repeat refine And.intro (by omega) ?_
 refine af (by kernel_rfl) (lcl_n _) ?_
 simp -implicitDefEqProofs (maxSteps := 2000000) (disch := omega) only [bO, List.length_replicate, Option.isNone_some.{0}, Option.isNone_none.{0}, Nat.add_assoc, bQ, bB, bC, bR, simprocAttr, aF, aG, Function.comp_apply, one1, lenV, ap, az, aA, aop, AV.ofValue, AV.ofCell, AV.cells, AV.flat, AV.one, arep, aP, aE]
 repeat refine And.intro (by omega) ?_
 refine af (by kernel_rfl) (lls_n _) ?_
 simp -implicitDefEqProofs (maxSteps := 2000000) (disch := omega) only [bO, List.length_replicate, Option.isNone_some.{0}, Option.isNone_none.{0}, Nat.add_assoc, bQ, bB, bC, bR, simprocAttr, aF, aG, Function.comp_apply, one1, lenV, ap, az, aA, aop, AV.ofValue, AV.ofCell, AV.cells, AV.flat, AV.one, arep, aP, aE]
 repeat refine And.intro (by omega) ?_
 refine af (by kernel_rfl) (lvl_n _) ?_
 simp -implicitDefEqProofs (maxSteps := 2000000) (disch := omega) only [bO, List.length_replicate, Option.isNone_some.{0}, Option.isNone_none.{0}, Nat.add_assoc, bQ, bB, bC, bR, simprocAttr, aF, aG, Function.comp_apply, one1, lenV, ap, az, aA, aop, AV.ofValue, AV.ofCell, AV.cells, AV.flat, AV.one, arep, aP, aE]
 repeat refine And.intro (by omega) ?_
 refine af (by kernel_rfl) (lse_n _) ?_
 simp -implicitDefEqProofs (maxSteps := 2000000) (disch := omega) only [bO, List.length_replicate, Option.isNone_some.{0}, Option.isNone_none.{0}, Nat.add_assoc, bQ, bB, bC, bR, simprocAttr, aF, aG, Function.comp_apply, one1, lenV, ap, az, aA, aop, AV.ofValue, AV.ofCell, AV.cells, AV.flat, AV.one, arep, aP, aE]
 repeat refine And.intro (by omega) ?_
 refine af (by kernel_rfl) (la_see1 _ (.sl (some (H.length + 3, 0)) 4 none) (.sl (some (H.length + 4, 0)) 1 none) _ _ ⟨_, _, _, by first | rfl | (rw [List.length_append]; done) | (rw [List.length_append]; rfl), by first | rfl | (rw [al]; rfl) | (rw [ai]; rfl) | (rw [al, aj]; rfl) | (rw [ai, aj]; rfl)⟩ ⟨_, _, _, by first | rfl | (rw [List.length_append]; done) | (rw [List.length_append]; rfl), by first | rfl | (rw [al]; rfl) | (rw [ai]; rfl) | (rw [al, aj]; rfl) | (rw [ai, aj]; rfl)⟩ (by first | rfl | (rw [al]; rfl) | (rw [ai]; rfl) | (rw [ai])) ⟨_, _, _, by first | rfl | (rw [List.length_append]; done) | (rw [List.length_append]; rfl), by first | rfl | (rw [al]; rfl) | (rw [ai]; rfl) | (rw [al, aj]; rfl) | (rw [ai, aj]; rfl)⟩) ?_
 simp -implicitDefEqProofs (maxSteps := 2000000) (disch := omega) only [bO, List.length_replicate, Option.isNone_some.{0}, Option.isNone_none.{0}, Nat.add_assoc, bQ, bB, bC, bR, simprocAttr, aF, aG, Function.comp_apply, one1, lenV, ap, az, aA, aop, AV.ofValue, AV.ofCell, AV.cells, AV.flat, AV.one, arep, aP, aE]
 repeat refine And.intro (by omega) ?_
 refine af (by kernel_rfl) (lY _ 4 1 (.sl (some (H.length + 7, 0)) 4 none) [1, 1, 1, 2] (.sl (some (H.length + 8, 0)) laL.length none) laL 0 0 0 4 false _ ⟨_, _, _, by first | rfl | (rw [List.length_append]; done) | (rw [List.length_append]; rfl), by first | rfl | (rw [al]; rfl) | (rw [ai]; rfl) | (rw [al, aj]; rfl) | (rw [ai, aj]; rfl)⟩ ⟨_, _, _, by first | rfl | (rw [List.length_append]; done) | (rw [List.length_append]; rfl), by first | rfl | (rw [al]; rfl) | (rw [ai]; rfl) | (rw [al, aj]; rfl) | (rw [ai, aj]; rfl)⟩ ⟨_, by first | rfl | (rw [al]; rfl) | (rw [ai]; rfl) | (rw [ai])⟩ (by decide) (by decide)) ?_
 simp -implicitDefEqProofs (maxSteps := 2000000) (disch := omega) only [bO, List.length_replicate, Option.isNone_some.{0}, Option.isNone_none.{0}, Nat.add_assoc, bQ, bB, bC, bR, simprocAttr, aF, aG, Function.comp_apply, one1, lenV, ap, az, aA, aop, AV.ofValue, AV.ofCell, AV.cells, AV.flat, AV.one, arep, aP, aE]
 repeat refine And.intro (by omega) ?_
 refine af (by kernel_rfl) (iw _ 4 1 4 1 [1, 1, 1, 2] [1, 1, 1, 2] _ _ ⟨_, _, _, by first | rfl | (rw [List.length_append]; done) | (rw [List.length_append]; rfl), by first | rfl | (rw [al]; rfl) | (rw [ai]; rfl) | (rw [al, aj]; rfl) | (rw [ai, aj]; rfl)⟩ ⟨_, _, _, by first | rfl | (rw [List.length_append]; done) | (rw [List.length_append]; rfl), by first | rfl | (rw [al]; rfl) | (rw [ai]; rfl) | (rw [al, aj]; rfl) | (rw [ai, aj]; rfl)⟩ (by first | rfl | assumption) (by first | rfl | assumption) (by first | rfl | assumption)) ?_
 simp -implicitDefEqProofs (maxSteps := 2000000) (disch := omega) only [bO, List.length_replicate, Option.isNone_some.{0}, Option.isNone_none.{0}, Nat.add_assoc, bQ, bB, bC, bR, simprocAttr, aF, aG, Function.comp_apply, one1, lenV, ap, az, aA, aop, AV.ofValue, AV.ofCell, AV.cells, AV.flat, AV.one, arep, aP, aE]
 repeat refine And.intro (by omega) ?_
 refine af (by kernel_rfl) (la_volc _ (.sl (some (H.length + 7, 0)) 4 none) (.sl (some (H.length + 8, 0)) laL.length none) _ ⟨_, _, _, by first | rfl | (rw [List.length_append]; done) | (rw [List.length_append]; rfl), by first | rfl | (rw [al]; rfl) | (rw [ai]; rfl) | (rw [al, aj]; rfl) | (rw [ai, aj]; rfl)⟩ ⟨_, _, _, by first | rfl | (rw [List.length_append]; done) | (rw [List.length_append]; rfl), by first | rfl | (rw [al]; rfl) | (rw [ai]; rfl) | (rw [al, aj]; rfl) | (rw [ai, aj]; rfl)⟩ ⟨_, by first | rfl | (rw [al]; rfl) | (rw [ai]; rfl) | (rw [ai])⟩) ?_
 simp -implicitDefEqProofs (maxSteps := 2000000) (disch := omega) only [bO, List.length_replicate, Option.isNone_some.{0}, Option.isNone_none.{0}, Nat.add_assoc, bQ, bB, bC, bR, simprocAttr, aF, aG, Function.comp_apply, one1, lenV, ap, az, aA, aop, AV.ofValue, AV.ofCell, AV.cells, AV.flat, AV.one, arep, aP, aE]
 repeat refine And.intro (by omega) ?_
 refine af (by kernel_rfl) (jE _ 4 1 (.sl (some (H.length + 7, 0)) 4 none) [1, 1, 1, 2] (.sl (some (H.length + 8, 0)) laL.length none) laL 0 0 0 4 false _ ⟨_, _, _, by first | rfl | (rw [List.length_append]; done) | (rw [List.length_append]; rfl), by first | rfl | (rw [al]; rfl) | (rw [ai]; rfl) | (rw [al, aj]; rfl) | (rw [ai, aj]; rfl)⟩ ⟨_, _, _, by first | rfl | (rw [List.length_append]; done) | (rw [List.length_append]; rfl), by first | rfl | (rw [al]; rfl) | (rw [ai]; rfl) | (rw [al, aj]; rfl) | (rw [ai, aj]; rfl)⟩ ⟨_, by first | rfl | (rw [al]; rfl) | (rw [ai]; rfl) | (rw [ai])⟩) ?_
 simp -implicitDefEqProofs (maxSteps := 2000000) (disch := omega) only [bO, List.length_replicate, Option.isNone_some.{0}, Option.isNone_none.{0}, Nat.add_assoc, bQ, bB, bC, bR, simprocAttr, aF, aG, Function.comp_apply, one1, lenV, ap, az, aA, aop, AV.ofValue, AV.ofCell, AV.cells, AV.flat, AV.one, arep, aP, aE]
 repeat refine And.intro (by omega) ?_
 refine af (by kernel_rfl) (lb_mv _ (.sl (some (H.length + 7, 0)) 4 none) (.sl (some (H.length + 8, 0)) laL.length none) _ ⟨_, _, _, by first | rfl | (rw [List.length_append]; done) | (rw [List.length_append]; rfl), by first | rfl | (rw [al]; rfl) | (rw [ai]; rfl) | (rw [al, aj]; rfl) | (rw [ai, aj]; rfl)⟩ ⟨_, _, _, by first | rfl | (rw [List.length_append]; done) | (rw [List.length_append]; rfl), by first | rfl | (rw [al]; rfl) | (rw [ai]; rfl) | (rw [al, aj]; rfl) | (rw [ai, aj]; rfl)⟩ (by first | rfl | (rw [al]; rfl) | (rw [ai]; rfl) | (rw [ai]))) ?_
 simp -implicitDefEqProofs (maxSteps := 2000000) (disch := omega) only [bO, List.length_replicate, Option.isNone_some.{0}, Option.isNone_none.{0}, Nat.add_assoc, bQ, bB, bC, bR, simprocAttr, aF, aG, Function.comp_apply, one1, lenV, ap, az, aA, aop, AV.ofValue, AV.ofCell, AV.cells, AV.flat, AV.one, arep, aP, aE]
 repeat refine And.intro (by omega) ?_
 refine af (by kernel_rfl) (lb_box _ (.sl (some (H.length + 7, 0)) 4 none) (.sl (some (H.length + 11, 0)) laM.length none) _ ⟨_, _, _, by first | rfl | (rw [List.length_append]; done) | (rw [List.length_append]; rfl), by first | rfl | (rw [al]; rfl) | (rw [ai]; rfl) | (rw [al, aj]; rfl) | (rw [ai, aj]; rfl)⟩ ⟨_, _, _, by first | rfl | (rw [List.length_append]; done) | (rw [List.length_append]; rfl), by first | rfl | (rw [al]; rfl) | (rw [ai]; rfl) | (rw [al, aj]; rfl) | (rw [ai, aj]; rfl)⟩ ⟨_, by first | rfl | (rw [al]; rfl) | (rw [ai]; rfl) | (rw [ai])⟩) ?_
 simp -implicitDefEqProofs (maxSteps := 2000000) (disch := omega) only [bO, List.length_replicate, Option.isNone_some.{0}, Option.isNone_none.{0}, Nat.add_assoc, bQ, bB, bC, bR, simprocAttr, aF, aG, Function.comp_apply, one1, lenV, ap, az, aA, aop, AV.ofValue, AV.ofCell, AV.cells, AV.flat, AV.one, arep, aP, aE]
 repeat refine And.intro (by omega) ?_
 refine af (by kernel_rfl) (lb_see _ (.sl (some (H.length + 7, 0)) 4 none) (.sl (some (H.length + 11, 0)) laM.length none) _ _ ⟨_, _, _, by first | rfl | (rw [List.length_append]; done) | (rw [List.length_append]; rfl), by first | rfl | (rw [al]; rfl) | (rw [ai]; rfl) | (rw [al, aj]; rfl) | (rw [ai, aj]; rfl)⟩ ⟨_, _, _, by first | rfl | (rw [List.length_append]; done) | (rw [List.length_append]; rfl), by first | rfl | (rw [al]; rfl) | (rw [ai]; rfl) | (rw [al, aj]; rfl) | (rw [ai, aj]; rfl)⟩ (by first | rfl | (rw [al]; rfl) | (rw [ai]; rfl) | (rw [ai])) ⟨_, _, _, by first | rfl | (rw [List.length_append]; done) | (rw [List.length_append]; rfl), by first | rfl | (rw [al]; rfl) | (rw [ai]; rfl) | (rw [al, aj]; rfl) | (rw [ai, aj]; rfl)⟩) ?_
 simp -implicitDefEqProofs (maxSteps := 2000000) (disch := omega) only [bO, List.length_replicate, Option.isNone_some.{0}, Option.isNone_none.{0}, Nat.add_assoc, bQ, bB, bC, bR, simprocAttr, aF, aG, Function.comp_apply, one1, lenV, ap, az, aA, aop, AV.ofValue, AV.ofCell, AV.cells, AV.flat, AV.one, arep, aP, aE]
 repeat refine And.intro (by omega) ?_
 refine af (by kernel_rfl) (jE _ 4 1 (.sl (some (H.length + 7, 0)) 4 none) [1, 1, 1, 2] (.sl (some (H.length + 11, 0)) laM.length none) laM 0 0 0 4 true _ ⟨_, _, _, by first | rfl | (rw [List.length_append]; done) | (rw [List.length_append]; rfl), by first | rfl | (rw [al]; rfl) | (rw [ai]; rfl) | (rw [al, aj]; rfl) | (rw [ai, aj]; rfl)⟩ ⟨_, _, _, by first | rfl | (rw [List.length_append]; done) | (rw [List.length_append]; rfl), by first | rfl | (rw [al]; rfl) | (rw [ai]; rfl) | (rw [al, aj]; rfl) | (rw [ai, aj]; rfl)⟩ ⟨_, by first | rfl | (rw [al]; rfl) | (rw [ai]; rfl) | (rw [ai])⟩) ?_
 simp -implicitDefEqProofs (maxSteps := 2000000) (disch := omega) only [bO, List.length_replicate, Option.isNone_some.{0}, Option.isNone_none.{0}, Nat.add_assoc, bQ, bB, bC, bR, simprocAttr, aF, aG, Function.comp_apply, one1, lenV, ap, az, aA, aop, AV.ofValue, AV.ofCell, AV.cells, AV.flat, AV.one, arep, aP, aE]
 repeat refine And.intro (by omega) ?_
 refine af (by kernel_rfl) (lb_mv2 _ (.sl (some (H.length + 7, 0)) 4 none) (.sl (some (H.length + 11, 0)) laM.length none) _ ⟨_, _, _, by first | rfl | (rw [List.length_append]; done) | (rw [List.length_append]; rfl), by first | rfl | (rw [al]; rfl) | (rw [ai]; rfl) | (rw [al, aj]; rfl) | (rw [ai, aj]; rfl)⟩ ⟨_, _, _, by first | rfl | (rw [List.length_append]; done) | (rw [List.length_append]; rfl), by first | rfl | (rw [al]; rfl) | (rw [ai]; rfl) | (rw [al, aj]; rfl) | (rw [ai, aj]; rfl)⟩ ⟨_, by first | rfl | (rw [al]; rfl) | (rw [ai]; rfl) | (rw [ai])⟩) ?_
 simp -implicitDefEqProofs (maxSteps := 2000000) (disch := omega) only [bO, List.length_replicate, Option.isNone_some.{0}, Option.isNone_none.{0}, Nat.add_assoc, bQ, bB, bC, bR, simprocAttr, aF, aG, Function.comp_apply, one1, lenV, ap, az, aA, aop, AV.ofValue, AV.ofCell, AV.cells, AV.flat, AV.one, arep, aP, aE]
 repeat refine And.intro (by omega) ?_
 refine af (by kernel_rfl) (lb_res _ (.sl (some (H.length + 7, 0)) 4 none) (.sl (some (H.length + 11, 0)) laM.length none) _ _ ⟨_, _, _, by first | rfl | (rw [List.length_append]; done) | (rw [List.length_append]; rfl), by first | rfl | (rw [al]; rfl) | (rw [ai]; rfl) | (rw [al, aj]; rfl) | (rw [ai, aj]; rfl)⟩ ⟨_, _, _, by first | rfl | (rw [List.length_append]; done) | (rw [List.length_append]; rfl), by first | rfl | (rw [al]; rfl) | (rw [ai]; rfl) | (rw [al, aj]; rfl) | (rw [ai, aj]; rfl)⟩ (by first | rfl | (rw [al]; rfl) | (rw [ai]; rfl) | (rw [ai])) ⟨_, _, _, by first | rfl | (rw [List.length_append]; done) | (rw [List.length_append]; rfl), by first | rfl | (rw [al]; rfl) | (rw [ai]; rfl) | (rw [al, aj]; rfl) | (rw [ai, aj]; rfl)⟩) ?_
 simp -implicitDefEqProofs (maxSteps := 2000000) (disch := omega) only [bO, List.length_replicate, Option.isNone_some.{0}, Option.isNone_none.{0}, Nat.add_assoc, bQ, bB, bC, bR, simprocAttr, aF, aG, Function.comp_apply, one1, lenV, ap, az, aA, aop, AV.ofValue, AV.ofCell, AV.cells, AV.flat, AV.one, arep, aP, aE]
 repeat refine And.intro (by omega) ?_
 refine af (by kernel_rfl) (lb_vol _ (.sl (some (H.length + 7, 0)) 4 none) (.sl (some (H.length + 15, 0)) 1 none) _ ⟨_, _, _, by first | rfl | (rw [List.length_append]; done) | (rw [List.length_append]; rfl), by first | rfl | (rw [al]; rfl) | (rw [ai]; rfl) | (rw [al, aj]; rfl) | (rw [ai, aj]; rfl)⟩ ⟨_, _, _, by first | rfl | (rw [List.length_append]; done) | (rw [List.length_append]; rfl), by first | rfl | (rw [al]; rfl) | (rw [ai]; rfl) | (rw [al, aj]; rfl) | (rw [ai, aj]; rfl)⟩ ⟨_, by first | rfl | (rw [al]; rfl) | (rw [ai]; rfl) | (rw [ai])⟩) ?_
 simp -implicitDefEqProofs (maxSteps := 2000000) (disch := omega) only [bO, List.length_replicate, Option.isNone_some.{0}, Option.isNone_none.{0}, Nat.add_assoc, bQ, bB, bC, bR, simprocAttr, aF, aG, Function.comp_apply, one1, lenV, ap, az, aA, aop, AV.ofValue, AV.ofCell, AV.cells, AV.flat, AV.one, arep, aP, aE]
 repeat refine And.intro (by omega) ?_
 refine af (by kernel_rfl) (jE _ 4 1 (.sl (some (H.length + 7, 0)) 4 none) [1, 1, 1, 2] (.sl (some (H.length + 15, 0)) 1 none) [(100, 32, 100, 32, 0, 1)] 0 0 0 4 false _ ⟨_, _, _, by first | rfl | (rw [List.length_append]; done) | (rw [List.length_append]; rfl), by first | rfl | (rw [al]; rfl) | (rw [ai]; rfl) | (rw [al, aj]; rfl) | (rw [ai, aj]; rfl)⟩ ⟨_, _, _, by first | rfl | (rw [List.length_append]; done) | (rw [List.length_append]; rfl), by first | rfl | (rw [al]; rfl) | (rw [ai]; rfl) | (rw [al, aj]; rfl) | (rw [ai, aj]; rfl)⟩ ⟨_, by first | rfl | (rw [al]; rfl) | (rw [ai]; rfl) | (rw [ai])⟩) ?_
 simp -implicitDefEqProofs (maxSteps := 2000000) (disch := omega) only [bO, List.length_replicate, Option.isNone_some.{0}, Option.isNone_none.{0}, Nat.add_assoc, bQ, bB, bC, bR, simprocAttr, aF, aG, Function.comp_apply, one1, lenV, ap, az, aA, aop, AV.ofValue, AV.ofCell, AV.cells, AV.flat, AV.one, arep, aP, aE]
 repeat refine And.intro (by omega) ?_
 refine af (by kernel_rfl) (lb_set _ (.sl (some (H.length + 7, 0)) 4 none) (.sl (some (H.length + 15, 0)) 1 none) _ ⟨_, _, _, by first | rfl | (rw [List.length_append]; done) | (rw [List.length_append]; rfl), by first | rfl | (rw [al]; rfl) | (rw [ai]; rfl) | (rw [al, aj]; rfl) | (rw [ai, aj]; rfl)⟩ ⟨_, _, _, by first | rfl | (rw [List.length_append]; done) | (rw [List.length_append]; rfl), by first | rfl | (rw [al]; rfl) | (rw [ai]; rfl) | (rw [al, aj]; rfl) | (rw [ai, aj]; rfl)⟩ ⟨_, by first | rfl | (rw [al]; rfl) | (rw [ai]; rfl) | (rw [ai])⟩) ?_
 simp -implicitDefEqProofs (maxSteps := 2000000) (disch := omega) only [bO, List.length_replicate, Option.isNone_some.{0}, Option.isNone_none.{0}, Nat.add_assoc, bQ, bB, bC, bR, simprocAttr, aF, aG, Function.comp_apply, one1, lenV, ap, az, aA, aop, AV.ofValue, AV.ofCell, AV.cells, AV.flat, AV.one, arep, aP, aE]
 repeat refine And.intro (by omega) ?_
 exact hQ _ _ (ae (.inl rfl) hbel (x := .bool true) (ret_of Tryz.results7 (by simp -implicitDefEqProofs (maxSteps := 2000000) (disch := omega) only [simprocAttr, aF, aG, Function.comp_apply, one1, lenV, ap, az, aA, aop, AV.ofValue, AV.ofCell, AV.cells, AV.flat, AV.one, arep, aP, av, aE])) rfl ⟨rfl, rfl⟩)
open Go.RowKit
theorem lnw_c (H : ac) (W : Int) (Hh : Int) (pp : AV) (xs : List Int) (s : AV) (l : List T6) (tu : Int) (le : Int) (sl : Int) (ra : Int) (hpp : Sl H 1 pp xs.length (ints .u8 xs)) (hs : Sl H 6 s l.length (r6 l)) (hxl : xs.length ≤ 9223372036854775807) (hll : l.length ≤ 9223372036854775807) : ACalls Tryz.prog 3 [.agg [.int .i64 W, .int .i64 Hh, pp], s, .agg [.int .i64 tu, .int .i64 le, .int .i64 sl, .int .i64 ra]] H (fun v H' => v = .bool true ∧ H' = H) := by
 obtain ⟨bpp, opp, cpp, rfl, hbpp⟩ := hpp
 have hblpp := getElem?_lt hbpp
 have hb0pp := fun l => aq (l := l) hbpp
 obtain ⟨bs, os, cs, rfl, hbs⟩ := hs
 have hbls := getElem?_lt hbs
 have hb0s := fun l => aq (l := l) hbs
 refine AcT false Tryz.func3 ?_; intro hbel Q hQ
 have g'1 := (jn @hbpp (jn @hb0pp (jn @hbs (jn @hb0s @Nat.add_assoc))))
 refine aa g'1 ?_
 refine af (by kernel_rfl) (kaw_c _) ?_
 refine aa g'1 ?_
 refine ak (fun h1 => ?_) (fun h1 => ?_)
 ·have h1d := bsT h1
  have g'2 := (jn @h1 (jn @h1d g'1))
  refine aa g'2 ?_
  refine ah (fun h2 => ?_) (fun h2 => ?_)
  ·have h2d := bsT h2
   have g'3 := (jn @h2 (jn @h2d g'2))
   refine aa g'3 ?_
   refine af (by kernel_rfl) (kaw_c _) ?_
   refine aa g'3 ?_
   exact hQ _ _ (ae (.inl rfl) hbel (x := .bool true) (ag Tryz.results3) rfl ⟨by first | rfl | simp, rfl⟩)
  ·have h2d := bsT h2
   have g'4 := (jn @h2 (jn @h2d g'2))
   refine aa g'4 ?_
   rcases Bool.eq_false_or_eq_true (cl W Hh xs && lsB l && cC tu le sl ra) with h3 | h3
   ·have h3d := h3
    have hVL := h3d
    rw [Bool.and_eq_true, Bool.and_eq_true] at hVL
    have hV := hVL.1.1
    have hL := hVL.1.2
    have hB := hVL.2
    have hVV := cJ.1 hV
    have hw0 := hVV.w0
    have hh0 := hVV.h0
    have hw1 := hVV.w1
    have hh1 := hVV.h1
    have hS := (eQ.1 hL).2
    have hl0 := (eQ.1 hL).1
    have hl16 := (cg.1 hS).1
    have hx0 : 0 < xs.length := by have := (hVV.idx (show inB W Hh 0 0 = true from dU.2 (by omega))).2.2.2.2.1; omega
    refine af (by kernel_rfl) (lnew_y _ W Hh _ xs _ l tu le sl ra ⟨_, _, _, rfl, by first | exact hb0pp _ | exact hbpp⟩ ⟨_, _, _, rfl, by first | exact hb0s _ | exact hbs⟩ (by assumption) (by assumption) (by assumption)) ?_
    have g'5 := (jn @h3 (jn @h3d g'4))
    refine aa g'5 ?_
    refine af (by kernel_rfl) (rgnew_y _ W Hh _ xs _ l tu le sl ra ⟨_, _, _, rfl, by first | exact hb0pp _ | exact hbpp⟩ ⟨_, _, _, rfl, by first | exact hb0s _ | exact hbs⟩ (by assumption) (by assumption) (by assumption)) ?_
    refine aa g'5 ?_
    refine aB (by kernel_rfl) (same_y _ W Hh (.sl (some (H.length + 2, 0)) xs.length none) xs (.sl (some (H.length + 3, 0)) l.length none) l tu le sl ra false _ (.sl (some (H.length + 5, 0)) xs.length none) (.sl (some (H.length + 6, 0)) l.length none) _ ⟨_, _, _, by first | rfl | (rw [List.length_append]; done) | (rw [List.length_append]; rfl), by first | rfl | (rw [al]; rfl) | (rw [ai]; rfl) | (rw [al, aj]; rfl) | (rw [ai, aj]; rfl)⟩ ⟨_, _, _, by first | rfl | (rw [List.length_append]; done) | (rw [List.length_append]; rfl), by first | rfl | (rw [al]; rfl) | (rw [ai]; rfl) | (rw [al, aj]; rfl) | (rw [ai, aj]; rfl)⟩ ⟨_, by first | rfl | (rw [al]; rfl) | (rw [ai]; rfl) | (rw [ai])⟩ ⟨_, _, _, by first | rfl | (rw [List.length_append]; done) | (rw [List.length_append]; rfl), by first | rfl | (rw [al]; rfl) | (rw [ai]; rfl) | (rw [al, aj]; rfl) | (rw [ai, aj]; rfl)⟩ ⟨_, _, _, by first | rfl | (rw [List.length_append]; done) | (rw [List.length_append]; rfl), by first | rfl | (rw [al]; rfl) | (rw [ai]; rfl) | (rw [al, aj]; rfl) | (rw [ai, aj]; rfl)⟩ ⟨_, by first | rfl | (rw [al]; rfl) | (rw [ai]; rfl) | (rw [ai])⟩ (by omega) (by omega) (by assumption) (by assumption)) ?_
    refine aa g'5 ?_
    refine bV (by kernel_rfl) (by simp) (lE _ W Hh (.sl (some (H.length + 2, 0)) xs.length none) xs (.sl (some (H.length + 3, 0)) l.length none) l tu le sl ra false _ ⟨_, _, _, by first | rfl | (rw [List.length_append]; done) | (rw [List.length_append]; rfl), by first | rfl | (rw [al]; rfl) | (rw [ai]; rfl) | (rw [al, aj]; rfl) | (rw [ai, aj]; rfl)⟩ ⟨_, _, _, by first | rfl | (rw [List.length_append]; done) | (rw [List.length_append]; rfl), by first | rfl | (rw [al]; rfl) | (rw [ai]; rfl) | (rw [al, aj]; rfl) | (rw [ai, aj]; rfl)⟩ ⟨_, by first | rfl | (rw [al]; rfl) | (rw [ai]; rfl) | (rw [ai])⟩ (by omega) (by assumption)) ?_
    refine aa g'5 ?_
    refine aB (by kernel_rfl) (bxs_e _ _ l _ l (by first | rfl | assumption) ⟨_, _, _, by first | rfl | (rw [List.length_append]; done) | (rw [List.length_append]; rfl), by first | rfl | (rw [al]; rfl) | (rw [ai]; rfl) | (rw [al, aj]; rfl) | (rw [ai, aj]; rfl)⟩ ⟨_, _, _, rfl, by first | exact hb0s _ | exact hbs⟩ (by omega)) ?_
    refine aa g'5 ?_
    refine bV (by kernel_rfl) (by simp) (lY _ W Hh (.sl (some (H.length + 2, 0)) xs.length none) xs (.sl (some (H.length + 3, 0)) l.length none) l tu le sl ra false _ ⟨_, _, _, by first | rfl | (rw [List.length_append]; done) | (rw [List.length_append]; rfl), by first | rfl | (rw [al]; rfl) | (rw [ai]; rfl) | (rw [al, aj]; rfl) | (rw [ai, aj]; rfl)⟩ ⟨_, _, _, by first | rfl | (rw [List.length_append]; done) | (rw [List.length_append]; rfl), by first | rfl | (rw [al]; rfl) | (rw [ai]; rfl) | (rw [al, aj]; rfl) | (rw [ai, aj]; rfl)⟩ ⟨_, by first | rfl | (rw [al]; rfl) | (rw [ai]; rfl) | (rw [ai])⟩ (by omega) (by omega)) ?_
    refine aa g'5 ?_
    refine aB (by kernel_rfl) (iw _ W Hh W Hh xs xs _ _ ⟨_, _, _, by first | rfl | (rw [List.length_append]; done) | (rw [List.length_append]; rfl), by first | rfl | (rw [al]; rfl) | (rw [ai]; rfl) | (rw [al, aj]; rfl) | (rw [ai, aj]; rfl)⟩ ⟨_, _, _, rfl, by first | exact hb0pp _ | exact hbpp⟩ (by first | rfl | assumption) (by first | rfl | assumption) (by first | rfl | assumption)) ?_
    refine aa g'5 ?_
    exact hQ _ _ (ae (.inl rfl) hbel (x := .bool true) (ag Tryz.results3) rfl ⟨by first | rfl | simp, rfl⟩)
   ·have h3d := h3
    refine af (by kernel_rfl) (lnew_n _ W Hh _ xs _ l tu le sl ra ⟨_, _, _, rfl, by first | exact hb0pp _ | exact hbpp⟩ ⟨_, _, _, rfl, by first | exact hb0s _ | exact hbs⟩ (by omega) (by assumption)) ?_
    have g'6 := (jn @h3 (jn @h3d g'4))
    refine aa g'6 ?_
    refine af (by kernel_rfl) (rgnew_n _ W Hh _ xs _ l tu le sl ra ⟨_, _, _, rfl, by first | exact hb0pp _ | exact hbpp⟩ ⟨_, _, _, rfl, by first | exact hb0s _ | exact hbs⟩ (by omega) (by assumption)) ?_
    refine aa g'6 ?_
    refine aB (by kernel_rfl) (same_n _) ?_
    refine aa g'6 ?_
    exact hQ _ _ (ae (.inl rfl) hbel (x := .bool true) (ag Tryz.results3) rfl ⟨by first | rfl | simp, rfl⟩)
 ·have h1d := bsT h1
  have g'7 := (jn @h1 (jn @h1d g'1))
  refine aa g'7 ?_
  refine af (by kernel_rfl) (kaw_c _) ?_
  refine aa g'7 ?_
  exact hQ _ _ (ae (.inl rfl) hbel (x := .bool true) (ag Tryz.results3) rfl ⟨by first | rfl | simp, rfl⟩)
open Go.RowKit
set_option maxRecDepth 100000 in
theorem l5 (H : ac) (xs : List AV) (hn : xs.length = 3) (hy : ∀ (j : Nat) (t : TypeId) (x : AV), [24, 25, 27][j]? = some t → xs[j]? = some x → ATy Tryz.prog H 9 t x) : ACalls Tryz.prog 3 xs H (fun v H' => v = .bool true ∧ H' = H) := by
 match xs, hn, hy with
 | [a0, a1, a2], _, hy =>
  obtain ⟨ys0, e0, r0_0⟩ := (hy 0 _ a0 rfl rfl).agg (ls := [3, 3, 22]) (by kernel_rfl) (by kernel_rfl)
  obtain ⟨y0_0, q0_0, rfl, t0_0, r0_1⟩ := r0_0.cons
  obtain ⟨z1, rfl, w1⟩ := t0_0.int (k := .i64) (by kernel_rfl)
  obtain ⟨y0_1, q0_1, rfl, t0_1, r0_2⟩ := r0_1.cons
  obtain ⟨z2, rfl, w2⟩ := t0_1.int (k := .i64) (by kernel_rfl)
  obtain ⟨y0_2, q0_2, rfl, t0_2, r0_3⟩ := r0_2.cons
  obtain ⟨l3, s3, m3, w3⟩ := t0_2.intsU (n := 7) (t := 22) (e := 5) (by kernel_rfl) (by kernel_rfl) (by kernel_rfl)
  obtain rfl := r0_3.nil
  subst e0
  have t1 := (hy 1 _ a1 rfl rfl).one (by kernel_rfl) (by kernel_rfl)
  obtain ⟨l4, s4, m4, w4⟩ := t1.rec6 (n := 7) (t := 25) (e := 56) (t1 := 3) (t2 := 3) (t3 := 3) (t4 := 3) (t5 := 3) (t6 := 3) (by kernel_rfl) (by kernel_rfl) (by kernel_rfl) (by kernel_rfl) (by kernel_rfl) (by kernel_rfl) (by kernel_rfl) (by kernel_rfl)
  obtain ⟨ys2, e2, r2_0⟩ := (hy 2 _ a2 rfl rfl).agg (ls := [3, 3, 3, 3]) (by kernel_rfl) (by kernel_rfl)
  obtain ⟨y2_0, q2_0, rfl, t2_0, r2_1⟩ := r2_0.cons
  obtain ⟨z5, rfl, w5⟩ := t2_0.int (k := .i64) (by kernel_rfl)
  obtain ⟨y2_1, q2_1, rfl, t2_1, r2_2⟩ := r2_1.cons
  obtain ⟨z6, rfl, w6⟩ := t2_1.int (k := .i64) (by kernel_rfl)
  obtain ⟨y2_2, q2_2, rfl, t2_2, r2_3⟩ := r2_2.cons
  obtain ⟨z7, rfl, w7⟩ := t2_2.int (k := .i64) (by kernel_rfl)
  obtain ⟨y2_3, q2_3, rfl, t2_3, r2_4⟩ := r2_3.cons
  obtain ⟨z8, rfl, w8⟩ := t2_3.int (k := .i64) (by kernel_rfl)
  obtain rfl := r2_4.nil
  subst e2
  exact lnw_c H z1 z2 _ l3 _ l4 z5 z6 z7 z8 s3 s4 (by have q := m3; unfold maxLen at q; exact q) (by have q := m4; unfold maxLen at q; exact q)
section
open Go.ChangeShapes Go.WideShapes Go.ChangeAt Go.RowKit Go.Joins
open Go.ChangeMaps (open_string shut_string)
set_option maxRecDepth 100000 in
theorem jG (os : Os) (started : os.Started) (H : Type) (enc : TypeId × Value → H) :
  ReturnsInHanded {} Tryz.checked os 3 .any (Rows.locateNewsSpec.pre6 enc Tryz.prog Tryz.f3 Rows.locateNewsRow.domain false) (Rows.locateNewsSpec.post enc Tryz.prog Tryz.f3 false true false false) := by
 refine returnsInHanded_of_change (C := Tryz.checked) own started (by kernel_rfl) Tryz.func3
  (ChangeSpec.witness6 (enc := enc) (C := Tryz.checked) false ⟨#[], #[.agg #[.int .i64 0, .int .i64 0, .slice none 0 0], .slice none 0 0, .agg #[.int .i64 0, .int .i64 0, .int .i64 0, .int .i64 0]], []⟩ 8 (by kernel_rfl) (by kernel_rfl) (by kernel_rfl) (by kernel_rfl)) ?_
 intro W base args ds gs before hval0 hW hcnd _
 have hval : ∀ (j : Nat) t v, Tryz.f3.params[j]? = some t → args[j]? = some v → Value.okWide Tryz.prog W .any base t v := hval0
 have hW' := hW
 obtain ⟨p, q, hA0, hV, rfl, hfz, hnd⟩ := hW
 have hA : DataW.TrodAll enc Tryz.prog W 0 (fun _ => true) true Tryz.f3.params.toList args.toList ds p := hA0
 rw [Tryz.params3] at hA hval
 have hwalk := calls_top (n := 9) (f := 3) hA (fun j t v a b => hval j t v (by simpa using a) (by simpa using b)) (by kernel_rfl) (fun H xs hn hy => l5 H xs hn hy)
 rw [Array.toArray_toList] at hwalk
 obtain ⟨v0, vs0, d0, ds0, p0, q0, hargs, rfl, rfl, h0, r0⟩ := trodAll_cons hA
 obtain ⟨v1, vs1, d1, ds1, p1, q1, rfl, rfl, rfl, h1, r1⟩ := trodAll_cons r0
 obtain ⟨v2, vs2, d2, ds2, p2, q2, rfl, rfl, rfl, h2, r2⟩ := trodAll_cons r1
 obtain ⟨rfl, rfl, rfl⟩ := trodAll_nil r2
 obtain rfl : args = #[v0, v1, v2] := by cases args; simp_all
 obtain ⟨rfl, rfl⟩ := trodVars_none hV
 have k0 := h0
 have lt0 : ∀ x ∈ p0, x.block < W.heap.size := by obtain ⟨m, hm⟩ := k0; exact DataW.trod_lt m _ _ _ hm
 have k1 := h1
 have lt1 : ∀ x ∈ p1, x.block < W.heap.size := by obtain ⟨m, hm⟩ := k1; exact DataW.trod_lt m _ _ _ hm
 have k2 := h2
 have lt2 : ∀ x ∈ p2, x.block < W.heap.size := by obtain ⟨m, hm⟩ := k2; exact DataW.trod_lt m _ _ _ hm
 clear hA0 hval0
 refine hwalk.mono fun e W' ⟨he, bel⟩ => ?_
 subst he
 exact ⟨_, rfl, _, _, _, [], _, [], hW', trodAll_mk1 (shut_bool Tryz.underlying4 _), (trodAll_cons_mk (Below.trod jl (by kernel_rfl) (of_decide_eq_true (by kernel_rfl)) k0 bel lt0) (trodAll_cons_mk (Below.trod jl (by kernel_rfl) (of_decide_eq_true (by kernel_rfl)) k1 bel lt1) (trodAll_cons_mk (Below.trod jl (by kernel_rfl) (of_decide_eq_true (by kernel_rfl)) k2 bel lt2) trodAll_mk0))), rfl, bel.frame _, fun h => by cases h⟩
theorem cp {a b : Bool} (h : a = true) (k : b = true) : (a && b) = true := by rw [h, k]; rfl
theorem pB : (Rows.locateNewsRow.inPlace == Tryz.pinned.checked.prog.inPlace 3) = true := by kernel_rfl
theorem pC : (Rows.locateNewsRow.unfollowed == Tryz.pinned.checked.prog.unfollowed 3) = true := by kernel_rfl
theorem pD : (Rows.locateNewsRow.recurses == Tryz.pinned.checked.prog.recurses 3) = true := by kernel_rfl
theorem pE : (Rows.locateNewsRow.named == Tryz.pinned.checked.prog.varsNamed 3) = true := by kernel_rfl
theorem pF : Tryz.pinned.checked.prog.stopsHeard = true := by kernel_rfl
theorem pG : Tryz.pinned.checked.prog.mayEnter = true := by kernel_rfl
theorem pH : (Rows.locateNewsRow.lifted == Tryz.pinned.checked.prog.liftsFinal) = true := by kernel_rfl
theorem jH : joinedFacts Tryz.pinned.checked.prog 3 Tryz.f3 Rows.locateNewsSpec Rows.locateNewsRow = true := by
 unfold joinedFacts
 exact (cp (cp (cp (cp (cp (cp (cp (cp (cp (cp (cp (cp (cp (cp (cp (cp (cp (cp (cp (cp (cp (cp (cp (cp (cp (cp (cp (cp (cp (cp (cp (by kernel_rfl) jl) (by kernel_rfl)) (by kernel_rfl)) (by kernel_rfl)) (by kernel_rfl)) (by kernel_rfl)) (by kernel_rfl)) (by kernel_rfl)) pB) pC) pD) pE) (by kernel_rfl)) (by kernel_rfl)) (by kernel_rfl)) (by kernel_rfl)) (by kernel_rfl)) (by kernel_rfl)) (by kernel_rfl)) (by kernel_rfl)) (by kernel_rfl)) (by kernel_rfl)) (by kernel_rfl)) pF) pG) pH) (by kernel_rfl)) (by kernel_rfl)) (by kernel_rfl)) (by kernel_rfl)) (by kernel_rfl))
theorem lG : Rows.locateNewsRow.holds Tryz.pinned (OpenSpec.ofChange Rows.locateNewsSpec) :=
 OpenClaim.holds_of_wide 3 Tryz.f3 rfl rfl rfl rfl rfl rfl rfl ⟨rfl, rfl, rfl, rfl, rfl⟩ rfl rfl rfl rfl rfl (by kernel_rfl) Tryz.func3 jH
  (of_decide_eq_true (by kernel_rfl)) (by unfold Func.isWrapper; rw [if_neg (by decide +kernel)]; exact ⟨rfl, rfl⟩)
  (fun os started H enc _ => jG os started H enc)
theorem locateNews_proved : Rows.LocateNewsSaid := lG
end
end Go.Proofs.YtidlfjajjieepaaGreat
