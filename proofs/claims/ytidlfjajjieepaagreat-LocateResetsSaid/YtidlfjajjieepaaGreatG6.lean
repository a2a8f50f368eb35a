/- Proved: the law LocateResets returns true on every input, and its arguments read afterwards as before. Conditions: none beyond the given row's. -/
import Derived.Test.YtidlfjajjieepaaGreatG5
import Derived.Test.YtidlfjajjieepaaGreatG3
import Derived.Test.YtidlfjajjieepaaGreatG2
namespace Go.Proofs.YtidlfjajjieepaaGreat
set_option linter.unusedSimpArgs false
set_option linter.unusedVariables false
open Go.RowKit
set_option maxHeartbeats 4000000
set_option maxRecDepth 100000
theorem r6vol_c (H : ac) (x0 : Int) (y0 : Int) (x1 : Int) (y1 : Int) (f : Int) (c : Int) : ACalls Tryz.prog 66 [.agg [.int .i64 x0, .int .i64 y0, .int .i64 x1, .int .i64 y1, .int .i64 f, .int .i64 c]] H (fun v H' => v = .int .i64 (c6 (x0, y0, x1, y1, f, c)) ∧ H' = H) := by
 refine AcT true Tryz.func66 ?_; intro hbel Q hQ
 refine aQ ?_
 refine af (by kernel_rfl) (bbx_c _ x0 y0 x1 y1 f c) ?_
 refine aQ ?_
 refine ak (fun h1 => ?_) (fun h1 => ?_)
 ·have h1d := bsT h1
  have hfinV : c6 (x0, y0, x1, y1, f, c) = 0 := if_neg (fun k => absurd ((show bxB x0 y0 x1 y1 f c = true from k).symm.trans h1d) (by decide))
  have g'1 := (jn @h1 @h1d)
  refine aa g'1 ?_
  exact hQ _ _ (ae (.inl rfl) hbel (x := .int .i64 0) (ai Tryz.results66) rfl ⟨by first | (rw [hfinV]; done) | (rw [hfinV]; rfl), rfl⟩)
 ·have h1d := bsT h1
  have hbb := bO.1 h1d
  have haa := bm.1 hbb.2.2
  have m1 := bE (a := x1 - x0 + 1) (b := y1 - y0 + 1) (A := 2097153) (B := 2097153) (by omega) (by omega)
  have m2 := bE (a := (x1 - x0 + 1) * (y1 - y0 + 1)) (b := c) (A := 4398050705409) (B := 256) (by omega) (by omega)
  have hfinV : c6 (x0, y0, x1, y1, f, c) = (x1 - x0 + 1) * (y1 - y0 + 1) * c := if_pos h1d
  have g'2 := (jn @h1 @h1d)
  refine aa g'2 ?_
  exact hQ _ _ (ae (.inl rfl) hbel (x := .int .i64 ((((x1 - x0) + 1) * ((y1 - y0) + 1)) * c)) (ai Tryz.results66) rfl ⟨by first | (rw [hfinV]; done) | (rw [hfinV]; rfl), rfl⟩)
theorem rgvol_c (H : ac) (W : Int) (Hh : Int) (pp : AV) (xs : List Int) (s : AV) (l : List T6) (tu : Int) (le : Int) (sl : Int) (ra : Int) (lost : Bool) (bz : Nat) (hpp : Sl H 1 pp xs.length (ints .u8 xs)) (hs : Sl H 6 s l.length (r6 l)) (hz : ∃ o, H[bz]? = some (.cells o 0 [.int .i64 W, .int .i64 Hh, pp, s, .int .i64 tu, .int .i64 le, .int .i64 sl, .int .i64 ra, .bool lost])) (hl16 : l.length ≤ 16) (hl0 : 0 < l.length) : ACalls Tryz.prog 40 [.ptr (some (bz, 0))] H (fun v H' => v = .int .i64 (volS l l.length) ∧ H' = H) := by
 obtain ⟨bpp, opp, cpp, rfl, hbpp⟩ := hpp
 have hblpp := getElem?_lt hbpp
 have hb0pp := fun l => aq (l := l) hbpp
 obtain ⟨bs, os, cs, rfl, hbs⟩ := hs
 have hbls := getElem?_lt hbs
 have hb0s := fun l => aq (l := l) hbs
 obtain ⟨oz, hbz⟩ := hz
 have hblz := getElem?_lt hbz
 have hb0z := fun l => aq (l := l) hbz
 have hz1 : (l.length == 0) = false := beq_eq_false_iff_ne.2 (by omega)
 have hz2 : decide (0 < l.length) = true := decide_eq_true (by omega)
 refine AcT false Tryz.func40 ?_; intro hbel Q hQ
 have g'3 := (jn @hbpp (jn @hb0pp (jn @hbs (jn @hb0s (jn @hbz (jn @hb0z (jn @hz1 (jn @hz2 @Option.isNone_some.{0}))))))))
 refine aa g'3 ?_
 refine af (by kernel_rfl) (rgset_c _ W Hh (.sl (some (bpp, 0)) xs.length cpp) xs (.sl (some (bs, 0)) l.length cs) l tu le sl ra lost _ ⟨_, _, _, rfl, by first | exact hb0pp _ | exact hbpp⟩ ⟨_, _, _, rfl, by first | exact hb0s _ | exact hbs⟩ ⟨_, by first | exact hb0z _ | exact hbz⟩ (by omega) (by assumption)) ?_
 refine aa g'3 ?_
 refine go_loop try_mixed (by kernel_rfl) (fun k F Hx => ∃ i : Nat, i + k = l.length ∧ F = [(3, .int .i64 (volS l i)), (4, .sl (some (H.length, 0)) l.length none), (5, .int .i64 ((i : Nat) : Int))] ∧ Hx = H ++ [.cells true 6 (r6 l)]) (l.length) ?_ ?_
 ·refine ⟨_, _, _, ⟨0, by omega, rfl, rfl⟩, Abs.byG hbel [] rfl [0] (by decide) ?_⟩
  exact aD (jn @volS.eq_1 (jn @bx (jn @bk (jn @bW @bA))))
 ·rintro k0 F Hx ⟨i, hm0, rfl, rfl⟩ J0 hJ0
  have g'4 := (jn @bM (jn @dw g'3))
  refine aa g'4 ?_
  refine ak (fun h1 => ?_) (fun h1 => ?_)
  ·have h1d := bsT h1
   have hlt : i < l.length := by omega
   have hvb := ma (g61 l i, g62 l i, g63 l i, g64 l i, g65 l i, g66 l i)
   have hvs := mb l i
   have hve : c6 (g61 l i, g62 l i, g63 l i, g64 l i, g65 l i, g66 l i) = c6 (g6 l i) := rfl
   have q2 := cD (l := l) (j := i) (by omega)
   have g'5 := (jn @h1 (jn @h1d (jn @q2 g'4)))
   refine aa g'5 ?_
   refine af (by kernel_rfl) (r6vol_c _ (g61 l i) (g62 l i) (g63 l i) (g64 l i) (g65 l i) (g66 l i)) ?_
   refine aa g'5 ?_
   refine hJ0 _ _ ⟨k0 - 1, by omega, _, _, _, ⟨i + 1, by omega, rfl, rfl⟩, Abs.byG hbel [] rfl [0] (by decide) ?_⟩
   exact aD (jn @volS.eq_2 (jn @hve (jn @bx (jn @bk (jn @bW @bA)))))
  ·have h1d := bsT h1
   obtain rfl : i = l.length := by omega
   have g'6 := (jn @h1 (jn @h1d g'4))
   refine aa g'6 ?_
   exact hQ _ _ (ae (.inl rfl) hbel (x := .int .i64 (volS l l.length)) (ai Tryz.results40) rfl ⟨rfl, rfl⟩)
theorem rgbox_c (H : ac) (W : Int) (Hh : Int) (pp : AV) (xs : List Int) (s : AV) (l : List T6) (tu : Int) (le : Int) (sl : Int) (ra : Int) (lost : Bool) (bz : Nat) (hpp : Sl H 1 pp xs.length (ints .u8 xs)) (hs : Sl H 6 s l.length (r6 l)) (hz : ∃ o, H[bz]? = some (.cells o 0 [.int .i64 W, .int .i64 Hh, pp, s, .int .i64 tu, .int .i64 le, .int .i64 sl, .int .i64 ra, .bool lost])) (hS : bX l = true) (hl0 : 0 < l.length) : ACalls Tryz.prog 36 [.ptr (some (bz, 0))] H (fun v H' => v = .tup [.agg [.int .i64 ((hulN l (l.length - 1)).1), .int .i64 ((hulN l (l.length - 1)).2.1), .int .i64 ((hulN l (l.length - 1)).2.2.1), .int .i64 ((hulN l (l.length - 1)).2.2.2.1), .int .i64 ((hulN l (l.length - 1)).2.2.2.2.1), .int .i64 ((hulN l (l.length - 1)).2.2.2.2.2)], .bool true] ∧ H' = H) := by
 obtain ⟨bpp, opp, cpp, rfl, hbpp⟩ := hpp
 have hblpp := getElem?_lt hbpp
 have hb0pp := fun l => aq (l := l) hbpp
 obtain ⟨bs, os, cs, rfl, hbs⟩ := hs
 have hbls := getElem?_lt hbs
 have hb0s := fun l => aq (l := l) hbs
 obtain ⟨oz, hbz⟩ := hz
 have hblz := getElem?_lt hbz
 have hb0z := fun l => aq (l := l) hbz
 have hSS := bY.1 hS
 have hl16 := hSS.1
 refine AcT true Tryz.func36 ?_; intro hbel Q hQ
 have q1 := sZ (l := l) (by omega)
 have g'7 := (jn @hbpp (jn @hb0pp (jn @hbs (jn @hb0s (jn @hbz (jn @hb0z (jn @bM (jn @q1 @Option.isNone_some.{0}))))))))
 refine aa g'7 ?_
 refine go_loop try_mixed (by kernel_rfl) (fun k F Hx => ∃ i : Nat, i + k = l.length - 1 ∧ F = [(0, .ptr (some (bz, 0))), (2, .ptr (some (H.length, 0))), (4, .ptr (some (H.length + 1, 0))), (5, .int .i64 ((i + 1 : Nat) : Int))] ∧ Hx = H ++ [.cells true 0 [.int .i64 0, .int .i64 0, .int .i64 0, .int .i64 0, .int .i64 0, .int .i64 0], .cells true 0 [.int .i64 ((hulN l i).1), .int .i64 ((hulN l i).2.1), .int .i64 ((hulN l i).2.2.1), .int .i64 ((hulN l i).2.2.2.1), .int .i64 ((hulN l i).2.2.2.2.1), .int .i64 ((hulN l i).2.2.2.2.2)]]) (l.length - 1) ?_ ?_
 ·refine ⟨_, _, _, ⟨0, by omega, rfl, rfl⟩, Abs.byG hbel [] rfl [0, 1] (by decide) ?_⟩
  exact aV (jn @hulN.eq_1 (jn @Nat.zero_add @Int.natCast_one))
 ·rintro k0 F Hx ⟨i, hm0, rfl, rfl⟩ J0 hJ0
  refine aa g'7 ?_
  refine ak (fun h2 => ?_) (fun h2 => ?_)
  ·have h2d := bsT h2
   have hlt : i + 1 < l.length := by omega
   have hb1 : bxB ((hulN l i).1) ((hulN l i).2.1) ((hulN l i).2.2.1) ((hulN l i).2.2.2.1) ((hulN l i).2.2.2.2.1) ((hulN l i).2.2.2.2.2) = true := mc hSS.2 i (by omega)
   have hb2 : bxB (g61 l (i + 1)) (g62 l (i + 1)) (g63 l (i + 1)) (g64 l (i + 1)) (g65 l (i + 1)) (g66 l (i + 1)) = true := hSS.2 _ (cU hlt)
   have hs0 : (hulN l (i + 1)).1 = mnI ((hulN l i).1) (g61 l (i + 1)) := rfl
   have hs1 : (hulN l (i + 1)).2.1 = mnI ((hulN l i).2.1) (g62 l (i + 1)) := rfl
   have hs2 : (hulN l (i + 1)).2.2.1 = mxI ((hulN l i).2.2.1) (g63 l (i + 1)) := rfl
   have hs3 : (hulN l (i + 1)).2.2.2.1 = mxI ((hulN l i).2.2.2.1) (g64 l (i + 1)) := rfl
   have hs4 : (hulN l (i + 1)).2.2.2.2.1 = (bG ((hulN l i).2.2.2.2.1) ((hulN l i).2.2.2.2.2) (g65 l (i + 1)) (g66 l (i + 1))).1 := rfl
   have hs5 : (hulN l (i + 1)).2.2.2.2.2 = (bG ((hulN l i).2.2.2.2.1) ((hulN l i).2.2.2.2.2) (g65 l (i + 1)) (g66 l (i + 1))).2 := rfl
   have q3 := cD (l := l) (j := i + 1) (by omega)
   have g'8 := (jn @h2 (jn @h2d (jn @q3 g'7)))
   refine aa g'8 ?_
   refine aB (by kernel_rfl) (r6hull_c _ ((hulN l i).1) ((hulN l i).2.1) ((hulN l i).2.2.1) ((hulN l i).2.2.2.1) ((hulN l i).2.2.2.2.1) ((hulN l i).2.2.2.2.2) (g61 l (i + 1)) (g62 l (i + 1)) (g63 l (i + 1)) (g64 l (i + 1)) (g65 l (i + 1)) (g66 l (i + 1)) (by assumption) (by assumption)) ?_
   refine aa g'8 ?_
   refine hJ0 _ _ ⟨k0 - 1, by omega, _, _, _, ⟨i + 1, by omega, rfl, rfl⟩, Abs.byG hbel [] rfl [0, 1] (by decide) ?_⟩
   exact aV (jn @hs0 (jn @hs1 (jn @hs2 (jn @hs3 (jn @hs4 (jn @hs5 (jn @Int.natCast_add @Int.natCast_one)))))))
  ·have h2d := bsT h2
   obtain rfl : i = l.length - 1 := by omega
   have g'9 := (jn @h2 (jn @h2d g'7))
   refine aa g'9 ?_
   exact hQ _ _ (ae (.inl rfl) hbel (x := .tup [.agg [.int .i64 ((hulN l (l.length - 1)).1), .int .i64 ((hulN l (l.length - 1)).2.1), .int .i64 ((hulN l (l.length - 1)).2.2.1), .int .i64 ((hulN l (l.length - 1)).2.2.2.1), .int .i64 ((hulN l (l.length - 1)).2.2.2.2.1), .int .i64 ((hulN l (l.length - 1)).2.2.2.2.2)], .bool true]) (ai Tryz.results36) rfl ⟨rfl, rfl⟩)
theorem rgl_n (H : ac)  : ACalls Tryz.prog 39 [.ptr none] H (fun v H' => v = .bool false ∧ H' = H) := by
 refine AcT true Tryz.func39 ?_; intro hbel Q hQ
 have g'10 := (jn @Option.isNone_none.{0} trivial)
 refine aa g'10 ?_
 exact hQ _ _ (au (.inl rfl) hbel (x := .bool false) (ai Tryz.results39) rfl ⟨rfl, rfl⟩)
theorem rgs_n (H : ac)  : ACalls Tryz.prog 37 [.ptr none] H (fun v H' => v = .sl none 0 (some 0) ∧ H' = H) := by
 refine AcT true Tryz.func37 ?_; intro hbel Q hQ
 have g'11 := (jn @Option.isNone_none.{0} trivial)
 refine aa g'11 ?_
 exact hQ _ _ (au (.inl rfl) hbel (x := .sl none 0 (some 0)) (ai Tryz.results37) rfl ⟨rfl, rfl⟩)
theorem rgp_n (H : ac)  : ACalls Tryz.prog 38 [.ptr none] H (fun v H' => v = .agg [.int .i64 0, .int .i64 0, .sl none 0 (some 0)] ∧ H' = H) := by
 refine AcT true Tryz.func38 ?_; intro hbel Q hQ
 have g'12 := (jn @Option.isNone_none.{0} trivial)
 refine aa g'12 ?_
 exact hQ _ _ (ae (.inl rfl) hbel (x := .agg [.int .i64 0, .int .i64 0, .sl none 0 (some 0)]) (ai Tryz.results38) rfl ⟨rfl, rfl⟩)
theorem rgb_n (H : ac)  : ACalls Tryz.prog 36 [.ptr none] H (fun v H' => v = .tup [.agg [.int .i64 0, .int .i64 0, .int .i64 0, .int .i64 0, .int .i64 0, .int .i64 0], .bool false] ∧ H' = H) := by
 refine AcT true Tryz.func36 ?_; intro hbel Q hQ
 have g'13 := (jn @Option.isNone_none.{0} trivial)
 refine aa g'13 ?_
 exact hQ _ _ (ae (.inl rfl) hbel (x := .tup [.agg [.int .i64 0, .int .i64 0, .int .i64 0, .int .i64 0, .int .i64 0, .int .i64 0], .bool false]) (ai Tryz.results36) rfl ⟨rfl, rfl⟩)
theorem rgv_n (H : ac)  : ACalls Tryz.prog 40 [.ptr none] H (fun v H' => v = .int .i64 0 ∧ H' = H) := by
 refine AcT true Tryz.func40 ?_; intro hbel Q hQ
 have g'14 := (jn @Option.isNone_none.{0} trivial)
 refine aa g'14 ?_
 refine af (by kernel_rfl) (rgs_n _) ?_
 refine aa g'14 ?_
 refine go_loop try_mixed (by kernel_rfl) (fun k F Hx => ∃ z : Unit, k = 0 ∧ F = [(3, .int .i64 0), (4, .sl none 0 (some 0)), (5, .int .i64 0)] ∧ H = Hx) (0) ?_ ?_
 ·refine ⟨_, _, _, ⟨(), by omega, rfl, rfl⟩, Abs.by0 hbel ?_⟩
  exact aW
 ·rintro k0 F Hx ⟨z, hm0, rfl, rfl⟩ J0 hJ0
  refine aa g'14 ?_
  exact hQ _ _ (au (.inl rfl) hbel (x := .int .i64 0) (ai Tryz.results40) rfl ⟨rfl, rfl⟩)
theorem lpl_n (H : ac)  : ACalls Tryz.prog 14 [.ptr none] H (fun v H' => v = .agg [.int .i64 0, .int .i64 0, .sl none 0 (some 0)] ∧ H' = H) := by
 refine AcT true Tryz.func14 ?_; intro hbel Q hQ
 have g'15 := (jn @Option.isNone_none.{0} trivial)
 refine aa g'15 ?_
 exact hQ _ _ (ae (.inl rfl) hbel (x := .agg [.int .i64 0, .int .i64 0, .sl none 0 (some 0)]) (ai Tryz.results14) rfl ⟨rfl, rfl⟩)
theorem lbx_n (H : ac)  : ACalls Tryz.prog 26 [.ptr none] H (fun v H' => v = .tup [.agg [.int .i64 0, .int .i64 0, .int .i64 0, .int .i64 0, .int .i64 0, .int .i64 0], .bool false] ∧ H' = H) := by
 refine AcT true Tryz.func26 ?_; intro hbel Q hQ
 have g'16 := (jn @Option.isNone_none.{0} trivial)
 refine aa g'16 ?_
 exact hQ _ _ (ae (.inl rfl) hbel (x := .tup [.agg [.int .i64 0, .int .i64 0, .int .i64 0, .int .i64 0, .int .i64 0, .int .i64 0], .bool false]) (ai Tryz.results26) rfl ⟨rfl, rfl⟩)
theorem lrsnn (H : ac)  (q : AV) (m : List T6) (hq : Sl H 6 q m.length (r6 m)) : ACalls Tryz.prog 16 [.ptr none, q] H (fun v H' => v = .int .i64 1 ∧ H' = H) := by
 obtain ⟨bq, oq, cq, rfl, hbq⟩ := hq
 have hblq := getElem?_lt hbq
 have hb0q := fun l => aq (l := l) hbq
 refine AcT true Tryz.func16 ?_; intro hbel Q hQ
 have g'17 := (jn @hbq (jn @hb0q @Option.isNone_none.{0}))
 refine aa g'17 ?_
 exact hQ _ _ (au (.inl rfl) hbel (x := .int .i64 1) (ai Tryz.results16) rfl ⟨rfl, rfl⟩)
theorem rgrsnn (H : ac)  (q : AV) (m : List T6) (hq : Sl H 6 q m.length (r6 m)) : ACalls Tryz.prog 17 [.ptr none, q] H (fun v H' => v = .int .i64 1 ∧ H' = H) := by
 obtain ⟨bq, oq, cq, rfl, hbq⟩ := hq
 have hblq := getElem?_lt hbq
 have hb0q := fun l => aq (l := l) hbq
 refine AcT true Tryz.func17 ?_; intro hbel Q hQ
 have g'18 := (jn @hbq (jn @hb0q @Option.isNone_none.{0}))
 refine aa g'18 ?_
 exact hQ _ _ (au (.inl rfl) hbel (x := .int .i64 1) (ai Tryz.results17) rfl ⟨rfl, rfl⟩)
theorem lrsnz (H : ac)   : ACalls Tryz.prog 16 [.ptr none, .sl none 0 (some 0)] H (fun v H' => v = .int .i64 1 ∧ H' = H) := by
 refine AcT true Tryz.func16 ?_; intro hbel Q hQ
 have g'19 := (jn @Option.isNone_none.{0} trivial)
 refine aa g'19 ?_
 exact hQ _ _ (au (.inl rfl) hbel (x := .int .i64 1) (ai Tryz.results16) rfl ⟨rfl, rfl⟩)
theorem boxz_c (H : ac)   : ACalls Tryz.prog 11 [.sl none 0 (some 0), .sl none 0 (some 0)] H (fun v H' => v = .bool true ∧ H' = H) := by
 refine AcT true Tryz.func11 ?_; intro hbel Q hQ
 have g'20 := (jn @Option.isNone_none.{0} trivial)
 refine aa g'20 ?_
 refine go_loop try_mixed (by kernel_rfl) (fun k F Hx => ∃ z : Unit, k = 0 ∧ F = [(0, .sl none 0 (some 0)), (1, .sl none 0 (some 0)), (5, .int .i64 0)] ∧ H = Hx) (0) ?_ ?_
 ·refine ⟨_, _, _, ⟨(), by omega, rfl, rfl⟩, Abs.by0 hbel ?_⟩
  exact aW
 ·rintro k0 F Hx ⟨z, hm0, rfl, rfl⟩ J0 hJ0
  refine aa g'20 ?_
  exact hQ _ _ (au (.inl rfl) hbel (x := .bool true) (ai Tryz.results11) rfl ⟨rfl, rfl⟩)
theorem planz_c (H : ac) : ACalls Tryz.prog 13 [.agg [.int .i64 0, .int .i64 0, .sl none 0 (some 0)], .agg [.int .i64 0, .int .i64 0, .sl none 0 (some 0)]] H (fun v H' => v = .bool true ∧ H' = H) := by
 have hs : Sl (H ++ [ABlk.cells false 1 []]) 1 (.sl (some (H.length, 0)) 0 none) ([] : List Int).length (ints .u8 []) := ⟨H.length, false, none, rfl, by simp [kh]⟩
 have k := kF (H ++ [ABlk.cells false 1 []]) 0 0 0 0 [] [] _ _ hs hs rfl rfl rfl
 have hw : W (H ++ [ABlk.cells false 1 []]).length (.agg [.int .i64 0, .int .i64 0, .sl none 0 (some 0)]) (.agg [.int .i64 0, .int .i64 0, .sl (some (H.length, 0)) 0 none]) := by
  rw [ii]; exact ⟨W.refl _, W.refl _, dj (by simp) (.inl rfl), trivial⟩
 have k2 := k.wargs (args := [.agg [.int .i64 0, .int .i64 0, .sl none 0 (some 0)], .agg [.int .i64 0, .int .i64 0, .sl none 0 (some 0)]]) ⟨hw, hw, trivial⟩
 have k3 := ACalls.weak (l1 := [ABlk.cells false 1 []]) k2.ghost [] rfl [] (by decide) (.bool true) [] ⟨W.refl _, trivial⟩
 simpa using k3
open Go.RowKit
theorem lJ (H : ac) (W : Int) (Hh : Int) (pp : AV) (xs : List Int) (s : AV) (l : List T6) (tu : Int) (le : Int) (sl : Int) (ra : Int) (lost : Bool) (bz : Nat)   (gp : AV) (gs : AV)      (bu : Nat) (hpp : Sl H 1 pp xs.length (ints .u8 xs)) (hs : Sl H 6 s l.length (r6 l)) (hz : ∃ o, H[bz]? = some (.cells o 0 [.int .i64 W, .int .i64 Hh, pp, s, .int .i64 tu, .int .i64 le, .int .i64 sl, .int .i64 ra, .bool lost])) (hgp : Sl H 1 gp xs.length (ints .u8 xs)) (hgs : Sl H 6 gs l.length (r6 l)) (hu : ∃ o, H[bu]? = some (.cells o 0 [.int .i64 W, .int .i64 Hh, gp, gs, .int .i64 tu, .int .i64 le, .int .i64 sl, .int .i64 ra, .bool lost])) (hx6 : xs.length ≤ 1000000) (hx0 : 0 < xs.length) (hS : bX l = true) (hl0 : 0 < l.length) : ACalls Tryz.prog 10 [.ptr (some (bz, 0)), .ptr (some (bu, 0))] H (fun v H' => v = .bool true ∧ H' = H) := by
 obtain ⟨bpp, opp, cpp, rfl, hbpp⟩ := hpp
 have hblpp := getElem?_lt hbpp
 have hb0pp := fun l => aq (l := l) hbpp
 obtain ⟨bs, os, cs, rfl, hbs⟩ := hs
 have hbls := getElem?_lt hbs
 have hb0s := fun l => aq (l := l) hbs
 obtain ⟨bgp, ogp, cgp, rfl, hbgp⟩ := hgp
 have hblgp := getElem?_lt hbgp
 have hb0gp := fun l => aq (l := l) hbgp
 obtain ⟨bgs, ogs, cgs, rfl, hbgs⟩ := hgs
 have hblgs := getElem?_lt hbgs
 have hb0gs := fun l => aq (l := l) hbgs
 obtain ⟨oz, hbz⟩ := hz
 have hblz := getElem?_lt hbz
 have hb0z := fun l => aq (l := l) hbz
 obtain ⟨ou, hbu⟩ := hu
 have hblu := getElem?_lt hbu
 have hb0u := fun l => aq (l := l) hbu
 have hSS := bY.1 hS
 have hl16 := hSS.1
 refine AcT false Tryz.func10 ?_; intro hbel Q hQ
 have g'1 := (jn @hbpp (jn @hb0pp (jn @hbs (jn @hb0s (jn @hbgp (jn @hb0gp (jn @hbgs (jn @hb0gs (jn @hbz (jn @hb0z (jn @hbu (jn @hb0u (jn @Option.isNone_some.{0} @Nat.add_assoc)))))))))))))
 refine aa g'1 ?_
 refine af (by kernel_rfl) (lbox_c _ W Hh (.sl (some (bpp, 0)) xs.length cpp) xs (.sl (some (bs, 0)) l.length cs) l tu le sl ra lost _ ⟨_, _, _, rfl, by first | exact hb0pp _ | exact hbpp⟩ ⟨_, _, _, rfl, by first | exact hb0s _ | exact hbs⟩ ⟨_, by first | exact hb0z _ | exact hbz⟩ (by assumption) (by assumption)) ?_
 refine aa g'1 ?_
 refine af (by kernel_rfl) (rgbox_c _ W Hh (.sl (some (bgp, 0)) xs.length cgp) xs (.sl (some (bgs, 0)) l.length cgs) l tu le sl ra lost _ ⟨_, _, _, rfl, by first | exact hb0gp _ | exact hbgp⟩ ⟨_, _, _, rfl, by first | exact hb0gs _ | exact hbgs⟩ ⟨_, by first | exact hb0u _ | exact hbu⟩ (by assumption) (by assumption)) ?_
 refine aa g'1 ?_
 refine af (by kernel_rfl) (lset_c _ W Hh (.sl (some (bpp, 0)) xs.length cpp) xs (.sl (some (bs, 0)) l.length cs) l tu le sl ra lost _ ⟨_, _, _, rfl, by first | exact hb0pp _ | exact hbpp⟩ ⟨_, _, _, rfl, by first | exact hb0s _ | exact hbs⟩ ⟨_, by first | exact hb0z _ | exact hbz⟩ (by omega) (by assumption)) ?_
 refine aa g'1 ?_
 refine af (by kernel_rfl) (rgset_c _ W Hh (.sl (some (bgp, 0)) xs.length cgp) xs (.sl (some (bgs, 0)) l.length cgs) l tu le sl ra lost _ ⟨_, _, _, rfl, by first | exact hb0gp _ | exact hbgp⟩ ⟨_, _, _, rfl, by first | exact hb0gs _ | exact hbgs⟩ ⟨_, by first | exact hb0u _ | exact hbu⟩ (by omega) (by assumption)) ?_
 refine aa g'1 ?_
 refine af (by kernel_rfl) (bxs_e _ _ l _ l (by first | rfl | assumption) ⟨_, _, _, by first | rfl | (rw [List.length_append]; done) | (rw [List.length_append]; rfl), by first | rfl | (rw [aj]; rfl) | (rw [ag]; rfl) | (rw [aj, ah]; rfl) | (rw [ag, ah]; rfl)⟩ ⟨_, _, _, by first | rfl | (rw [List.length_append]; done) | (rw [List.length_append]; rfl), by first | rfl | (rw [aj]; rfl) | (rw [ag]; rfl) | (rw [aj, ah]; rfl) | (rw [ag, ah]; rfl)⟩ (by omega)) ?_
 refine aa g'1 ?_
 refine af (by kernel_rfl) (lplan_c _ W Hh (.sl (some (bpp, 0)) xs.length cpp) xs (.sl (some (bs, 0)) l.length cs) l tu le sl ra lost _ ⟨_, _, _, rfl, by first | exact hb0pp _ | exact hbpp⟩ ⟨_, _, _, rfl, by first | exact hb0s _ | exact hbs⟩ ⟨_, by first | exact hb0z _ | exact hbz⟩ (by omega) (by omega)) ?_
 refine aa g'1 ?_
 refine af (by kernel_rfl) (rgplan_c _ W Hh (.sl (some (bgp, 0)) xs.length cgp) xs (.sl (some (bgs, 0)) l.length cgs) l tu le sl ra lost _ ⟨_, _, _, rfl, by first | exact hb0gp _ | exact hbgp⟩ ⟨_, _, _, rfl, by first | exact hb0gs _ | exact hbgs⟩ ⟨_, by first | exact hb0u _ | exact hbu⟩ (by omega) (by omega)) ?_
 refine aa g'1 ?_
 refine af (by kernel_rfl) (kF _ W Hh W Hh xs xs _ _ ⟨_, _, _, by first | rfl | (rw [List.length_append]; done) | (rw [List.length_append]; rfl), by first | rfl | (rw [aj]; rfl) | (rw [ag]; rfl) | (rw [aj, ah]; rfl) | (rw [ag, ah]; rfl)⟩ ⟨_, _, _, by first | rfl | (rw [List.length_append]; done) | (rw [List.length_append]; rfl), by first | rfl | (rw [aj]; rfl) | (rw [ag]; rfl) | (rw [aj, ah]; rfl) | (rw [ag, ah]; rfl)⟩ (by first | rfl | assumption) (by first | rfl | assumption) (by first | rfl | assumption)) ?_
 refine aa g'1 ?_
 refine af (by kernel_rfl) (jJ _ W Hh (.sl (some (bpp, 0)) xs.length cpp) xs (.sl (some (bs, 0)) l.length cs) l tu le sl ra lost _ ⟨_, _, _, rfl, by first | exact hb0pp _ | exact hbpp⟩ ⟨_, _, _, rfl, by first | exact hb0s _ | exact hbs⟩ ⟨_, by first | exact hb0z _ | exact hbz⟩) ?_
 refine aa g'1 ?_
 refine af (by kernel_rfl) (rflost_c _ W Hh (.sl (some (bgp, 0)) xs.length cgp) xs (.sl (some (bgs, 0)) l.length cgs) l tu le sl ra lost _ ⟨_, _, _, rfl, by first | exact hb0gp _ | exact hbgp⟩ ⟨_, _, _, rfl, by first | exact hb0gs _ | exact hbgs⟩ ⟨_, by first | exact hb0u _ | exact hbu⟩) ?_
 refine aa g'1 ?_
 refine af (by kernel_rfl) (lvol_c _ W Hh (.sl (some (bpp, 0)) xs.length cpp) xs (.sl (some (bs, 0)) l.length cs) l tu le sl ra lost _ ⟨_, _, _, rfl, by first | exact hb0pp _ | exact hbpp⟩ ⟨_, _, _, rfl, by first | exact hb0s _ | exact hbs⟩ ⟨_, by first | exact hb0z _ | exact hbz⟩ (by omega) (by assumption)) ?_
 refine aa g'1 ?_
 refine af (by kernel_rfl) (rgvol_c _ W Hh (.sl (some (bgp, 0)) xs.length cgp) xs (.sl (some (bgs, 0)) l.length cgs) l tu le sl ra lost _ ⟨_, _, _, rfl, by first | exact hb0gp _ | exact hbgp⟩ ⟨_, _, _, rfl, by first | exact hb0gs _ | exact hbgs⟩ ⟨_, by first | exact hb0u _ | exact hbu⟩ (by omega) (by assumption)) ?_
 refine aa g'1 ?_
 exact hQ _ _ (ae (.inl rfl) hbel (x := .bool true) (ai Tryz.results10) rfl ⟨rfl, rfl⟩)
theorem same_n (H : ac)   : ACalls Tryz.prog 10 [.ptr none, .ptr none] H (fun v H' => v = .bool true ∧ H' = H) := by
 refine AcT false Tryz.func10 ?_; intro hbel Q hQ
 have g'2 := (jn @Option.isNone_none.{0} trivial)
 refine aa g'2 ?_
 refine af (by kernel_rfl) (lbx_n _) ?_
 refine aa g'2 ?_
 refine af (by kernel_rfl) (rgb_n _) ?_
 refine aa g'2 ?_
 refine af (by kernel_rfl) (lst_n _) ?_
 refine aa g'2 ?_
 refine af (by kernel_rfl) (rgs_n _) ?_
 refine aa g'2 ?_
 refine af (by kernel_rfl) (boxz_c _) ?_
 refine aa g'2 ?_
 refine af (by kernel_rfl) (lpl_n _) ?_
 refine aa g'2 ?_
 refine af (by kernel_rfl) (rgp_n _) ?_
 refine aa g'2 ?_
 refine af (by kernel_rfl) (planz_c _) ?_
 refine aa g'2 ?_
 refine af (by kernel_rfl) (lls_n _) ?_
 refine aa g'2 ?_
 refine af (by kernel_rfl) (rgl_n _) ?_
 refine aa g'2 ?_
 refine af (by kernel_rfl) (lvl_n _) ?_
 refine aa g'2 ?_
 refine af (by kernel_rfl) (rgv_n _) ?_
 refine aa g'2 ?_
 exact hQ _ _ (ae (.inl rfl) hbel (x := .bool true) (ai Tryz.results10) rfl ⟨rfl, rfl⟩)
open Go.RowKit
theorem lb_mv (H : ac) (pp s : AV) (bz : Nat) (hpp : Sl H 1 pp 4 (ints .u8 [1, 1, 1, 2])) (hs : Sl H 6 s laL.length (r6 laL)) (hz : H[bz]? = some (.cells true 0 [.int .i64 4, .int .i64 1, pp, s, .int .i64 0, .int .i64 0, .int .i64 0, .int .i64 4, .bool false])) : ACalls Tryz.prog 19 [.ptr (some (bz, 0)), .agg [.int .i64 0, .int .i64 10], .bool false] H (fun v H' => v = .int .i64 0 ∧ H' = H.set bz (.cells true 0 [.int .i64 4, .int .i64 1, pp, .sl (some (H.length, 0)) laM.length none, .int .i64 0, .int .i64 0, .int .i64 0, .int .i64 4, .bool false]) ++ [.cells true 6 (r6 laM)]) := by
 have k := lmv_y H 4 1 pp [1, 1, 1, 2] s laL 0 0 0 4 bz 0 10 false hpp hs hz la_s2 (by decide) lb_c1 la_b lb_im
 rw [lb_is] at k
 exact k
theorem lb_see (H : ac) (pp s q : AV) (bz : Nat) (hpp : Sl H 1 pp 4 (ints .u8 [1, 1, 1, 2])) (hs : Sl H 6 s laM.length (r6 laM)) (hz : H[bz]? = some (.cells true 0 [.int .i64 4, .int .i64 1, pp, s, .int .i64 0, .int .i64 0, .int .i64 0, .int .i64 4, .bool false])) (hq : Sl H 2 q 1 (prs [(0, 3)])) : ACalls Tryz.prog 21 [.ptr (some (bz, 0)), q] H (fun v H' => v = .int .i64 12 ∧ H' = H.set bz (.cells true 0 [.int .i64 4, .int .i64 1, pp, s, .int .i64 0, .int .i64 0, .int .i64 0, .int .i64 4, .bool true])) :=
 lse_e H 4 1 pp [1, 1, 1, 2] s laM 0 0 0 4 bz q [(0, 3)] hpp hs hz hq la_v2 lb_s (by decide) la_c2 (by decide) (by rw [lb_r]; rfl)
theorem lb_mv2 (H : ac) (pp s : AV) (bz : Nat) (hpp : Sl H 1 pp 4 (ints .u8 [1, 1, 1, 2])) (hs : Sl H 6 s laM.length (r6 laM)) (hz : ∃ o, H[bz]? = some (.cells o 0 [.int .i64 4, .int .i64 1, pp, s, .int .i64 0, .int .i64 0, .int .i64 0, .int .i64 4, .bool true])) : ACalls Tryz.prog 19 [.ptr (some (bz, 0)), .agg [.int .i64 0, .int .i64 0], .bool false] H (fun v H' => v = .int .i64 9 ∧ H' = H) :=
 lmv_s H 4 1 pp [1, 1, 1, 2] s laM 0 0 0 4 bz 0 0 false hpp hs hz lb_c2
theorem lb_box (H : ac) (pp s : AV) (bz : Nat) (hpp : Sl H 1 pp 4 (ints .u8 [1, 1, 1, 2])) (hs : Sl H 6 s laM.length (r6 laM)) (hz : ∃ o, H[bz]? = some (.cells o 0 [.int .i64 4, .int .i64 1, pp, s, .int .i64 0, .int .i64 0, .int .i64 0, .int .i64 4, .bool false])) : ACalls Tryz.prog 26 [.ptr (some (bz, 0))] H (fun v H' => v = .tup [.agg [.int .i64 42, .int .i64 32, .int .i64 50, .int .i64 32, .int .i64 0, .int .i64 1], .bool true] ∧ H' = H) := by
 have k := lbox_c H 4 1 pp [1, 1, 1, 2] s laM 0 0 0 4 false bz hpp hs hz lb_s (by decide)
 rw [lb_h] at k
 exact k
theorem lb_res (H : ac) (pp s q : AV) (bz : Nat) (hpp : Sl H 1 pp 4 (ints .u8 [1, 1, 1, 2])) (hs : Sl H 6 s laM.length (r6 laM)) (hz : H[bz]? = some (.cells true 0 [.int .i64 4, .int .i64 1, pp, s, .int .i64 0, .int .i64 0, .int .i64 0, .int .i64 4, .bool true])) (hq : Sl H 6 q 1 (r6 [(100, 32, 100, 32, 0, 1)])) : ACalls Tryz.prog 16 [.ptr (some (bz, 0)), q] H (fun v H' => v = .int .i64 0 ∧ H' = H.set bz (.cells true 0 [.int .i64 4, .int .i64 1, pp, .sl (some (H.length, 0)) 1 none, .int .i64 0, .int .i64 0, .int .i64 0, .int .i64 4, .bool false]) ++ [.cells true 6 (r6 [(100, 32, 100, 32, 0, 1)])]) :=
 lrs_y H 4 1 pp [1, 1, 1, 2] s laM 0 0 0 4 true bz q [(100, 32, 100, 32, 0, 1)] hpp hs hz hq lb_m
theorem lb_vol (H : ac) (pp s : AV) (bz : Nat) (hpp : Sl H 1 pp 4 (ints .u8 [1, 1, 1, 2])) (hs : Sl H 6 s 1 (r6 [(100, 32, 100, 32, 0, 1)])) (hz : ∃ o, H[bz]? = some (.cells o 0 [.int .i64 4, .int .i64 1, pp, s, .int .i64 0, .int .i64 0, .int .i64 0, .int .i64 4, .bool false])) : ACalls Tryz.prog 25 [.ptr (some (bz, 0))] H (fun v H' => v = .int .i64 1 ∧ H' = H) := by
 have k := lvol_c H 4 1 pp [1, 1, 1, 2] s [(100, 32, 100, 32, 0, 1)] 0 0 0 4 false bz hpp hs hz (by decide) (by decide)
 rw [lb_v] at k
 exact k
theorem lb_set (H : ac) (pp s : AV) (bz : Nat) (hpp : Sl H 1 pp 4 (ints .u8 [1, 1, 1, 2])) (hs : Sl H 6 s 1 (r6 [(100, 32, 100, 32, 0, 1)])) (hz : ∃ o, H[bz]? = some (.cells o 0 [.int .i64 4, .int .i64 1, pp, s, .int .i64 0, .int .i64 0, .int .i64 0, .int .i64 4, .bool false])) : ACalls Tryz.prog 12 [.ptr (some (bz, 0))] H (fun v H' => v = .sl (some (H.length, 0)) 1 none ∧ H' = H ++ [.cells true 6 (r6 [(100, 32, 100, 32, 0, 1)])]) :=
 lset_c H 4 1 pp [1, 1, 1, 2] s [(100, 32, 100, 32, 0, 1)] 0 0 0 4 false bz hpp hs hz (by decide) (by decide)
set_option maxHeartbeats 4000000 in
set_option maxRecDepth 100000 in
theorem kaw_c (H : ac)  : ACalls Tryz.prog 7 [] H (fun v H' => v = .bool true ∧ H' = H) := by
 refine AcT false Tryz.func7 ?_; intro hbel Q hQ
 simp -implicitDefEqProofs (maxSteps := 2000000) (disch := omega) only [bP, List.length_replicate, Option.isNone_some.{0}, Option.isNone_none.{0}, Nat.add_assoc, bR, bB, bC, bS, simprocAttr, aF, aG, Function.comp_apply, one1, lenV, ap, az, aA, aop, AV.ofValue, AV.ofCell, AV.cells, AV.flat, AV.one, arep, aP, aE]
 repeat refine And.intro (by omega) ?_
 refine af (by kernel_rfl) (lnew_y _ 4 1 _ [0, 0, 0, 0] _ [(32, 32, 40, 32, 0, 1)] 0 0 0 4 ⟨_, _, _, by first | rfl | (rw [List.length_append]; done) | (rw [List.length_append]; rfl), by first | rfl | (rw [aj]; rfl) | (rw [ag]; rfl) | (rw [aj, ah]; rfl) | (rw [ag, ah]; rfl)⟩ ⟨_, _, _, by first | rfl | (rw [List.length_append]; done) | (rw [List.length_append]; rfl), by first | rfl | (rw [aj]; rfl) | (rw [ag]; rfl) | (rw [aj, ah]; rfl) | (rw [ag, ah]; rfl)⟩ la_v la_l la_b) ?_
 simp -implicitDefEqProofs (maxSteps := 2000000) (disch := omega) only [bP, List.length_replicate, Option.isNone_some.{0}, Option.isNone_none.{0}, Nat.add_assoc, bR, bB, bC, bS, simprocAttr, aF, aG, Function.comp_apply, one1, lenV, ap, az, aA, aop, AV.ofValue, AV.ofCell, AV.cells, AV.flat, AV.one, arep, aP, aE]
 repeat refine And.intro (by omega) ?_
 refine af (by kernel_rfl) (lcl_n _) ?_
 simp -implicitDefEqProofs (maxSteps := 2000000) (disch := omega) only [bP, List.length_replicate, Option.isNone_some.{0}, Option.isNone_none.{0}, Nat.add_assoc, bR, bB, bC, bS, simprocAttr, aF, aG, Function.comp_apply, one1, lenV, ap, az, aA, aop, AV.ofValue, AV.ofCell, AV.cells, AV.flat, AV.one, arep, aP, aE]
 repeat refine And.intro (by omega) ?_
 refine af (by kernel_rfl) (lls_n _) ?_
 simp -implicitDefEqProofs (maxSteps := 2000000) (disch := omega) only [bP, List.length_replicate, Option.isNone_some.{0}, Option.isNone_none.{0}, Nat.add_assoc, bR, bB, bC, bS, simprocAttr, aF, aG, Function.comp_apply, one1, lenV, ap, az, aA, aop, AV.ofValue, AV.ofCell, AV.cells, AV.flat, AV.one, arep, aP, aE]
 repeat refine And.intro (by omega) ?_
 refine af (by kernel_rfl) (lvl_n _) ?_
 simp -implicitDefEqProofs (maxSteps := 2000000) (disch := omega) only [bP, List.length_replicate, Option.isNone_some.{0}, Option.isNone_none.{0}, Nat.add_assoc, bR, bB, bC, bS, simprocAttr, aF, aG, Function.comp_apply, one1, lenV, ap, az, aA, aop, AV.ofValue, AV.ofCell, AV.cells, AV.flat, AV.one, arep, aP, aE]
 repeat refine And.intro (by omega) ?_
 refine af (by kernel_rfl) (lse_n _) ?_
 simp -implicitDefEqProofs (maxSteps := 2000000) (disch := omega) only [bP, List.length_replicate, Option.isNone_some.{0}, Option.isNone_none.{0}, Nat.add_assoc, bR, bB, bC, bS, simprocAttr, aF, aG, Function.comp_apply, one1, lenV, ap, az, aA, aop, AV.ofValue, AV.ofCell, AV.cells, AV.flat, AV.one, arep, aP, aE]
 repeat refine And.intro (by omega) ?_
 refine af (by kernel_rfl) (la_see1 _ (.sl (some (H.length + 3, 0)) 4 none) (.sl (some (H.length + 4, 0)) 1 none) _ _ ⟨_, _, _, by first | rfl | (rw [List.length_append]; done) | (rw [List.length_append]; rfl), by first | rfl | (rw [aj]; rfl) | (rw [ag]; rfl) | (rw [aj, ah]; rfl) | (rw [ag, ah]; rfl)⟩ ⟨_, _, _, by first | rfl | (rw [List.length_append]; done) | (rw [List.length_append]; rfl), by first | rfl | (rw [aj]; rfl) | (rw [ag]; rfl) | (rw [aj, ah]; rfl) | (rw [ag, ah]; rfl)⟩ (by first | rfl | (rw [aj]; rfl) | (rw [ag]; rfl) | (rw [ag])) ⟨_, _, _, by first | rfl | (rw [List.length_append]; done) | (rw [List.length_append]; rfl), by first | rfl | (rw [aj]; rfl) | (rw [ag]; rfl) | (rw [aj, ah]; rfl) | (rw [ag, ah]; rfl)⟩) ?_
 simp -implicitDefEqProofs (maxSteps := 2000000) (disch := omega) only [bP, List.length_replicate, Option.isNone_some.{0}, Option.isNone_none.{0}, Nat.add_assoc, bR, bB, bC, bS, simprocAttr, aF, aG, Function.comp_apply, one1, lenV, ap, az, aA, aop, AV.ofValue, AV.ofCell, AV.cells, AV.flat, AV.one, arep, aP, aE]
 repeat refine And.intro (by omega) ?_
 refine af (by kernel_rfl) (lplan_c _ 4 1 (.sl (some (H.length + 7, 0)) 4 none) [1, 1, 1, 2] (.sl (some (H.length + 8, 0)) laL.length none) laL 0 0 0 4 false _ ⟨_, _, _, by first | rfl | (rw [List.length_append]; done) | (rw [List.length_append]; rfl), by first | rfl | (rw [aj]; rfl) | (rw [ag]; rfl) | (rw [aj, ah]; rfl) | (rw [ag, ah]; rfl)⟩ ⟨_, _, _, by first | rfl | (rw [List.length_append]; done) | (rw [List.length_append]; rfl), by first | rfl | (rw [aj]; rfl) | (rw [ag]; rfl) | (rw [aj, ah]; rfl) | (rw [ag, ah]; rfl)⟩ ⟨_, by first | rfl | (rw [aj]; rfl) | (rw [ag]; rfl) | (rw [ag])⟩ (by decide) (by decide)) ?_
 simp -implicitDefEqProofs (maxSteps := 2000000) (disch := omega) only [bP, List.length_replicate, Option.isNone_some.{0}, Option.isNone_none.{0}, Nat.add_assoc, bR, bB, bC, bS, simprocAttr, aF, aG, Function.comp_apply, one1, lenV, ap, az, aA, aop, AV.ofValue, AV.ofCell, AV.cells, AV.flat, AV.one, arep, aP, aE]
 repeat refine And.intro (by omega) ?_
 refine af (by kernel_rfl) (kF _ 4 1 4 1 [1, 1, 1, 2] [1, 1, 1, 2] _ _ ⟨_, _, _, by first | rfl | (rw [List.length_append]; done) | (rw [List.length_append]; rfl), by first | rfl | (rw [aj]; rfl) | (rw [ag]; rfl) | (rw [aj, ah]; rfl) | (rw [ag, ah]; rfl)⟩ ⟨_, _, _, by first | rfl | (rw [List.length_append]; done) | (rw [List.length_append]; rfl), by first | rfl | (rw [aj]; rfl) | (rw [ag]; rfl) | (rw [aj, ah]; rfl) | (rw [ag, ah]; rfl)⟩ (by first | rfl | assumption) (by first | rfl | assumption) (by first | rfl | assumption)) ?_
 simp -implicitDefEqProofs (maxSteps := 2000000) (disch := omega) only [bP, List.length_replicate, Option.isNone_some.{0}, Option.isNone_none.{0}, Nat.add_assoc, bR, bB, bC, bS, simprocAttr, aF, aG, Function.comp_apply, one1, lenV, ap, az, aA, aop, AV.ofValue, AV.ofCell, AV.cells, AV.flat, AV.one, arep, aP, aE]
 repeat refine And.intro (by omega) ?_
 refine af (by kernel_rfl) (la_volc _ (.sl (some (H.length + 7, 0)) 4 none) (.sl (some (H.length + 8, 0)) laL.length none) _ ⟨_, _, _, by first | rfl | (rw [List.length_append]; done) | (rw [List.length_append]; rfl), by first | rfl | (rw [aj]; rfl) | (rw [ag]; rfl) | (rw [aj, ah]; rfl) | (rw [ag, ah]; rfl)⟩ ⟨_, _, _, by first | rfl | (rw [List.length_append]; done) | (rw [List.length_append]; rfl), by first | rfl | (rw [aj]; rfl) | (rw [ag]; rfl) | (rw [aj, ah]; rfl) | (rw [ag, ah]; rfl)⟩ ⟨_, by first | rfl | (rw [aj]; rfl) | (rw [ag]; rfl) | (rw [ag])⟩) ?_
 simp -implicitDefEqProofs (maxSteps := 2000000) (disch := omega) only [bP, List.length_replicate, Option.isNone_some.{0}, Option.isNone_none.{0}, Nat.add_assoc, bR, bB, bC, bS, simprocAttr, aF, aG, Function.comp_apply, one1, lenV, ap, az, aA, aop, AV.ofValue, AV.ofCell, AV.cells, AV.flat, AV.one, arep, aP, aE]
 repeat refine And.intro (by omega) ?_
 refine af (by kernel_rfl) (jJ _ 4 1 (.sl (some (H.length + 7, 0)) 4 none) [1, 1, 1, 2] (.sl (some (H.length + 8, 0)) laL.length none) laL 0 0 0 4 false _ ⟨_, _, _, by first | rfl | (rw [List.length_append]; done) | (rw [List.length_append]; rfl), by first | rfl | (rw [aj]; rfl) | (rw [ag]; rfl) | (rw [aj, ah]; rfl) | (rw [ag, ah]; rfl)⟩ ⟨_, _, _, by first | rfl | (rw [List.length_append]; done) | (rw [List.length_append]; rfl), by first | rfl | (rw [aj]; rfl) | (rw [ag]; rfl) | (rw [aj, ah]; rfl) | (rw [ag, ah]; rfl)⟩ ⟨_, by first | rfl | (rw [aj]; rfl) | (rw [ag]; rfl) | (rw [ag])⟩) ?_
 simp -implicitDefEqProofs (maxSteps := 2000000) (disch := omega) only [bP, List.length_replicate, Option.isNone_some.{0}, Option.isNone_none.{0}, Nat.add_assoc, bR, bB, bC, bS, simprocAttr, aF, aG, Function.comp_apply, one1, lenV, ap, az, aA, aop, AV.ofValue, AV.ofCell, AV.cells, AV.flat, AV.one, arep, aP, aE]
 repeat refine And.intro (by omega) ?_
 refine af (by kernel_rfl) (lb_mv _ (.sl (some (H.length + 7, 0)) 4 none) (.sl (some (H.length + 8, 0)) laL.length none) _ ⟨_, _, _, by first | rfl | (rw [List.length_append]; done) | (rw [List.length_append]; rfl), by first | rfl | (rw [aj]; rfl) | (rw [ag]; rfl) | (rw [aj, ah]; rfl) | (rw [ag, ah]; rfl)⟩ ⟨_, _, _, by first | rfl | (rw [List.length_append]; done) | (rw [List.length_append]; rfl), by first | rfl | (rw [aj]; rfl) | (rw [ag]; rfl) | (rw [aj, ah]; rfl) | (rw [ag, ah]; rfl)⟩ (by first | rfl | (rw [aj]; rfl) | (rw [ag]; rfl) | (rw [ag]))) ?_
 simp -implicitDefEqProofs (maxSteps := 2000000) (disch := omega) only [bP, List.length_replicate, Option.isNone_some.{0}, Option.isNone_none.{0}, Nat.add_assoc, bR, bB, bC, bS, simprocAttr, aF, aG, Function.comp_apply, one1, lenV, ap, az, aA, aop, AV.ofValue, AV.ofCell, AV.cells, AV.flat, AV.one, arep, aP, aE]
 repeat refine And.intro (by omega) ?_
 refine af (by kernel_rfl) (lb_box _ (.sl (some (H.length + 7, 0)) 4 none) (.sl (some (H.length + 11, 0)) laM.length none) _ ⟨_, _, _, by first | rfl | (rw [List.length_append]; done) | (rw [List.length_append]; rfl), by first | rfl | (rw [aj]; rfl) | (rw [ag]; rfl) | (rw [aj, ah]; rfl) | (rw [ag, ah]; rfl)⟩ ⟨_, _, _, by first | rfl | (rw [List.length_append]; done) | (rw [List.length_append]; rfl), by first | rfl | (rw [aj]; rfl) | (rw [ag]; rfl) | (rw [aj, ah]; rfl) | (rw [ag, ah]; rfl)⟩ ⟨_, by first | rfl | (rw [aj]; rfl) | (rw [ag]; rfl) | (rw [ag])⟩) ?_
 simp -implicitDefEqProofs (maxSteps := 2000000) (disch := omega) only [bP, List.length_replicate, Option.isNone_some.{0}, Option.isNone_none.{0}, Nat.add_assoc, bR, bB, bC, bS, simprocAttr, aF, aG, Function.comp_apply, one1, lenV, ap, az, aA, aop, AV.ofValue, AV.ofCell, AV.cells, AV.flat, AV.one, arep, aP, aE]
 repeat refine And.intro (by omega) ?_
 refine af (by kernel_rfl) (lb_see _ (.sl (some (H.length + 7, 0)) 4 none) (.sl (some (H.length + 11, 0)) laM.length none) _ _ ⟨_, _, _, by first | rfl | (rw [List.length_append]; done) | (rw [List.length_append]; rfl), by first | rfl | (rw [aj]; rfl) | (rw [ag]; rfl) | (rw [aj, ah]; rfl) | (rw [ag, ah]; rfl)⟩ ⟨_, _, _, by first | rfl | (rw [List.length_append]; done) | (rw [List.length_append]; rfl), by first | rfl | (rw [aj]; rfl) | (rw [ag]; rfl) | (rw [aj, ah]; rfl) | (rw [ag, ah]; rfl)⟩ (by first | rfl | (rw [aj]; rfl) | (rw [ag]; rfl) | (rw [ag])) ⟨_, _, _, by first | rfl | (rw [List.length_append]; done) | (rw [List.length_append]; rfl), by first | rfl | (rw [aj]; rfl) | (rw [ag]; rfl) | (rw [aj, ah]; rfl) | (rw [ag, ah]; rfl)⟩) ?_
 simp -implicitDefEqProofs (maxSteps := 2000000) (disch := omega) only [bP, List.length_replicate, Option.isNone_some.{0}, Option.isNone_none.{0}, Nat.add_assoc, bR, bB, bC, bS, simprocAttr, aF, aG, Function.comp_apply, one1, lenV, ap, az, aA, aop, AV.ofValue, AV.ofCell, AV.cells, AV.flat, AV.one, arep, aP, aE]
 repeat refine And.intro (by omega) ?_
 refine af (by kernel_rfl) (jJ _ 4 1 (.sl (some (H.length + 7, 0)) 4 none) [1, 1, 1, 2] (.sl (some (H.length + 11, 0)) laM.length none) laM 0 0 0 4 true _ ⟨_, _, _, by first | rfl | (rw [List.length_append]; done) | (rw [List.length_append]; rfl), by first | rfl | (rw [aj]; rfl) | (rw [ag]; rfl) | (rw [aj, ah]; rfl) | (rw [ag, ah]; rfl)⟩ ⟨_, _, _, by first | rfl | (rw [List.length_append]; done) | (rw [List.length_append]; rfl), by first | rfl | (rw [aj]; rfl) | (rw [ag]; rfl) | (rw [aj, ah]; rfl) | (rw [ag, ah]; rfl)⟩ ⟨_, by first | rfl | (rw [aj]; rfl) | (rw [ag]; rfl) | (rw [ag])⟩) ?_
 simp -implicitDefEqProofs (maxSteps := 2000000) (disch := omega) only [bP, List.length_replicate, Option.isNone_some.{0}, Option.isNone_none.{0}, Nat.add_assoc, bR, bB, bC, bS, simprocAttr, aF, aG, Function.comp_apply, one1, lenV, ap, az, aA, aop, AV.ofValue, AV.ofCell, AV.cells, AV.flat, AV.one, arep, aP, aE]
 repeat refine And.intro (by omega) ?_
 refine af (by kernel_rfl) (lb_mv2 _ (.sl (some (H.length + 7, 0)) 4 none) (.sl (some (H.length + 11, 0)) laM.length none) _ ⟨_, _, _, by first | rfl | (rw [List.length_append]; done) | (rw [List.length_append]; rfl), by first | rfl | (rw [aj]; rfl) | (rw [ag]; rfl) | (rw [aj, ah]; rfl) | (rw [ag, ah]; rfl)⟩ ⟨_, _, _, by first | rfl | (rw [List.length_append]; done) | (rw [List.length_append]; rfl), by first | rfl | (rw [aj]; rfl) | (rw [ag]; rfl) | (rw [aj, ah]; rfl) | (rw [ag, ah]; rfl)⟩ ⟨_, by first | rfl | (rw [aj]; rfl) | (rw [ag]; rfl) | (rw [ag])⟩) ?_
 simp -implicitDefEqProofs (maxSteps := 2000000) (disch := omega) only [bP, List.length_replicate, Option.isNone_some.{0}, Option.isNone_none.{0}, Nat.add_assoc, bR, bB, bC, bS, simprocAttr, aF, aG, Function.comp_apply, one1, lenV, ap, az, aA, aop, AV.ofValue, AV.ofCell, AV.cells, AV.flat, AV.one, arep, aP, aE]
 repeat refine And.intro (by omega) ?_
 refine af (by kernel_rfl) (lb_res _ (.sl (some (H.length + 7, 0)) 4 none) (.sl (some (H.length + 11, 0)) laM.length none) _ _ ⟨_, _, _, by first | rfl | (rw [List.length_append]; done) | (rw [List.length_append]; rfl), by first | rfl | (rw [aj]; rfl) | (rw [ag]; rfl) | (rw [aj, ah]; rfl) | (rw [ag, ah]; rfl)⟩ ⟨_, _, _, by first | rfl | (rw [List.length_append]; done) | (rw [List.length_append]; rfl), by first | rfl | (rw [aj]; rfl) | (rw [ag]; rfl) | (rw [aj, ah]; rfl) | (rw [ag, ah]; rfl)⟩ (by first | rfl | (rw [aj]; rfl) | (rw [ag]; rfl) | (rw [ag])) ⟨_, _, _, by first | rfl | (rw [List.length_append]; done) | (rw [List.length_append]; rfl), by first | rfl | (rw [aj]; rfl) | (rw [ag]; rfl) | (rw [aj, ah]; rfl) | (rw [ag, ah]; rfl)⟩) ?_
 simp -implicitDefEqProofs (maxSteps := 2000000) (disch := omega) only [bP, List.length_replicate, Option.isNone_some.{0}, Option.isNone_none.{0}, Nat.add_assoc, bR, bB, bC, bS, simprocAttr, aF, aG, Function.comp_apply, one1, lenV, ap, az, aA, aop, AV.ofValue, AV.ofCell, AV.cells, AV.flat, AV.one, arep, aP, aE]
 repeat refine And.intro (by omega) ?_
 refine af (by kernel_rfl) (lb_vol _ (.sl (some (H.length + 7, 0)) 4 none) (.sl (some (H.length + 15, 0)) 1 none) _ ⟨_, _, _, by first | rfl | (rw [List.length_append]; done) | (rw [List.length_append]; rfl), by first | rfl | (rw [aj]; rfl) | (rw [ag]; rfl) | (rw [aj, ah]; rfl) | (rw [ag, ah]; rfl)⟩ ⟨_, _, _, by first | rfl | (rw [List.length_append]; done) | (rw [List.length_append]; rfl), by first | rfl | (rw [aj]; rfl) | (rw [ag]; rfl) | (rw [aj, ah]; rfl) | (rw [ag, ah]; rfl)⟩ ⟨_, by first | rfl | (rw [aj]; rfl) | (rw [ag]; rfl) | (rw [ag])⟩) ?_
 simp -implicitDefEqProofs (maxSteps := 2000000) (disch := omega) only [bP, List.length_replicate, Option.isNone_some.{0}, Option.isNone_none.{0}, Nat.add_assoc, bR, bB, bC, bS, simprocAttr, aF, aG, Function.comp_apply, one1, lenV, ap, az, aA, aop, AV.ofValue, AV.ofCell, AV.cells, AV.flat, AV.one, arep, aP, aE]
 repeat refine And.intro (by omega) ?_
 refine af (by kernel_rfl) (jJ _ 4 1 (.sl (some (H.length + 7, 0)) 4 none) [1, 1, 1, 2] (.sl (some (H.length + 15, 0)) 1 none) [(100, 32, 100, 32, 0, 1)] 0 0 0 4 false _ ⟨_, _, _, by first | rfl | (rw [List.length_append]; done) | (rw [List.length_append]; rfl), by first | rfl | (rw [aj]; rfl) | (rw [ag]; rfl) | (rw [aj, ah]; rfl) | (rw [ag, ah]; rfl)⟩ ⟨_, _, _, by first | rfl | (rw [List.length_append]; done) | (rw [List.length_append]; rfl), by first | rfl | (rw [aj]; rfl) | (rw [ag]; rfl) | (rw [aj, ah]; rfl) | (rw [ag, ah]; rfl)⟩ ⟨_, by first | rfl | (rw [aj]; rfl) | (rw [ag]; rfl) | (rw [ag])⟩) ?_
 simp -implicitDefEqProofs (maxSteps := 2000000) (disch := omega) only [bP, List.length_replicate, Option.isNone_some.{0}, Option.isNone_none.{0}, Nat.add_assoc, bR, bB, bC, bS, simprocAttr, aF, aG, Function.comp_apply, one1, lenV, ap, az, aA, aop, AV.ofValue, AV.ofCell, AV.cells, AV.flat, AV.one, arep, aP, aE]
 repeat refine And.intro (by omega) ?_
 refine af (by kernel_rfl) (lb_set _ (.sl (some (H.length + 7, 0)) 4 none) (.sl (some (H.length + 15, 0)) 1 none) _ ⟨_, _, _, by first | rfl | (rw [List.length_append]; done) | (rw [List.length_append]; rfl), by first | rfl | (rw [aj]; rfl) | (rw [ag]; rfl) | (rw [aj, ah]; rfl) | (rw [ag, ah]; rfl)⟩ ⟨_, _, _, by first | rfl | (rw [List.length_append]; done) | (rw [List.length_append]; rfl), by first | rfl | (rw [aj]; rfl) | (rw [ag]; rfl) | (rw [aj, ah]; rfl) | (rw [ag, ah]; rfl)⟩ ⟨_, by first | rfl | (rw [aj]; rfl) | (rw [ag]; rfl) | (rw [ag])⟩) ?_
 simp -implicitDefEqProofs (maxSteps := 2000000) (disch := omega) only [bP, List.length_replicate, Option.isNone_some.{0}, Option.isNone_none.{0}, Nat.add_assoc, bR, bB, bC, bS, simprocAttr, aF, aG, Function.comp_apply, one1, lenV, ap, az, aA, aop, AV.ofValue, AV.ofCell, AV.cells, AV.flat, AV.one, arep, aP, aE]
 repeat refine And.intro (by omega) ?_
 exact hQ _ _ (ae (.inl rfl) hbel (x := .bool true) (ret_of Tryz.results7 (by simp -implicitDefEqProofs (maxSteps := 2000000) (disch := omega) only [simprocAttr, aF, aG, Function.comp_apply, one1, lenV, ap, az, aA, aop, AV.ofValue, AV.ofCell, AV.cells, AV.flat, AV.one, arep, aP, av, aE])) rfl ⟨rfl, rfl⟩)
open Go.RowKit
theorem lrsz_c (H : ac) (Wd : Int) (Hh : Int) (pp : AV) (xs : List Int) (s : AV) (l : List T6) (tu : Int) (le : Int) (sl : Int) (ra : Int) (lost : Bool) (bz : Nat) (hpp : Sl H 1 pp xs.length (ints .u8 xs)) (hs : Sl H 6 s l.length (r6 l)) (hz : ∃ o, H[bz]? = some (.cells o 0 [.int .i64 Wd, .int .i64 Hh, pp, s, .int .i64 tu, .int .i64 le, .int .i64 sl, .int .i64 ra, .bool lost])) : ACalls Tryz.prog 16 [.ptr (some (bz, 0)), .sl none 0 (some 0)] H (fun v H' => v = .int .i64 1 ∧ H' = H) := by
 obtain ⟨o, hz⟩ := hz
 have k := lrs_n (H ++ [.cells false 6 []]) Wd Hh pp xs s l tu le sl ra lost bz (.sl (some (H.length, 0)) 0 none) [] (hpp.app _) (hs.app _) ⟨o, aq hz⟩ ⟨H.length, false, none, rfl, by simp [bW]⟩ (by decide) (by decide +kernel)
 have k2 := k.wargs (args := [.ptr (some (bz, 0)), .sl none 0 (some 0)]) ⟨W.refl _, dj (by simp) (.inl rfl), trivial⟩
 have k3 := ACalls.weak (l1 := [.cells false 6 []]) k2.ghost [] rfl [] (by decide) (.int .i64 1) [] ⟨W.refl _, trivial⟩
 simpa using k3
theorem lrsw_c (H : ac) (W : Int) (Hh : Int) (pp : AV) (xs : List Int) (s : AV) (l : List T6) (q : AV) (m : List T6) (hpp : Sl H 1 pp xs.length (ints .u8 xs)) (hs : Sl H 6 s l.length (r6 l)) (hq : Sl H 6 q m.length (r6 m)) (hxl : xs.length ≤ 9223372036854775807) (hll : l.length ≤ 9223372036854775807) (hml : m.length ≤ 9223372036854775807) : ACalls Tryz.prog 4 [.agg [.int .i64 W, .int .i64 Hh, pp], s, q] H (fun v H' => v = .bool true ∧ H' = H) := by
 obtain ⟨bpp, opp, cpp, rfl, hbpp⟩ := hpp
 have hblpp := getElem?_lt hbpp
 have hb0pp := fun l => aq (l := l) hbpp
 obtain ⟨bs, os, cs, rfl, hbs⟩ := hs
 have hbls := getElem?_lt hbs
 have hb0s := fun l => aq (l := l) hbs
 obtain ⟨bq, oq, cq, rfl, hbq⟩ := hq
 have hblq := getElem?_lt hbq
 have hb0q := fun l => aq (l := l) hbq
 obtain ⟨tu, le, sl, ra, hcB, hBb⟩ : ∃ tu le sl ra : Int, (∀ H : ac, ACalls Tryz.prog 15 [.int .i64 1] H (fun v H' => v = .agg [.int .i64 tu, .int .i64 le, .int .i64 sl, .int .i64 ra] ∧ H' = H)) ∧ cu tu le sl ra = true := ⟨_, _, _, _, fun H => bds_c H 1 (by omega), bd_ok _⟩
 refine AcT false Tryz.func4 ?_; intro hbel Q hQ
 have g'1 := (jn @hbpp (jn @hb0pp (jn @hbs (jn @hb0s (jn @hbq (jn @hb0q @Nat.add_assoc))))))
 refine aa g'1 ?_
 refine af (by kernel_rfl) (kaw_c _) ?_
 refine aa g'1 ?_
 refine al (fun h1 => ?_) (fun h1 => ?_)
 ·have h1d := bsT h1
  have g'2 := (jn @h1 (jn @h1d g'1))
  refine aa g'2 ?_
  refine al (fun h2 => ?_) (fun h2 => ?_)
  ·have h2d := bsT h2
   have g'3 := (jn @h2 (jn @h2d g'2))
   refine aa g'3 ?_
   refine ak (fun h3 => ?_) (fun h3 => ?_)
   ·have h3d := bsT h3
    have g'4 := (jn @h3 (jn @h3d g'3))
    refine aa g'4 ?_
    refine af (by kernel_rfl) (kaw_c _) ?_
    refine aa g'4 ?_
    exact hQ _ _ (ae (.inl rfl) hbel (x := .bool true) (ai Tryz.results4) rfl ⟨by first | rfl | simp, rfl⟩)
   ·have h3d := bsT h3
    have g'5 := (jn @h3 (jn @h3d g'3))
    refine aa g'5 ?_
    refine aB (by kernel_rfl) (hcB _) ?_
    refine aa g'5 ?_
    rcases Bool.eq_false_or_eq_true (cl W Hh xs && lsB l && cu tu le sl ra) with h4 | h4
    ·have h4d := h4
     have hVL := h4d
     rw [Bool.and_eq_true, Bool.and_eq_true] at hVL
     have hV := hVL.1.1
     have hL := hVL.1.2
     have hB := hVL.2
     have hVV := cJ.1 hV
     have hw0 := hVV.w0
     have hh0 := hVV.h0
     have hw1 := hVV.w1
     have hh1 := hVV.h1
     have hS := (dI.1 hL).2
     have hl0 := (dI.1 hL).1
     have hl16 := (bY.1 hS).1
     have hx0 : 0 < xs.length := by have := (hVV.idx (show inB W Hh 0 0 = true from dV.2 (by omega))).2.2.2.2.1; omega
     refine bV (by kernel_rfl) (by simp) (lnew_y _ W Hh _ xs _ l tu le sl ra ⟨_, _, _, rfl, by first | exact hb0pp _ | exact hbpp⟩ ⟨_, _, _, rfl, by first | exact hb0s _ | exact hbs⟩ (by assumption) (by assumption) (by assumption)) ?_
     have g'6 := (jn @h4 (jn @h4d g'5))
     refine aa g'6 ?_
     refine aB (by kernel_rfl) (hcB _) ?_
     refine aa g'6 ?_
     refine bV (by kernel_rfl) (by simp) (rgnew_y _ W Hh _ xs _ l tu le sl ra ⟨_, _, _, rfl, by first | exact hb0pp _ | exact hbpp⟩ ⟨_, _, _, rfl, by first | exact hb0s _ | exact hbs⟩ (by assumption) (by assumption) (by assumption)) ?_
     refine aa g'6 ?_
     rcases Bool.eq_false_or_eq_true (lsB m) with h5 | h5
     ·have h5d := h5
      have hM := h5d
      have hmS := (dI.1 hM).2
      have hm0 := (dI.1 hM).1
      have hm16 := (bY.1 hmS).1
      refine af (by kernel_rfl) (lrs_y _ W Hh (.sl (some (H.length + 1, 0)) xs.length none) xs (.sl (some (H.length + 2, 0)) l.length none) l tu le sl ra false _ _ m ⟨_, _, _, by first | rfl | (rw [List.length_append]; done) | (rw [List.length_append]; rfl), by first | rfl | (rw [aj]; rfl) | (rw [ag]; rfl) | (rw [aj, ah]; rfl) | (rw [ag, ah]; rfl)⟩ ⟨_, _, _, by first | rfl | (rw [List.length_append]; done) | (rw [List.length_append]; rfl), by first | rfl | (rw [aj]; rfl) | (rw [ag]; rfl) | (rw [aj, ah]; rfl) | (rw [ag, ah]; rfl)⟩ (by first | rfl | (rw [aj]; rfl) | (rw [ag]; rfl) | (rw [ag])) ⟨_, _, _, rfl, by first | exact hb0q _ | exact hbq⟩ (by assumption)) ?_
      have g'7 := (jn @h5 (jn @h5d g'6))
      refine aa g'7 ?_
      refine af (by kernel_rfl) (rgrs_y _ W Hh (.sl (some (H.length + 4, 0)) xs.length none) xs (.sl (some (H.length + 5, 0)) l.length none) l tu le sl ra false _ _ m ⟨_, _, _, by first | rfl | (rw [List.length_append]; done) | (rw [List.length_append]; rfl), by first | rfl | (rw [aj]; rfl) | (rw [ag]; rfl) | (rw [aj, ah]; rfl) | (rw [ag, ah]; rfl)⟩ ⟨_, _, _, by first | rfl | (rw [List.length_append]; done) | (rw [List.length_append]; rfl), by first | rfl | (rw [aj]; rfl) | (rw [ag]; rfl) | (rw [aj, ah]; rfl) | (rw [ag, ah]; rfl)⟩ (by first | rfl | (rw [aj]; rfl) | (rw [ag]; rfl) | (rw [ag])) ⟨_, _, _, rfl, by first | exact hb0q _ | exact hbq⟩ (by assumption)) ?_
      refine aa g'7 ?_
      refine af (by kernel_rfl) (lJ _ W Hh (.sl (some (H.length + 1, 0)) xs.length none) xs (.sl (some (H.length + 7, 0)) m.length none) m tu le sl ra false _ (.sl (some (H.length + 4, 0)) xs.length none) (.sl (some (H.length + 8, 0)) m.length none) _ ⟨_, _, _, by first | rfl | (rw [List.length_append]; done) | (rw [List.length_append]; rfl), by first | rfl | (rw [aj]; rfl) | (rw [ag]; rfl) | (rw [aj, ah]; rfl) | (rw [ag, ah]; rfl)⟩ ⟨_, _, _, by first | rfl | (rw [List.length_append]; done) | (rw [List.length_append]; rfl), by first | rfl | (rw [aj]; rfl) | (rw [ag]; rfl) | (rw [aj, ah]; rfl) | (rw [ag, ah]; rfl)⟩ ⟨_, by first | rfl | (rw [aj]; rfl) | (rw [ag]; rfl) | (rw [ag])⟩ ⟨_, _, _, by first | rfl | (rw [List.length_append]; done) | (rw [List.length_append]; rfl), by first | rfl | (rw [aj]; rfl) | (rw [ag]; rfl) | (rw [aj, ah]; rfl) | (rw [ag, ah]; rfl)⟩ ⟨_, _, _, by first | rfl | (rw [List.length_append]; done) | (rw [List.length_append]; rfl), by first | rfl | (rw [aj]; rfl) | (rw [ag]; rfl) | (rw [aj, ah]; rfl) | (rw [ag, ah]; rfl)⟩ ⟨_, by first | rfl | (rw [aj]; rfl) | (rw [ag]; rfl) | (rw [ag])⟩ (by omega) (by omega) (by assumption) (by assumption)) ?_
      refine aa g'7 ?_
      refine af (by kernel_rfl) (lrsz_c _ W Hh (.sl (some (H.length + 1, 0)) xs.length none) xs (.sl (some (H.length + 7, 0)) m.length none) m tu le sl ra false _ ⟨_, _, _, by first | rfl | (rw [List.length_append]; done) | (rw [List.length_append]; rfl), by first | rfl | (rw [aj]; rfl) | (rw [ag]; rfl) | (rw [aj, ah]; rfl) | (rw [ag, ah]; rfl)⟩ ⟨_, _, _, by first | rfl | (rw [List.length_append]; done) | (rw [List.length_append]; rfl), by first | rfl | (rw [aj]; rfl) | (rw [ag]; rfl) | (rw [aj, ah]; rfl) | (rw [ag, ah]; rfl)⟩ ⟨_, by first | rfl | (rw [aj]; rfl) | (rw [ag]; rfl) | (rw [ag])⟩) ?_
      refine aa g'7 ?_
      refine af (by kernel_rfl) (lJ _ W Hh (.sl (some (H.length + 1, 0)) xs.length none) xs (.sl (some (H.length + 7, 0)) m.length none) m tu le sl ra false _ (.sl (some (H.length + 4, 0)) xs.length none) (.sl (some (H.length + 8, 0)) m.length none) _ ⟨_, _, _, by first | rfl | (rw [List.length_append]; done) | (rw [List.length_append]; rfl), by first | rfl | (rw [aj]; rfl) | (rw [ag]; rfl) | (rw [aj, ah]; rfl) | (rw [ag, ah]; rfl)⟩ ⟨_, _, _, by first | rfl | (rw [List.length_append]; done) | (rw [List.length_append]; rfl), by first | rfl | (rw [aj]; rfl) | (rw [ag]; rfl) | (rw [aj, ah]; rfl) | (rw [ag, ah]; rfl)⟩ ⟨_, by first | rfl | (rw [aj]; rfl) | (rw [ag]; rfl) | (rw [ag])⟩ ⟨_, _, _, by first | rfl | (rw [List.length_append]; done) | (rw [List.length_append]; rfl), by first | rfl | (rw [aj]; rfl) | (rw [ag]; rfl) | (rw [aj, ah]; rfl) | (rw [ag, ah]; rfl)⟩ ⟨_, _, _, by first | rfl | (rw [List.length_append]; done) | (rw [List.length_append]; rfl), by first | rfl | (rw [aj]; rfl) | (rw [ag]; rfl) | (rw [aj, ah]; rfl) | (rw [ag, ah]; rfl)⟩ ⟨_, by first | rfl | (rw [aj]; rfl) | (rw [ag]; rfl) | (rw [ag])⟩ (by omega) (by omega) (by assumption) (by assumption)) ?_
      refine aa g'7 ?_
      exact hQ _ _ (ae (.inl rfl) hbel (x := .bool true) (ai Tryz.results4) rfl ⟨by first | rfl | simp, rfl⟩)
     ·have h5d := h5
      refine af (by kernel_rfl) (lrs_n _ W Hh (.sl (some (H.length + 1, 0)) xs.length none) xs (.sl (some (H.length + 2, 0)) l.length none) l tu le sl ra false _ _ m ⟨_, _, _, by first | rfl | (rw [List.length_append]; done) | (rw [List.length_append]; rfl), by first | rfl | (rw [aj]; rfl) | (rw [ag]; rfl) | (rw [aj, ah]; rfl) | (rw [ag, ah]; rfl)⟩ ⟨_, _, _, by first | rfl | (rw [List.length_append]; done) | (rw [List.length_append]; rfl), by first | rfl | (rw [aj]; rfl) | (rw [ag]; rfl) | (rw [aj, ah]; rfl) | (rw [ag, ah]; rfl)⟩ ⟨_, by first | rfl | (rw [aj]; rfl) | (rw [ag]; rfl) | (rw [ag])⟩ ⟨_, _, _, rfl, by first | exact hb0q _ | exact hbq⟩ (by omega) (by assumption)) ?_
      have g'8 := (jn @h5 (jn @h5d g'6))
      refine aa g'8 ?_
      refine af (by kernel_rfl) (rgrs_n _ W Hh (.sl (some (H.length + 4, 0)) xs.length none) xs (.sl (some (H.length + 5, 0)) l.length none) l tu le sl ra false _ _ m ⟨_, _, _, by first | rfl | (rw [List.length_append]; done) | (rw [List.length_append]; rfl), by first | rfl | (rw [aj]; rfl) | (rw [ag]; rfl) | (rw [aj, ah]; rfl) | (rw [ag, ah]; rfl)⟩ ⟨_, _, _, by first | rfl | (rw [List.length_append]; done) | (rw [List.length_append]; rfl), by first | rfl | (rw [aj]; rfl) | (rw [ag]; rfl) | (rw [aj, ah]; rfl) | (rw [ag, ah]; rfl)⟩ ⟨_, by first | rfl | (rw [aj]; rfl) | (rw [ag]; rfl) | (rw [ag])⟩ ⟨_, _, _, rfl, by first | exact hb0q _ | exact hbq⟩ (by omega) (by assumption)) ?_
      refine aa g'8 ?_
      refine af (by kernel_rfl) (lJ _ W Hh (.sl (some (H.length + 1, 0)) xs.length none) xs (.sl (some (H.length + 2, 0)) l.length none) l tu le sl ra false _ (.sl (some (H.length + 4, 0)) xs.length none) (.sl (some (H.length + 5, 0)) l.length none) _ ⟨_, _, _, by first | rfl | (rw [List.length_append]; done) | (rw [List.length_append]; rfl), by first | rfl | (rw [aj]; rfl) | (rw [ag]; rfl) | (rw [aj, ah]; rfl) | (rw [ag, ah]; rfl)⟩ ⟨_, _, _, by first | rfl | (rw [List.length_append]; done) | (rw [List.length_append]; rfl), by first | rfl | (rw [aj]; rfl) | (rw [ag]; rfl) | (rw [aj, ah]; rfl) | (rw [ag, ah]; rfl)⟩ ⟨_, by first | rfl | (rw [aj]; rfl) | (rw [ag]; rfl) | (rw [ag])⟩ ⟨_, _, _, by first | rfl | (rw [List.length_append]; done) | (rw [List.length_append]; rfl), by first | rfl | (rw [aj]; rfl) | (rw [ag]; rfl) | (rw [aj, ah]; rfl) | (rw [ag, ah]; rfl)⟩ ⟨_, _, _, by first | rfl | (rw [List.length_append]; done) | (rw [List.length_append]; rfl), by first | rfl | (rw [aj]; rfl) | (rw [ag]; rfl) | (rw [aj, ah]; rfl) | (rw [ag, ah]; rfl)⟩ ⟨_, by first | rfl | (rw [aj]; rfl) | (rw [ag]; rfl) | (rw [ag])⟩ (by omega) (by omega) (by assumption) (by assumption)) ?_
      refine aa g'8 ?_
      refine af (by kernel_rfl) (lrsz_c _ W Hh (.sl (some (H.length + 1, 0)) xs.length none) xs (.sl (some (H.length + 2, 0)) l.length none) l tu le sl ra false _ ⟨_, _, _, by first | rfl | (rw [List.length_append]; done) | (rw [List.length_append]; rfl), by first | rfl | (rw [aj]; rfl) | (rw [ag]; rfl) | (rw [aj, ah]; rfl) | (rw [ag, ah]; rfl)⟩ ⟨_, _, _, by first | rfl | (rw [List.length_append]; done) | (rw [List.length_append]; rfl), by first | rfl | (rw [aj]; rfl) | (rw [ag]; rfl) | (rw [aj, ah]; rfl) | (rw [ag, ah]; rfl)⟩ ⟨_, by first | rfl | (rw [aj]; rfl) | (rw [ag]; rfl) | (rw [ag])⟩) ?_
      refine aa g'8 ?_
      refine af (by kernel_rfl) (lJ _ W Hh (.sl (some (H.length + 1, 0)) xs.length none) xs (.sl (some (H.length + 2, 0)) l.length none) l tu le sl ra false _ (.sl (some (H.length + 4, 0)) xs.length none) (.sl (some (H.length + 5, 0)) l.length none) _ ⟨_, _, _, by first | rfl | (rw [List.length_append]; done) | (rw [List.length_append]; rfl), by first | rfl | (rw [aj]; rfl) | (rw [ag]; rfl) | (rw [aj, ah]; rfl) | (rw [ag, ah]; rfl)⟩ ⟨_, _, _, by first | rfl | (rw [List.length_append]; done) | (rw [List.length_append]; rfl), by first | rfl | (rw [aj]; rfl) | (rw [ag]; rfl) | (rw [aj, ah]; rfl) | (rw [ag, ah]; rfl)⟩ ⟨_, by first | rfl | (rw [aj]; rfl) | (rw [ag]; rfl) | (rw [ag])⟩ ⟨_, _, _, by first | rfl | (rw [List.length_append]; done) | (rw [List.length_append]; rfl), by first | rfl | (rw [aj]; rfl) | (rw [ag]; rfl) | (rw [aj, ah]; rfl) | (rw [ag, ah]; rfl)⟩ ⟨_, _, _, by first | rfl | (rw [List.length_append]; done) | (rw [List.length_append]; rfl), by first | rfl | (rw [aj]; rfl) | (rw [ag]; rfl) | (rw [aj, ah]; rfl) | (rw [ag, ah]; rfl)⟩ ⟨_, by first | rfl | (rw [aj]; rfl) | (rw [ag]; rfl) | (rw [ag])⟩ (by omega) (by omega) (by assumption) (by assumption)) ?_
      refine aa g'8 ?_
      exact hQ _ _ (ae (.inl rfl) hbel (x := .bool true) (ai Tryz.results4) rfl ⟨by first | rfl | simp, rfl⟩)
    ·have h4d := h4
     refine aB (by kernel_rfl) (lnew_n _ W Hh _ xs _ l tu le sl ra ⟨_, _, _, rfl, by first | exact hb0pp _ | exact hbpp⟩ ⟨_, _, _, rfl, by first | exact hb0s _ | exact hbs⟩ (by omega) (by assumption)) ?_
     have g'9 := (jn @h4 (jn @h4d g'5))
     refine aa g'9 ?_
     refine aB (by kernel_rfl) (hcB _) ?_
     refine aa g'9 ?_
     refine aB (by kernel_rfl) (rgnew_n _ W Hh _ xs _ l tu le sl ra ⟨_, _, _, rfl, by first | exact hb0pp _ | exact hbpp⟩ ⟨_, _, _, rfl, by first | exact hb0s _ | exact hbs⟩ (by omega) (by assumption)) ?_
     refine aa g'9 ?_
     refine af (by kernel_rfl) (lrsnn _ _ m ⟨_, _, _, rfl, by first | exact hb0q _ | exact hbq⟩) ?_
     refine aa g'9 ?_
     refine af (by kernel_rfl) (rgrsnn _ _ m ⟨_, _, _, rfl, by first | exact hb0q _ | exact hbq⟩) ?_
     refine aa g'9 ?_
     refine af (by kernel_rfl) (same_n _) ?_
     refine aa g'9 ?_
     refine af (by kernel_rfl) (lrsnz _) ?_
     refine aa g'9 ?_
     refine af (by kernel_rfl) (same_n _) ?_
     refine aa g'9 ?_
     exact hQ _ _ (ae (.inl rfl) hbel (x := .bool true) (ai Tryz.results4) rfl ⟨by first | rfl | simp, rfl⟩)
  ·have h2d := bsT h2
   have g'10 := (jn @h2 (jn @h2d g'2))
   refine aa g'10 ?_
   refine af (by kernel_rfl) (kaw_c _) ?_
   refine aa g'10 ?_
   exact hQ _ _ (ae (.inl rfl) hbel (x := .bool true) (ai Tryz.results4) rfl ⟨by first | rfl | simp, rfl⟩)
 ·have h1d := bsT h1
  have g'11 := (jn @h1 (jn @h1d g'1))
  refine aa g'11 ?_
  refine af (by kernel_rfl) (kaw_c _) ?_
  refine aa g'11 ?_
  exact hQ _ _ (ae (.inl rfl) hbel (x := .bool true) (ai Tryz.results4) rfl ⟨by first | rfl | simp, rfl⟩)
open Go.RowKit
set_option maxRecDepth 100000 in
theorem kG (H : ac) (xs : List AV) (hn : xs.length = 3) (hy : ∀ (j : Nat) (t : TypeId) (x : AV), [24, 25, 25][j]? = some t → xs[j]? = some x → ATy Tryz.prog H 9 t x) : ACalls Tryz.prog 4 xs H (fun v H' => v = .bool true ∧ H' = H) := by
 match xs, hn, hy with
 | [a0, a1, a2], _, hy =>
  obtain ⟨ys0, e0, r0_0⟩ := (hy 0 _ a0 rfl rfl).agg (ls := [3, 3, 22]) (by kernel_rfl) (by kernel_rfl)
  obtain ⟨y0_0, q0_0, rfl, t0_0, r0_1⟩ := r0_0.cons
  obtain ⟨z1, rfl, w1⟩ := t0_0.int (k := .i64) (by kernel_rfl)
  obtain ⟨y0_1, q0_1, rfl, t0_1, r0_2⟩ := r0_1.cons
  obtain ⟨z2, rfl, w2⟩ := t0_1.int (k := .i64) (by kernel_rfl)
  obtain ⟨y0_2, q0_2, rfl, t0_2, r0_3⟩ := r0_2.cons
  obtain ⟨l3, s3, m3, w3⟩ := t0_2.intsU (n := 7) (t := 22) (e := 5) (by kernel_rfl) (by kernel_rfl) (by kernel_rfl)
  obtain rfl := r0_3.nil
  subst e0
  have t1 := (hy 1 _ a1 rfl rfl).one (by kernel_rfl) (by kernel_rfl)
  obtain ⟨l4, s4, m4, w4⟩ := t1.rec6 (n := 7) (t := 25) (e := 56) (t1 := 3) (t2 := 3) (t3 := 3) (t4 := 3) (t5 := 3) (t6 := 3) (by kernel_rfl) (by kernel_rfl) (by kernel_rfl) (by kernel_rfl) (by kernel_rfl) (by kernel_rfl) (by kernel_rfl) (by kernel_rfl)
  have t2 := (hy 2 _ a2 rfl rfl).one (by kernel_rfl) (by kernel_rfl)
  obtain ⟨l5, s5, m5, w5⟩ := t2.rec6 (n := 7) (t := 25) (e := 56) (t1 := 3) (t2 := 3) (t3 := 3) (t4 := 3) (t5 := 3) (t6 := 3) (by kernel_rfl) (by kernel_rfl) (by kernel_rfl) (by kernel_rfl) (by kernel_rfl) (by kernel_rfl) (by kernel_rfl) (by kernel_rfl)
  exact lrsw_c H z1 z2 _ l3 _ l4 _ l5 s3 s4 s5 (by have q := m3; unfold maxLen at q; exact q) (by have q := m4; unfold maxLen at q; exact q) (by have q := m5; unfold maxLen at q; exact q)
section
open Go.ChangeShapes Go.WideShapes Go.ChangeAt Go.RowKit Go.Joins
open Go.ChangeMaps (open_string shut_string)
set_option maxRecDepth 100000 in
theorem iB (os : Os) (started : os.Started) (H : Type) (enc : TypeId × Value → H) :
  ReturnsInHanded {} Tryz.checked os 4 .any (Rows.locateResetsSpec.pre6 enc Tryz.prog Tryz.f4 Rows.locateResetsRow.domain false) (Rows.locateResetsSpec.post enc Tryz.prog Tryz.f4 false true false false) := by
 refine returnsInHanded_of_change (C := Tryz.checked) own started (by kernel_rfl) Tryz.func4
  (ChangeSpec.witness6 (enc := enc) (C := Tryz.checked) false ⟨#[], #[.agg #[.int .i64 0, .int .i64 0, .slice none 0 0], .slice none 0 0, .slice none 0 0], []⟩ 8 (by kernel_rfl) (by kernel_rfl) (by kernel_rfl) (by kernel_rfl)) ?_
 intro W base args ds gs before hval0 hW hcnd _
 have hval : ∀ (j : Nat) t v, Tryz.f4.params[j]? = some t → args[j]? = some v → Value.okWide Tryz.prog W .any base t v := hval0
 have hW' := hW
 obtain ⟨p, q, hA0, hV, rfl, hfz, hnd⟩ := hW
 have hA : DataW.TrodAll enc Tryz.prog W 0 (fun _ => true) true Tryz.f4.params.toList args.toList ds p := hA0
 rw [Tryz.params4] at hA hval
 have hwalk := calls_top (n := 9) (f := 4) hA (fun j t v a b => hval j t v (by simpa using a) (by simpa using b)) (by kernel_rfl) (fun H xs hn hy => kG H xs hn hy)
 rw [Array.toArray_toList] at hwalk
 obtain ⟨v0, vs0, d0, ds0, p0, q0, hargs, rfl, rfl, h0, r0⟩ := trodAll_cons hA
 obtain ⟨v1, vs1, d1, ds1, p1, q1, rfl, rfl, rfl, h1, r1⟩ := trodAll_cons r0
 obtain ⟨v2, vs2, d2, ds2, p2, q2, rfl, rfl, rfl, h2, r2⟩ := trodAll_cons r1
 obtain ⟨rfl, rfl, rfl⟩ := trodAll_nil r2
 obtain rfl : args = #[v0, v1, v2] := by cases args; simp_all
 obtain ⟨rfl, rfl⟩ := trodVars_none hV
 have k0 := h0
 have lt0 : ∀ x ∈ p0, x.block < W.heap.size := by obtain ⟨m, hm⟩ := k0; exact DataW.trod_lt m _ _ _ hm
 have k1 := h1
 have lt1 : ∀ x ∈ p1, x.block < W.heap.size := by obtain ⟨m, hm⟩ := k1; exact DataW.trod_lt m _ _ _ hm
 have k2 := h2
 have lt2 : ∀ x ∈ p2, x.block < W.heap.size := by obtain ⟨m, hm⟩ := k2; exact DataW.trod_lt m _ _ _ hm
 clear hA0 hval0
 refine hwalk.mono fun e W' ⟨he, bel⟩ => ?_
 subst he
 exact ⟨_, rfl, _, _, _, [], _, [], hW', trodAll_mk1 (shut_bool Tryz.underlying4 _), (trodAll_cons_mk (Below.trod jq (by kernel_rfl) (of_decide_eq_true (by kernel_rfl)) k0 bel lt0) (trodAll_cons_mk (Below.trod jq (by kernel_rfl) (of_decide_eq_true (by kernel_rfl)) k1 bel lt1) (trodAll_cons_mk (Below.trod jq (by kernel_rfl) (of_decide_eq_true (by kernel_rfl)) k2 bel lt2) trodAll_mk0))), rfl, bel.frame _, fun h => by cases h⟩
theorem cp {a b : Bool} (h : a = true) (k : b = true) : (a && b) = true := by rw [h, k]; rfl
theorem lK : (Rows.locateResetsRow.inPlace == Tryz.pinned.checked.prog.inPlace 4) = true := by kernel_rfl
theorem lL : (Rows.locateResetsRow.unfollowed == Tryz.pinned.checked.prog.unfollowed 4) = true := by kernel_rfl
theorem lM : (Rows.locateResetsRow.recurses == Tryz.pinned.checked.prog.recurses 4) = true := by kernel_rfl
theorem lN : (Rows.locateResetsRow.named == Tryz.pinned.checked.prog.varsNamed 4) = true := by kernel_rfl
theorem lO : Tryz.pinned.checked.prog.stopsHeard = true := by kernel_rfl
theorem lP : Tryz.pinned.checked.prog.mayEnter = true := by kernel_rfl
theorem lQ : (Rows.locateResetsRow.lifted == Tryz.pinned.checked.prog.liftsFinal) = true := by kernel_rfl
theorem iC : joinedFacts Tryz.pinned.checked.prog 4 Tryz.f4 Rows.locateResetsSpec Rows.locateResetsRow = true := by
 unfold joinedFacts
 exact (cp (cp (cp (cp (cp (cp (cp (cp (cp (cp (cp (cp (cp (cp (cp (cp (cp (cp (cp (cp (cp (cp (cp (cp (cp (cp (cp (cp (cp (cp (cp (by kernel_rfl) jq) (by kernel_rfl)) (by kernel_rfl)) (by kernel_rfl)) (by kernel_rfl)) (by kernel_rfl)) (by kernel_rfl)) (by kernel_rfl)) lK) lL) lM) lN) (by kernel_rfl)) (by kernel_rfl)) (by kernel_rfl)) (by kernel_rfl)) (by kernel_rfl)) (by kernel_rfl)) (by kernel_rfl)) (by kernel_rfl)) (by kernel_rfl)) (by kernel_rfl)) (by kernel_rfl)) lO) lP) lQ) (by kernel_rfl)) (by kernel_rfl)) (by kernel_rfl)) (by kernel_rfl)) (by kernel_rfl))
theorem jK : Rows.locateResetsRow.holds Tryz.pinned (OpenSpec.ofChange Rows.locateResetsSpec) :=
 OpenClaim.holds_of_wide 4 Tryz.f4 rfl rfl rfl rfl rfl rfl rfl ⟨rfl, rfl, rfl, rfl, rfl⟩ rfl rfl rfl rfl rfl (by kernel_rfl) Tryz.func4 iC
  (of_decide_eq_true (by kernel_rfl)) (by unfold Func.isWrapper; rw [if_neg (by decide +kernel)]; exact ⟨rfl, rfl⟩)
  (fun os started H enc _ => iB os started H enc)
theorem locateResets_proved : Rows.LocateResetsSaid := jK
end
end Go.Proofs.YtidlfjajjieepaaGreat
