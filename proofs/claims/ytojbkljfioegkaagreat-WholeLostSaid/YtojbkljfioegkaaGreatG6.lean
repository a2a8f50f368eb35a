/- Parts of the proof: walks and plain facts. Conditions: as each theorem states. -/
import Derived.Test.YtojbkljfioegkaaGreatG5
import Derived.Test.YtojbkljfioegkaaGreatG4
import Derived.Test.YtojbkljfioegkaaGreatG3
import Derived.Test.YtojbkljfioegkaaGreatG1
import Derived.Maps.AppendAt
import Derived.Deep.RegionLaw
import Derived.Test.YtojbkljfioegkaaGreatG2
import Derived.Lib.SliceRun
namespace Go.Proofs.YtojbkljfioegkaaGreat
set_option linter.unusedSimpArgs false
set_option linter.unusedVariables false
open Go.RowKit
set_option maxHeartbeats 4000000
set_option maxRecDepth 100000
set_option maxRecDepth 100000 in
theorem lT (H : ac) (s : AV) (xs : List Int) (hs : Sl H 1 s xs.length (ints .u8 xs)) (hl : xs.length ≤ 1000000) (h0 : 0 < xs.length) : ACalls Tryz.prog 74 [s] H (fun v H' => v = .sl (some (H.length, 0)) xs.length none ∧ H' = H ++ [.cells true 1 (ints .u8 xs)]) := by
 obtain ⟨b, own, cap, rfl, hb⟩ := hs
 have hbl := getElem?_lt hb
 have hb0 := fun l => aw (l := l) hb
 generalize hm : xs.length = m at *
 refine AcT true Tryz.func74 ?_; intro hbel Q hQ
 have htk : List.take m (ints .u8 xs) = ints .u8 xs := List.take_of_length_le (by rw [ck]; omega)
 have htk1 : List.take (m * 1) (ints .u8 xs) = ints .u8 xs := List.take_of_length_le (by rw [ck]; omega)
 have hm0 : (m == 0) = false := beq_eq_false_iff_ne.2 (by omega)
 have hm1 : (m != 0) = true := bne_iff_ne.2 (by omega)
 simp -implicitDefEqProofs (disch := omega) only [hb, hb0, Option.isNone_some, hm0, h0, htk, htk1, il, hm1, simprocAttr, aB, aC, Function.comp_apply, one1, lenV, ak, ar, au, aop, AV.ofValue, AV.ofCell, AV.cells, AV.flat, AV.one, arep, aN, aD, az]
 repeat refine And.intro (by omega) ?_
 refine hQ _ _ (end_by (.inl rfl) hbel (x1 := .sl (some (H.length + 1, 0)) m none) (.sl (some (H.length, 0)) m none) (ag Tryz.results74) [1] (by decide) ⟨rfl, rfl⟩ ?_)
 exact absT
theorem susL_own {l : List T6} {m r g : Int} : bm (fw l m r g).length = bm (bF l m r g).length := by
 unfold bF
 have h := gg (fw l m r g)
 generalize dB (fw l m r g) = s at *
 match s, h with
 | [], h => rw [← h]; rfl
 | a :: t, h =>
  have h2 : a ∈ ce (a :: t) := e9.2 (List.mem_cons_self ..)
  rw [ec (by rw [← h]; simp), ec (List.length_pos_of_mem h2)]
theorem ksus2_c (H : ac) (s : AV) (l : List T6) (m : Int) (r : Int) (g : Int) (hs : Sl H 6 s l.length (r6 l)) (hS : bP l = true) (hr : -1 ≤ r ∧ r ≤ 1024) (hg : 1 ≤ g ∧ g ≤ 32) : ACalls Tryz.prog 98 [s, .agg [.int .i64 m, .int .i64 r], .int .i64 g] H (fun v H' => v = .sl (some (H.length, 0)) (bF l m r g).length none ∧ H' = H ++ [.cells (bm (bF l m r g).length) 2 (prs (bF l m r g))]) := by
 have h := ksus_c H s l m r g hs hS hr hg
 rw [susL_own] at h
 exact h
theorem learn1_c (H : ac) (c1 : Int) (c2 : Int) (W : Int) (Hh : Int) (pp : AV) (xs : List Int) (bz : Nat) (hpp : Sl H 1 pp xs.length (ints .u8 xs)) (hz : ∃ o, H[bz]? = some (.cells o 0 [.int .i64 W, .int .i64 Hh, pp])) (hV : bW W Hh xs = true) : ACalls Tryz.prog 99 [.agg [.int .i64 c1, .int .i64 c2], .ptr (some (bz, 0))] H (fun v H' => v = .bool (frP W Hh xs (c1, c2)) ∧ H' = H) := by
 obtain ⟨bpp, opp, cpp, rfl, hbpp⟩ := hpp
 have hblpp := getElem?_lt hbpp
 have hb0pp := fun l => aw (l := l) hbpp
 obtain ⟨oz, hbz⟩ := hz
 have hblz := getElem?_lt hbz
 have hb0z := fun l => aw (l := l) hbz
 refine AcT true Tryz.func99 ?_; intro hbel Q hQ
 have g'1 := (jn @hbpp (jn @hb0pp (jn @hbz @hb0z)))
 refine aa g'1 ?_
 refine af (by kernel_rfl) (pat_c _ W Hh _ xs c1 c2 ⟨_, _, _, rfl, by first | exact hb0pp _ | exact hbpp⟩ hV) ?_
 refine aa g'1 ?_
 exact hQ _ _ (ae (.inl rfl) hbel (x := .bool ((atI W Hh xs c1 c2) == 1)) (ag Tryz.results99) rfl ⟨rfl, rfl⟩)
theorem learn_c (H : ac) (W : Int) (Hh : Int) (pp : AV) (xs : List Int) (s : AV) (l : List T6) (q : AV) (sc : List (Int × Int)) (g : Int) (hpp : Sl H 1 pp xs.length (ints .u8 xs)) (hs : Sl H 6 s l.length (r6 l)) (hq : Sl H 2 q sc.length (prs sc)) (hl : l.length ≤ 1000000000) (hsc : sc.length ≤ 1000000000) : ACalls Tryz.prog 56 [.agg [.int .i64 W, .int .i64 Hh, pp], s, q, .int .i64 g] H (fun v H' => v = .tup [.agg [.int .i64 (lnZ W Hh xs l sc g W), .int .i64 (lnZ W Hh xs l sc g Hh), .sl (some (H.length, 0)) ((lnX W Hh xs l sc g).length) none], .int .i64 (lnE W Hh xs l sc g)] ∧ H' = H ++ [.cells (bm (lnX W Hh xs l sc g).length) 1 (ints .u8 (lnX W Hh xs l sc g))]) := by
 obtain ⟨bpp, opp, cpp, rfl, hbpp⟩ := hpp
 have hblpp := getElem?_lt hbpp
 have hb0pp := fun l => aw (l := l) hbpp
 obtain ⟨bs, os, cs, rfl, hbs⟩ := hs
 have hbls := getElem?_lt hbs
 have hb0s := fun l => aw (l := l) hbs
 obtain ⟨bq, oq, cq, rfl, hbq⟩ := hq
 have hblq := getElem?_lt hbq
 have hb0q := fun l => aw (l := l) hbq
 (refine bT Tryz.func56 _ rfl (Nat.le_of_ble_eq_true (by kernel_rfl)) rfl ?_; intro hbel Q hQ hQ' c hc; unfold Tryz.f56 at hc; simp only [Option.some.injEq] at hc; subst hc; clear hQ')
 refine i6 false try_mixed (by kernel_rfl) (fun F Hx => look F 1 = .sl (some (bs, 0)) l.length cs ∧ look F 2 = .sl (some (bq, 0)) sc.length cq ∧ look F 3 = .int .i64 g ∧ look F 4 = .ptr (some (H.length, 0)) ∧ look F 8 = .ptr (some (H.length + 1, 0)) ∧ look F 9 = .int .i64 0 ∧ Hx = H ++ [.cells true 0 [.int .i64 W, .int .i64 Hh, .sl (some (bpp, 0)) xs.length cpp], .cells true 0 [.int .i64 0, .int .i64 0, .sl none 0 (some 0)]]) ?_ ?_
 ·skip
  have g'2 := (jn @hbpp (jn @hb0pp (jn @hbs (jn @hb0s (jn @hbq @hb0q)))))
  refine aa g'2 ?_
  refine aR ?_
  exact absT
 rintro F Hx ⟨f1, f2, f3, f4, f5, f6, rfl⟩
 refine i6 false try_mixed (by kernel_rfl) (fun F Hx => db W Hh xs l sc g = true ∧ look F 1 = .sl (some (bs, 0)) l.length cs ∧ look F 2 = .sl (some (bq, 0)) sc.length cq ∧ look F 3 = .int .i64 g ∧ look F 4 = .ptr (some (H.length, 0)) ∧ look F 8 = .ptr (some (H.length + 1, 0)) ∧ look F 9 = .int .i64 0 ∧ Hx = H ++ [.cells true 0 [.int .i64 W, .int .i64 Hh, .sl (some (bpp, 0)) xs.length cpp], .cells true 0 [.int .i64 0, .int .i64 0, .sl none 0 (some 0)]]) ?_ ?_
 ·skip
  have g'3 := (jn @hbpp (jn @hb0pp (jn @hbs (jn @hb0s (jn @hbq (jn @hb0q (jn @f1 (jn @f2 (jn @f3 (jn @f4 (jn @f5 @f6)))))))))))
  refine aa g'3 ?_
  refine af (by kernel_rfl) (kright_c _ W Hh _ xs _ l _ sc g ⟨_, _, _, rfl, by first | exact hb0pp _ | exact hbpp⟩ ⟨_, _, _, rfl, by first | exact hb0s _ | exact hbs⟩ ⟨_, _, _, rfl, by first | exact hb0q _ | exact hbq⟩ (by first | omega | simp) (by first | omega | simp)) ?_
  refine aa g'3 ?_
  refine ai (fun h7 => ?_) (fun h7 => ?_)
  ·have h7d := bsT h7
   have hfinP := ln_1 h7d
   have g'4 := (jn @h7 (jn @h7d g'3))
   refine aa g'4 ?_
   refine hQ _ _ (bB (.inl rfl) hbel (x1 := .tup [.agg [.int .i64 0, .int .i64 0, .sl none 0 (some 0)], .int .i64 1]) (l2 := [.cells false 1 []]) (.tup [.agg [.int .i64 0, .int .i64 0, .sl (some (H.length, 0)) 0 none], .int .i64 1]) (resTf (jn @f1 (jn @f2 (jn @f3 (jn @f4 (jn @f5 @f6))))) Tryz.results56) [.cells false 1 []] rfl [2] (by decide) ⟨by first | (rw [hfinP.1, hfinP.2.1, hfinP.2.2.1, hfinP.2.2.2]; done) | (rw [hfinP.1, hfinP.2.1, hfinP.2.2.1, hfinP.2.2.2]; rfl) | skip, by first | (rw [hfinP.2.1, hfinO]; done) | (rw [hfinP.2.1, hfinO]; rfl) | (rw [hfinP.2.1]; done) | (rw [hfinP.2.1]; rfl) | skip⟩ ?_)
   exact be
  ·have h7d := bsT h7
   have g'5 := (jn @h7 (jn @h7d g'3))
   refine aa g'5 ?_
   refine aR ?_
   exact absTf (jn @f1 (jn @f2 (jn @f3 (jn @f4 (jn @f5 @f6)))))
 rintro F Hx ⟨h8d, f9, f10, f11, f12, f13, f14, rfl⟩
 have hR := h8d
 obtain ⟨hV, hl0, hS, hsB, hg⟩ := e7.1 hR
 have hVV := bM.1 hV
 have hpp2 := hVV.pos
 have hWb : 1 ≤ W ∧ W ≤ 64 := ⟨hVV.w0, hVV.w1⟩
 have hHb : 1 ≤ Hh ∧ Hh ≤ 64 := ⟨hVV.h0, hVV.h1⟩
 have hx00 := (hVV.idx (show inB W Hh 0 0 = true from di.2 (by have := hVV.w0; have := hVV.h0; omega))).2.2.2.2.1
 have hx0 : 0 < xs.length := by omega
 have hx6 : xs.length ≤ 1000000 := by have h4 := hVV.len; have := Int.mul_le_mul hVV.w1 hVV.h1 (by have := hVV.h0; omega) (by decide); omega
 have hsc2 := da.1 hsB
 have hAl := allL_len (W := W) (Hh := Hh) (l := l) (sc := sc) (g := g)
 have hA : ∀ c ∈ (ba W Hh l sc g), inB W Hh c.1 c.2 = true := fun c hc => allL_in hc
 refine cn false try_mixed [[0, 1, 2, 3, 4, 5, 6, 7, 8, 9], [0, 1, 2, 3, 4, 5, 8, 6, 7, 9]] (by kernel_rfl) (fun F2 H2 => F2 = [(1, .sl (some (bs, 0)) l.length cs), (2, .sl (some (bq, 0)) sc.length cq), (3, .int .i64 g), (4, .ptr (some (H.length, 0))), (8, .ptr (some (H.length + 1, 0))), (9, .int .i64 0), (10, .ptr (some (H.length + 3, 0)))] ∧ H2 = H ++ [.cells true 0 [.int .i64 W, .int .i64 Hh, .sl (some (bpp, 0)) xs.length cpp], .cells true 0 [.int .i64 0, .int .i64 0, .sl none 0 (some 0)], .cells true 1 (ints .u8 xs), .cells true 0 [.int .i64 W, .int .i64 Hh, .sl (some (H.length + 2, 0)) xs.length none]]) ?_ ?_
 ·refine aG ?_ (aG ?_ (cl)) <;> intro J hJ
  ·skip
   have g'6 := (jn @hbpp (jn @hb0pp (jn @hbs (jn @hb0s (jn @hbq (jn @hb0q (jn @f1 (jn @f2 (jn @f3 (jn @f4 (jn @f5 (jn @f6 (jn @f9 (jn @f10 (jn @f11 (jn @f12 (jn @f13 (jn @f14 @h8d))))))))))))))))))
   refine aA g'6 ?_
   refine cg (by kernel_rfl) (by simp) (lT _ _ xs ⟨_, _, _, rfl, by first | exact hb0pp _ | exact hbpp⟩ hx6 hx0) ?_
   refine aA g'6 ?_
   refine aR (hJ _ _ ⟨_, _, _, ⟨rfl, rfl⟩, Abs.byG hbel [] rfl [0, 1, 2, 3] (by decide) ?_⟩)
   exact aM (jn @f1 (jn @f2 (jn @f3 (jn @f4 (jn @f5 (jn @f6 (jn @f9 (jn @f10 (jn @f11 (jn @f12 (jn @f13 @f14)))))))))))
  ·skip
   have g'7 := (jn @hbpp (jn @hb0pp (jn @hbs (jn @hb0s (jn @hbq (jn @hb0q (jn @f1 (jn @f2 (jn @f3 (jn @f4 (jn @f5 (jn @f6 (jn @f9 (jn @f10 (jn @f11 (jn @f12 (jn @f13 (jn @f14 @h8d))))))))))))))))))
   refine aA g'7 ?_
   refine cg (by kernel_rfl) (by simp) (lT _ _ xs ⟨_, _, _, rfl, by first | exact hb0pp _ | exact hbpp⟩ hx6 hx0) ?_
   refine aA g'7 ?_
   refine aR (hJ _ _ ⟨_, _, _, ⟨rfl, rfl⟩, Abs.byG hbel [] rfl [0, 1, 3, 2] (by decide) ?_⟩)
   exact aM (jn @f1 (jn @f2 (jn @f3 (jn @f4 (jn @f5 (jn @f6 (jn @f9 (jn @f10 (jn @f11 (jn @f12 (jn @f13 @f14)))))))))))
 rintro F2 H2 ⟨rfl, rfl⟩
 refine aL false try_mixed (by kernel_rfl) ?_
 have g'8 := (jn @hbpp (jn @hb0pp (jn @hbs (jn @hb0s (jn @hbq (jn @hb0q (jn @h8d (jn @ck @cH))))))))
 refine aa g'8 ?_
 refine af (by kernel_rfl) (kl _ _ l ⟨_, _, _, rfl, by first | exact hb0s _ | exact hbs⟩ (by assumption)) ?_
 refine aa g'8 ?_
 refine ai (fun h15 => ?_) (fun h15 => ?_)
 ·have h15d := bsT h15
  have hfinP := ln_0 hR (if_neg (by rw [h15d]; decide))
  have hfinO := ec hx0
  have g'9 := (jn @h15 (jn @h15d g'8))
  refine aa g'9 ?_
  refine hQ _ _ (bB (.inl rfl) hbel (x1 := .tup [.agg [.int .i64 W, .int .i64 Hh, .sl (some (H.length + 2, 0)) xs.length none], .int .i64 0]) (l2 := [.cells true 1 (ints .u8 xs)]) (.tup [.agg [.int .i64 W, .int .i64 Hh, .sl (some (H.length, 0)) xs.length none], .int .i64 0]) (ag Tryz.results56) [] rfl [2] (by decide) ⟨by first | (rw [hfinP.1, hfinP.2.1, hfinP.2.2.1, hfinP.2.2.2]; done) | (rw [hfinP.1, hfinP.2.1, hfinP.2.2.1, hfinP.2.2.2]; rfl) | skip, by first | (rw [hfinP.2.1, hfinO]; done) | (rw [hfinP.2.1, hfinO]; rfl) | (rw [hfinP.2.1]; done) | (rw [hfinP.2.1]; rfl) | skip⟩ ?_)
  exact be
 ·have h15d := bsT h15
  have htau := h15d
  have g'10 := (jn @h15 (jn @h15d g'8))
  refine aa g'10 ?_
  refine af (by kernel_rfl) (kall_c _ W Hh _ xs _ l _ sc g ⟨_, _, _, rfl, by first | exact hb0pp _ | exact hbpp⟩ ⟨_, _, _, rfl, by first | exact hb0s _ | exact hbs⟩ ⟨_, _, _, rfl, by first | exact hb0q _ | exact hbq⟩ hV hS hl0 hsB (by omega)) ?_
  refine aa g'10 ?_
  refine go_loop try_mixed (by kernel_rfl) (fun k F Hx => ∃ i : Nat, i + k = (ba W Hh l sc g).length ∧ gh W Hh (ba W Hh l sc g) xs = gh W Hh ((ba W Hh l sc g).drop i) (lfS W (ba W Hh l sc g) xs i) ∧ F = [(1, .sl (some (bs, 0)) l.length cs), (2, .sl (some (bq, 0)) sc.length cq), (3, .int .i64 g), (4, .ptr (some (H.length, 0))), (8, .ptr (some (H.length + 1, 0))), (10, .ptr (some (H.length + 3, 0))), (41, .sl (some (H.length + 4, 0)) ((ba W Hh l sc g).length) none), (42, .int .i64 (((ba W Hh l sc g).length : Nat) : Int)), (43, .int .i64 ((i : Nat) : Int))] ∧ Hx = H ++ [.cells true 0 [.int .i64 W, .int .i64 Hh, .sl (some (bpp, 0)) xs.length cpp], .cells true 0 [.int .i64 0, .int .i64 0, .sl none 0 (some 0)], .cells true 1 (ints .u8 (lfS W (ba W Hh l sc g) xs i)), .cells true 0 [.int .i64 W, .int .i64 Hh, .sl (some (H.length + 2, 0)) ((lfS W (ba W Hh l sc g) xs i).length) none], .cells (bm (gL W Hh l sc g).length) 2 (prs (ba W Hh l sc g))]) ((ba W Hh l sc g).length) ?_ ?_
  ·refine ⟨_, _, _, ⟨0, by omega, rfl, rfl, rfl⟩, Abs.byG hbel [] rfl [0, 1, 2, 3, 4] (by decide) ?_⟩
   exact aM @lfS.eq_1
  ·rintro k0 F Hx ⟨i, hm0, hrem, rfl, rfl⟩ J0 hJ0
   have g'11 := (jn @bK (jn @cO g'10))
   refine aa g'11 ?_
   refine ai (fun h16 => ?_) (fun h16 => ?_)
   ·have h16d := bsT h16
    have hlt : i < (ba W Hh l sc g).length := by omega
    have hfv := jd (W := W) (A := (ba W Hh l sc g)) hV i
    obtain ⟨j1, j2, j3, j4, j5, -⟩ := (bM.1 hfv).idx (gin_mem hlt hA)
    have q17 := cI (l := ba W Hh l sc g) (j := i) (by omega)
    have q18 := cV (k := .u8) (xs := lfS W (ba W Hh l sc g) xs i) (j := (((g2 (ba W Hh l sc g) i) * W) + (g1 (ba W Hh l sc g) i)).toNat) (by omega)
    have g'12 := (jn @h16 (jn @h16d (jn @q17 (jn @q18 g'11))))
    refine aa g'12 ?_
    refine ai (fun h19 => ?_) (fun h19 => ?_)
    ·have h19d := bsT h19
     have h19n := bnT h19
     have hfinP := ln_11 hR (by unfold lnO; rw [if_pos htau, hrem, ro hlt hA, if_pos (by simpa using h19d)]; rfl)
     have g'13 := (jn @h19 (jn @h19n (jn @aU (jn @aT g'12))))
     refine aa g'13 ?_
     refine hQ _ _ (bB (.inl rfl) hbel (x1 := .tup [.agg [.int .i64 0, .int .i64 0, .sl none 0 (some 0)], .int .i64 11]) (l2 := [.cells false 1 []]) (.tup [.agg [.int .i64 0, .int .i64 0, .sl (some (H.length, 0)) 0 none], .int .i64 11]) (ag Tryz.results56) [.cells false 1 []] rfl [6] (by decide) ⟨by first | (rw [hfinP.1, hfinP.2.1, hfinP.2.2.1, hfinP.2.2.2]; done) | (rw [hfinP.1, hfinP.2.1, hfinP.2.2.1, hfinP.2.2.2]; rfl) | skip, by first | (rw [hfinP.2.1, hfinO]; done) | (rw [hfinP.2.1, hfinO]; rfl) | (rw [hfinP.2.1]; done) | (rw [hfinP.2.1]; rfl) | skip⟩ ?_)
     exact be
    ·have h19d := bsT h19
     have h19n := bnT h19
     have hne : ¬ gi (lfS W (ba W Hh l sc g) xs i) (((g2 (ba W Hh l sc g) i) * W) + (g1 (ba W Hh l sc g) i)).toNat = 2 := by simpa using h19d
     have g'14 := (jn @h19 (jn @h19n (jn @aU (jn @aT (jn @iO (jn @List.length_set.{0} g'12))))))
     refine aa g'14 ?_
     refine hJ0 _ _ ⟨k0 - 1, by omega, _, _, _, ⟨i + 1, by omega, hrem.trans ((ro hlt hA).trans (if_neg hne)), rfl, rfl⟩, Abs.byG hbel [] rfl [0, 1, 2, 3, 4] (by decide) ?_⟩
     exact aM (jn @lfS.eq_2 @List.length_set.{0})
   ·have h16d := bsT h16
    obtain rfl : i = (ba W Hh l sc g).length := by omega
    rw [List.drop_length] at hrem
    have g'15 := (jn @h16 (jn @h16d g'11))
    refine aa g'15 ?_
    refine go_loop try_mixed (by kernel_rfl) (fun k F Hx => ∃ i : Nat, i + k = sc.length ∧ lnO W Hh xs l sc g = eJ W Hh (gM l (sc.drop i) g) (lwS W Hh l sc g (lfS W (ba W Hh l sc g) xs (ba W Hh l sc g).length) i) ∧ F = [(1, .sl (some (bs, 0)) l.length cs), (3, .int .i64 g), (4, .ptr (some (H.length, 0))), (8, .ptr (some (H.length + 1, 0))), (10, .ptr (some (H.length + 3, 0))), (66, .sl (some (bq, 0)) sc.length cq), (67, .int .i64 ((sc.length : Nat) : Int)), (68, .int .i64 ((i : Nat) : Int))] ∧ Hx = H ++ [.cells true 0 [.int .i64 W, .int .i64 Hh, .sl (some (bpp, 0)) xs.length cpp], .cells true 0 [.int .i64 0, .int .i64 0, .sl none 0 (some 0)], .cells true 1 (ints .u8 (lwS W Hh l sc g (lfS W (ba W Hh l sc g) xs (ba W Hh l sc g).length) i)), .cells true 0 [.int .i64 W, .int .i64 Hh, .sl (some (H.length + 2, 0)) ((lwS W Hh l sc g (lfS W (ba W Hh l sc g) xs (ba W Hh l sc g).length) i).length) none]]) (sc.length) ?_ ?_
    ·refine ⟨_, _, _, ⟨0, by omega, by unfold lnO; rw [if_pos htau, hrem]; rfl, rfl, rfl⟩, Abs.byG hbel [] rfl [0, 1, 2, 3] (by decide) ?_⟩
     exact aM @lwS.eq_1
    ·rintro k1 F Hx ⟨i, hm1, hrem2, rfl, rfl⟩ J1 hJ1
     refine aa g'15 ?_
     refine ai (fun h20 => ?_) (fun h20 => ?_)
     ·have h20d := bsT h20
      have hlt : i < sc.length := by omega
      have hbi := e6.1 (hsc2.2 _ (List.getElem_mem hlt))
      rw [← cw hlt] at hbi
      have hwv := je (W := W) (Hh := Hh) (l := l) (sc := sc) (g := g) (jd (W := W) (A := (ba W Hh l sc g)) hV (ba W Hh l sc g).length) i
      have hsl := v7 (l := l) (m := g1 sc i) (r := g2 sc i) (g := g) hS
      have q21 := cI (l := sc) (j := i) (by omega)
      have g'16 := (jn @h20 (jn @h20d (jn @q21 g'15)))
      refine aa g'16 ?_
      refine ai (fun h22 => ?_) (fun h22 => ?_)
      ·have h22d := bsT h22
       have h22n := bnT h22
       have hr1 : g2 sc i = -1 := by simpa using h22d
       have hst := lwS_skip (W := W) (Hh := Hh) (l := l) (g := g) (o := (lfS W (ba W Hh l sc g) xs (ba W Hh l sc g).length)) hr1
       have hnx := v6 (W := W) (Hh := Hh) (l := l) (g := g) (o := (lfS W (ba W Hh l sc g) xs (ba W Hh l sc g).length)) hlt (.inl hr1)
       have g'17 := (jn @h22 (jn @h22n (jn @aU (jn @aT g'16))))
       refine aa g'17 ?_
       refine hJ1 _ _ ⟨k1 - 1, by omega, _, _, _, ⟨i + 1, by omega, hrem2.trans hnx, rfl, rfl⟩, Abs.byG hbel [] rfl [0, 1, 2, 3] (by decide) ?_⟩
       exact aM (jn @hst @List.length_set.{0})
      ·have h22d := bsT h22
       have h22n := bnT h22
       have hr1 : ¬ g2 sc i = -1 := by simpa using h22d
       have g'18 := (jn @h22 (jn @h22n (jn @aU (jn @aT g'16))))
       refine aa g'18 ?_
       refine af (by kernel_rfl) (ksus2_c _ _ l (g1 sc i) (g2 sc i) g ⟨_, _, _, rfl, by first | exact hb0s _ | exact hbs⟩ hS (by omega) (by omega)) ?_
       refine aa g'18 ?_
       refine af (by kernel_rfl) (del_cell _ _ _ (bF l (g1 sc i) (g2 sc i) g) (by rw [ap]; rfl) (Nat.le_trans (v7 hS) (by decide)) _ [.ptr (some (H.length + 3, 0))] (by kernel_rfl) (by simp [AV.bels, AV.bel]) (frP W Hh (lwS W Hh l sc g (lfS W (ba W Hh l sc g) xs (ba W Hh l sc g).length) i)) (fun X e L he => learn1_c _ e.1 e.2 W Hh (.sl (some (H.length + 2, 0)) (lwS W Hh l sc g (lfS W (ba W Hh l sc g) xs (ba W Hh l sc g).length) i).length none) (lwS W Hh l sc g (lfS W (ba W Hh l sc g) xs (ba W Hh l sc g).length) i) _ ⟨_, _, _, rfl, by rw [jm, List.append_assoc, ap]; rfl⟩ ⟨_, by rw [jm, List.append_assoc, ap]; rfl⟩ (je (jd hV _) _))) ?_
       refine aa g'18 ?_
       refine ai (fun h23 => ?_) (fun h23 => ?_)
       ·have h23d := bsT h23
        have h23n := bnT h23
        have hd0 : (b9 (frP W Hh (lwS W Hh l sc g (lfS W (ba W Hh l sc g) xs (ba W Hh l sc g).length) i)) (bF l (g1 sc i) (g2 sc i) g)).length = 0 := by have q := h23d; omega
        have hfinP := ln_11 hR (hrem2.trans (lwS_bad hlt hr1 hd0))
        have g'19 := (jn @h23 (jn @h23n g'18))
        refine aa g'19 ?_
        refine hQ _ _ (bB (.inl rfl) hbel (x1 := .tup [.agg [.int .i64 0, .int .i64 0, .sl none 0 (some 0)], .int .i64 11]) (l2 := [.cells false 1 []]) (.tup [.agg [.int .i64 0, .int .i64 0, .sl (some (H.length, 0)) 0 none], .int .i64 11]) (ag Tryz.results56) [.cells false 1 []] rfl [6] (by decide) ⟨by first | (rw [hfinP.1, hfinP.2.1, hfinP.2.2.1, hfinP.2.2.2]; done) | (rw [hfinP.1, hfinP.2.1, hfinP.2.2.1, hfinP.2.2.2]; rfl) | skip, by first | (rw [hfinP.2.1, hfinO]; done) | (rw [hfinP.2.1, hfinO]; rfl) | (rw [hfinP.2.1]; done) | (rw [hfinP.2.1]; rfl) | skip⟩ ?_)
        exact be
       ·have h23d := bsT h23
        have h23n := bnT h23
        have hd0 : ¬ (b9 (frP W Hh (lwS W Hh l sc g (lfS W (ba W Hh l sc g) xs (ba W Hh l sc g).length) i)) (bF l (g1 sc i) (g2 sc i) g)).length = 0 := by have q := h23d; first | omega | (rw [beq_eq_false_iff_ne] at q; omega)
        have hp1 : g1 (dL (bF l (g1 sc i) (g2 sc i) g).length (b9 (frP W Hh (lwS W Hh l sc g (lfS W (ba W Hh l sc g) xs (ba W Hh l sc g).length) i)) (bF l (g1 sc i) (g2 sc i) g))) 0 = g1 (b9 (frP W Hh (lwS W Hh l sc g (lfS W (ba W Hh l sc g) xs (ba W Hh l sc g).length) i)) (bF l (g1 sc i) (g2 sc i) g)) 0 := pad_g1 hd0
        have hp2 : g2 (dL (bF l (g1 sc i) (g2 sc i) g).length (b9 (frP W Hh (lwS W Hh l sc g (lfS W (ba W Hh l sc g) xs (ba W Hh l sc g).length) i)) (bF l (g1 sc i) (g2 sc i) g))) 0 = g2 (b9 (frP W Hh (lwS W Hh l sc g (lfS W (ba W Hh l sc g) xs (ba W Hh l sc g).length) i)) (bF l (g1 sc i) (g2 sc i) g)) 0 := pad_g2 hd0
        have hsfp := pad_len (p := frP W Hh (lwS W Hh l sc g (lfS W (ba W Hh l sc g) xs (ba W Hh l sc g).length) i)) (l := (bF l (g1 sc i) (g2 sc i) g))
        have hpn := delL_le (p := frP W Hh (lwS W Hh l sc g (lfS W (ba W Hh l sc g) xs (ba W Hh l sc g).length) i)) (l := (bF l (g1 sc i) (g2 sc i) g))
        have hnx := v6 (W := W) (Hh := Hh) (l := l) (g := g) (o := (lfS W (ba W Hh l sc g) xs (ba W Hh l sc g).length)) hlt (.inr hd0)
        have q24 := (show List.take 2 (prs (dL (bF l (g1 sc i) (g2 sc i) g).length (b9 (frP W Hh (lwS W Hh l sc g (lfS W (ba W Hh l sc g) xs (ba W Hh l sc g).length) i)) (bF l (g1 sc i) (g2 sc i) g)))) = [.int .i64 (g1 (dL (bF l (g1 sc i) (g2 sc i) g).length (b9 (frP W Hh (lwS W Hh l sc g (lfS W (ba W Hh l sc g) xs (ba W Hh l sc g).length) i)) (bF l (g1 sc i) (g2 sc i) g))) 0), .int .i64 (g2 (dL (bF l (g1 sc i) (g2 sc i) g).length (b9 (frP W Hh (lwS W Hh l sc g (lfS W (ba W Hh l sc g) xs (ba W Hh l sc g).length) i)) (bF l (g1 sc i) (g2 sc i) g))) 0)] from by have q := cI (l := dL (bF l (g1 sc i) (g2 sc i) g).length (b9 (frP W Hh (lwS W Hh l sc g (lfS W (ba W Hh l sc g) xs (ba W Hh l sc g).length) i)) (bF l (g1 sc i) (g2 sc i) g))) (j := 0) (by omega); rwa [Nat.zero_mul, List.drop_zero] at q)
        have g'20 := (jn @h23 (jn @h23n (jn @hsfp (jn @q24 g'18))))
        refine aa g'20 ?_
        refine aj (fun h25 => ?_) (fun h25 => ?_)
        ·have h25d := bsT h25
         have h25n := bnT h25
         have hd1 : (b9 (frP W Hh (lwS W Hh l sc g (lfS W (ba W Hh l sc g) xs (ba W Hh l sc g).length) i)) (bF l (g1 sc i) (g2 sc i) g)).length = 1 := by have q := h25d; omega
         have g'21 := (jn @h25 (jn @h25n g'20))
         refine aa g'21 ?_
         refine af (by kernel_rfl) (cX _ (g1 (dL (bF l (g1 sc i) (g2 sc i) g).length (b9 (frP W Hh (lwS W Hh l sc g (lfS W (ba W Hh l sc g) xs (ba W Hh l sc g).length) i)) (bF l (g1 sc i) (g2 sc i) g))) 0) 0 (W - 1)) ?_
         refine aa g'21 ?_
         refine aj (fun h26 => ?_) (fun h26 => ?_)
         ·have h26d := bsT h26
          have hd2 := h26d
          rw [hp1] at hd2
          have g'22 := (jn @h26 (jn @h26d g'21))
          refine aa g'22 ?_
          refine af (by kernel_rfl) (cX _ (g2 (dL (bF l (g1 sc i) (g2 sc i) g).length (b9 (frP W Hh (lwS W Hh l sc g (lfS W (ba W Hh l sc g) xs (ba W Hh l sc g).length) i)) (bF l (g1 sc i) (g2 sc i) g))) 0) 0 (Hh - 1)) ?_
          refine aa g'22 ?_
          refine ai (fun h27 => ?_) (fun h27 => ?_)
          ·have h27d := bsT h27
           have hd3 := h27d
           rw [hp2] at hd3
           have hst := lwS_set (W := W) (Hh := Hh) (l := l) (g := g) (o := (lfS W (ba W Hh l sc g) xs (ba W Hh l sc g).length)) hr1 ⟨hd1, hd2, hd3⟩
           rw [← hp1, ← hp2] at hst
           obtain ⟨j1, j2, j3, j4, j5, -⟩ := (bM.1 hwv).idx (x := g1 (dL (bF l (g1 sc i) (g2 sc i) g).length (b9 (frP W Hh (lwS W Hh l sc g (lfS W (ba W Hh l sc g) xs (ba W Hh l sc g).length) i)) (bF l (g1 sc i) (g2 sc i) g))) 0) (y := g2 (dL (bF l (g1 sc i) (g2 sc i) g).length (b9 (frP W Hh (lwS W Hh l sc g (lfS W (ba W Hh l sc g) xs (ba W Hh l sc g).length) i)) (bF l (g1 sc i) (g2 sc i) g))) 0) (di.2 (by rw [hp1, hp2]; have := bu.1 hd2; have := bu.1 hd3; omega))
           have g'23 := (jn @h27 (jn @h27d (jn @iO (jn @List.length_set.{0} g'22))))
           refine aa g'23 ?_
           refine hJ1 _ _ ⟨k1 - 1, by omega, _, _, _, ⟨i + 1, by omega, hrem2.trans hnx, rfl, rfl⟩, Abs.byG hbel [] rfl [0, 1, 2, 3] (by decide) ?_⟩
           exact aM (jn @hst @List.length_set.{0})
          ·have h27d := bsT h27
           have hd3 := h27d
           rw [hp2] at hd3
           have hst := lK (W := W) (Hh := Hh) (l := l) (g := g) (o := (lfS W (ba W Hh l sc g) xs (ba W Hh l sc g).length)) hr1 (fun q => by rw [hd3] at q; exact absurd q.2.2 (by decide))
           have g'24 := (jn @h27 (jn @h27d g'22))
           refine aa g'24 ?_
           refine hJ1 _ _ ⟨k1 - 1, by omega, _, _, _, ⟨i + 1, by omega, hrem2.trans hnx, rfl, rfl⟩, Abs.byG hbel [] rfl [0, 1, 2, 3] (by decide) ?_⟩
           exact aM (jn @hst @List.length_set.{0})
         ·have h26d := bsT h26
          have hd2 := h26d
          rw [hp1] at hd2
          have hst := lK (W := W) (Hh := Hh) (l := l) (g := g) (o := (lfS W (ba W Hh l sc g) xs (ba W Hh l sc g).length)) hr1 (fun q => by rw [hd2] at q; exact absurd q.2.1 (by decide))
          have g'25 := (jn @h26 (jn @h26d g'21))
          refine aa g'25 ?_
          refine hJ1 _ _ ⟨k1 - 1, by omega, _, _, _, ⟨i + 1, by omega, hrem2.trans hnx, rfl, rfl⟩, Abs.byG hbel [] rfl [0, 1, 2, 3] (by decide) ?_⟩
          exact aM (jn @hst @List.length_set.{0})
        ·have h25d := bsT h25
         have h25n := bnT h25
         have hd1 : ¬ (b9 (frP W Hh (lwS W Hh l sc g (lfS W (ba W Hh l sc g) xs (ba W Hh l sc g).length) i)) (bF l (g1 sc i) (g2 sc i) g)).length = 1 := by have q := h25d; first | omega | (rw [beq_eq_false_iff_ne] at q; omega)
         have hst := lK (W := W) (Hh := Hh) (l := l) (g := g) (o := (lfS W (ba W Hh l sc g) xs (ba W Hh l sc g).length)) hr1 (fun q => hd1 q.1)
         have g'26 := (jn @h25 (jn @h25n g'20))
         refine aa g'26 ?_
         refine hJ1 _ _ ⟨k1 - 1, by omega, _, _, _, ⟨i + 1, by omega, hrem2.trans hnx, rfl, rfl⟩, Abs.byG hbel [] rfl [0, 1, 2, 3] (by decide) ?_⟩
         exact aM (jn @hst @List.length_set.{0})
     ·have h20d := bsT h20
      obtain rfl : i = sc.length := by omega
      rw [List.drop_length] at hrem2
      have hfinP := ln_0 hR hrem2
      have hfinO : bm (lwS W Hh l sc g (lfS W (ba W Hh l sc g) xs (ba W Hh l sc g).length) sc.length).length = true := ec (by have := vld_pos (je (W := W) (Hh := Hh) (l := l) (sc := sc) (g := g) (jd (W := W) (A := (ba W Hh l sc g)) hV (ba W Hh l sc g).length) sc.length); omega)
      have g'27 := (jn @h20 (jn @h20d g'15))
      refine aa g'27 ?_
      refine hQ _ _ (bB (.inl rfl) hbel (x1 := .tup [.agg [.int .i64 W, .int .i64 Hh, .sl (some (H.length + 2, 0)) ((lwS W Hh l sc g (lfS W (ba W Hh l sc g) xs (ba W Hh l sc g).length) sc.length).length) none], .int .i64 0]) (l2 := [.cells true 1 (ints .u8 (lwS W Hh l sc g (lfS W (ba W Hh l sc g) xs (ba W Hh l sc g).length) sc.length))]) (.tup [.agg [.int .i64 W, .int .i64 Hh, .sl (some (H.length, 0)) ((lwS W Hh l sc g (lfS W (ba W Hh l sc g) xs (ba W Hh l sc g).length) sc.length).length) none], .int .i64 0]) (ag Tryz.results56) [] rfl [2] (by decide) ⟨by first | (rw [hfinP.1, hfinP.2.1, hfinP.2.2.1, hfinP.2.2.2]; done) | (rw [hfinP.1, hfinP.2.1, hfinP.2.2.1, hfinP.2.2.2]; rfl) | skip, by first | (rw [hfinP.2.1, hfinO]; done) | (rw [hfinP.2.1, hfinO]; rfl) | (rw [hfinP.2.1]; done) | (rw [hfinP.2.1]; rfl) | skip⟩ ?_)
      exact be
open Go.RowKit
def lsB (l : List T6) : Bool := decide (0 < ((l.length : Nat) : Int)) && (decide (((l.length : Nat) : Int) ≤ 16) && !(l.any fun b => !bD b))
theorem lsB_iff {l : List T6} : lsB l = true ↔ 0 < l.length ∧ bP l = true := by
 rw [bU]; unfold lsB
 simp only [Bool.and_eq_true, decide_eq_true_eq, Bool.not_eq_true', List.any_eq_false, Bool.not_eq_true', Bool.not_eq_false]
 constructor
 ·rintro ⟨h1, h2, h3⟩; exact ⟨by omega, by omega, fun b hb => by simpa using h3 b hb⟩
 ·rintro ⟨h1, h2, h3⟩; exact ⟨by omega, by omega, fun b hb => by simpa using h3 b hb⟩
theorem lvs1_c (H : ac) (x0 : Int) (y0 : Int) (x1 : Int) (y1 : Int) (f : Int) (c : Int) : ACalls Tryz.prog 72 [.agg [.int .i64 x0, .int .i64 y0, .int .i64 x1, .int .i64 y1, .int .i64 f, .int .i64 c]] H (fun v H' => v = .bool (!(bD (x0, y0, x1, y1, f, c))) ∧ H' = H) := by
 refine AcT true Tryz.func72 ?_; intro hbel Q hQ
 refine aY ?_
 refine af (by kernel_rfl) (eO _ x0 y0 x1 y1 f c) ?_
 refine aY ?_
 exact hQ _ _ (ae (.inl rfl) hbel (x := .bool (!(bxB x0 y0 x1 y1 f c))) (ag Tryz.results72) rfl ⟨by first | rfl | (simp [bD, true_and]; done), rfl⟩)
theorem lvset_c (H : ac) (s : AV) (l : List T6) (hs : Sl H 6 s l.length (r6 l)) (hl : l.length ≤ 1000000000) : ACalls Tryz.prog 41 [s] H (fun v H' => v = .bool (lsB l) ∧ H' = H) := by
 obtain ⟨bs, os, cs, rfl, hbs⟩ := hs
 have hbls := getElem?_lt hbs
 have hb0s := fun l => aw (l := l) hbs
 refine AcT true Tryz.func41 ?_; intro hbel Q hQ
 have g'1 := (jn @hbs @hb0s)
 refine aa g'1 ?_
 refine aj (fun h1 => ?_) (fun h1 => ?_)
 ·have h1d := bsT h1
  have g'2 := (jn @h1 (jn @h1d g'1))
  refine aa g'2 ?_
  refine aj (fun h2 => ?_) (fun h2 => ?_)
  ·have h2d := bsT h2
   have g'3 := (jn @h2 (jn @h2d g'2))
   refine aa g'3 ?_
   refine af (by kernel_rfl) (jb _ _ l ⟨_, _, _, rfl, by first | exact hb0s _ | exact hbs⟩ (by omega) _ [] (by kernel_rfl) rfl (fun b => !bD b) (fun j hj => lvs1_c _ _ _ _ _ _ _)) ?_
   refine aa g'3 ?_
   exact hQ _ _ (aF (.inl rfl) hbel (x := .bool (!(l.any (fun b => !bD b)))) (ag Tryz.results41) rfl ⟨by first | (simp [lsB, h1d, h2d]; done) | (unfold lsB; simp only [h1, h2]; rfl), rfl⟩)
  ·have h2d := bsT h2
   have g'4 := (jn @h2 (jn @h2d g'2))
   refine aa g'4 ?_
   exact hQ _ _ (aF (.inl rfl) hbel (x := .bool false) (ag Tryz.results41) rfl ⟨by first | (simp [lsB, h1d, h2d]; done) | (unfold lsB; simp only [h1, h2]; rfl), rfl⟩)
 ·have h1d := bsT h1
  have g'5 := (jn @h1 (jn @h1d g'1))
  refine aa g'5 ?_
  exact hQ _ _ (aF (.inl rfl) hbel (x := .bool false) (ag Tryz.results41) rfl ⟨by first | (simp [lsB, h1d]; done) | (unfold lsB; simp only [h1]; rfl), rfl⟩)
theorem lvc1_c (H : ac) (m : Int) (r : Int) : ACalls Tryz.prog 85 [.agg [.int .i64 m, .int .i64 r]] H (fun v H' => v = .bool (!(dm (m, r))) ∧ H' = H) := by
 refine AcT true Tryz.func85 ?_; intro hbel Q hQ
 refine aY ?_
 refine aj (fun h1 => ?_) (fun h1 => ?_)
 ·have h1d := bsT h1
  have g'6 := (jn @h1 @h1d)
  refine aa g'6 ?_
  refine aj (fun h2 => ?_) (fun h2 => ?_)
  ·have h2d := bsT h2
   have g'7 := (jn @h2 (jn @h2d g'6))
   refine aa g'7 ?_
   refine aj (fun h3 => ?_) (fun h3 => ?_)
   ·have h3d := bsT h3
    have g'8 := (jn @h3 (jn @h3d g'7))
    refine aa g'8 ?_
    exact hQ _ _ (ae (.inl rfl) hbel (x := .bool (decide (1024 < r))) (ag Tryz.results85) rfl ⟨by first | (simp [dm, df, btw, h1d, h2d, h3d]; done) | (by_cases hq : 1024 < r <;> simp [dm, df, btw, hq] <;> omega), rfl⟩)
   ·have h3d := bsT h3
    have g'9 := (jn @h3 (jn @h3d g'7))
    refine aa g'9 ?_
    exact hQ _ _ (ae (.inl rfl) hbel (x := .bool true) (ag Tryz.results85) rfl ⟨by first | (simp [dm, df, btw, h1d, h2d, h3d]; done) | (by_cases hq : 1024 < r <;> simp [dm, df, btw, hq] <;> omega), rfl⟩)
  ·have h2d := bsT h2
   have g'10 := (jn @h2 (jn @h2d g'6))
   refine aa g'10 ?_
   exact hQ _ _ (ae (.inl rfl) hbel (x := .bool true) (ag Tryz.results85) rfl ⟨by first | (simp [dm, df, btw, h1d, h2d]; done) | (by_cases hq : 1024 < r <;> simp [dm, df, btw, hq] <;> omega), rfl⟩)
 ·have h1d := bsT h1
  have g'11 := (jn @h1 @h1d)
  refine aa g'11 ?_
  exact hQ _ _ (ae (.inl rfl) hbel (x := .bool true) (ag Tryz.results85) rfl ⟨by first | (simp [dm, df, btw, h1d]; done) | (by_cases hq : 1024 < r <;> simp [dm, df, btw, hq] <;> omega), rfl⟩)
theorem iE (H : ac) (q : AV) (sc : List (Int × Int)) (hq : Sl H 2 q sc.length (prs sc)) (hl : sc.length ≤ 1000000000) : ACalls Tryz.prog 53 [q] H (fun v H' => v = .bool (ct sc) ∧ H' = H) := by
 obtain ⟨bq, oq, cq, rfl, hbq⟩ := hq
 have hblq := getElem?_lt hbq
 have hb0q := fun l => aw (l := l) hbq
 refine AcT true Tryz.func53 ?_; intro hbel Q hQ
 have g'12 := (jn @hbq @hb0q)
 refine aa g'12 ?_
 refine aj (fun h1 => ?_) (fun h1 => ?_)
 ·have h1d := bsT h1
  have g'13 := (jn @h1 (jn @h1d g'12))
  refine aa g'13 ?_
  refine af (by kernel_rfl) (has_m _ _ sc ⟨_, _, _, rfl, by first | exact hb0q _ | exact hbq⟩ (by omega) _ [] (by kernel_rfl) rfl (fun e => !dm e) (fun j hj => lvc1_c _ _ _)) ?_
  refine aa g'13 ?_
  exact hQ _ _ (aF (.inl rfl) hbel (x := .bool (!(sc.any (fun e => !dm e)))) (ag Tryz.results53) rfl ⟨by first | (simp [ct, h1d]; done) | (unfold ct; simp only [h1]; rfl), rfl⟩)
 ·have h1d := bsT h1
  have g'14 := (jn @h1 (jn @h1d g'12))
  refine aa g'14 ?_
  exact hQ _ _ (aF (.inl rfl) hbel (x := .bool false) (ag Tryz.results53) rfl ⟨by first | (simp [ct, h1d]; done) | (unfold ct; simp only [h1]; rfl), rfl⟩)
theorem lcop_c (H : ac) (W : Int) (Hh : Int) (pp : AV) (xs : List Int) (hpp : Sl H 1 pp xs.length (ints .u8 xs)) (hx6 : xs.length ≤ 1000000) (hx0 : 0 < xs.length) : ACalls Tryz.prog 43 [.agg [.int .i64 W, .int .i64 Hh, pp]] H (fun v H' => v = .agg [.int .i64 W, .int .i64 Hh, .sl (some (H.length, 0)) xs.length none] ∧ H' = H ++ [.cells true 1 (ints .u8 xs)]) := by
 obtain ⟨bpp, opp, cpp, rfl, hbpp⟩ := hpp
 have hblpp := getElem?_lt hbpp
 have hb0pp := fun l => aw (l := l) hbpp
 refine AcT false Tryz.func43 ?_; intro hbel Q hQ
 have g'15 := (jn @hbpp @hb0pp)
 refine aa g'15 ?_
 refine cg (by kernel_rfl) (by simp) (lT _ _ xs ⟨_, _, _, rfl, by first | exact hb0pp _ | exact hbpp⟩ hx6 hx0) ?_
 refine aa g'15 ?_
 refine hQ _ _ (bB (.inl rfl) hbel (x1 := .agg [.int .i64 W, .int .i64 Hh, .sl (some (H.length + 2, 0)) xs.length none]) (l2 := [.cells true 1 (ints .u8 xs)]) (.agg [.int .i64 W, .int .i64 Hh, .sl (some (H.length, 0)) xs.length none]) (ag Tryz.results43) [] rfl [2] (by decide) ⟨rfl, rfl⟩ ?_)
 exact be
open Go.RowKit
theorem volI_bd (b : T6) : 0 ≤ dN b ∧ dN b ≤ 1125906929254400 := by
 unfold dN
 split
 ·rename_i h
  have hb := bL.1 h
  have ha := bH.1 hb.2.2
  have m1 := bS (a := b.2.2.1 - b.1 + 1) (b := b.2.2.2.1 - b.2.1 + 1) (A := 2097153) (B := 2097153) (by omega) (by omega)
  have p1 : 0 ≤ (b.2.2.1 - b.1 + 1) * (b.2.2.2.1 - b.2.1 + 1) := Int.mul_nonneg (by omega) (by omega)
  have m2 := bS (a := (b.2.2.1 - b.1 + 1) * (b.2.2.2.1 - b.2.1 + 1)) (b := b.2.2.2.2.2) (A := 4398050705409) (B := 256) (by omega) (by omega)
  have p2 : 0 ≤ (b.2.2.1 - b.1 + 1) * (b.2.2.2.1 - b.2.1 + 1) * b.2.2.2.2.2 := Int.mul_nonneg p1 (by omega)
  omega
 ·omega
def volS (l : List T6) : Nat → Int
 | 0 => 0
 | n + 1 => volS l n + dN (g6 l n)
theorem volS_bd (l : List T6) : ∀ n : Nat, 0 ≤ volS l n ∧ volS l n ≤ 1125906929254400 * (n : Int)
 | 0 => by simp [volS]
 | n + 1 => by
  have := volS_bd l n
  have e := volI_bd (g6 l n)
  simp only [volS]
  omega
theorem nz (H : ac) (W : Int) (Hh : Int) (pp : AV) (xs : List Int) (s : AV) (l : List T6) (tu : Int) (le : Int) (sl : Int) (ra : Int) (lost : Bool) (bz : Nat) (hpp : Sl H 1 pp xs.length (ints .u8 xs)) (hs : Sl H 6 s l.length (r6 l)) (hz : ∃ o, H[bz]? = some (.cells o 0 [.int .i64 W, .int .i64 Hh, pp, s, .int .i64 tu, .int .i64 le, .int .i64 sl, .int .i64 ra, .bool lost])) : ACalls Tryz.prog 19 [.ptr (some (bz, 0))] H (fun v H' => v = .bool lost ∧ H' = H) := by
 obtain ⟨bpp, opp, cpp, rfl, hbpp⟩ := hpp
 have hblpp := getElem?_lt hbpp
 have hb0pp := fun l => aw (l := l) hbpp
 obtain ⟨bs, os, cs, rfl, hbs⟩ := hs
 have hbls := getElem?_lt hbs
 have hb0s := fun l => aw (l := l) hbs
 obtain ⟨oz, hbz⟩ := hz
 have hblz := getElem?_lt hbz
 have hb0z := fun l => aw (l := l) hbz
 refine AcT true Tryz.func19 ?_; intro hbel Q hQ
 simp -implicitDefEqProofs (disch := omega) only [hbpp, hb0pp, hbs, hb0s, hbz, hb0z, Option.isNone_some.{0}, aO, aH, aI, aP, simprocAttr, aB, aC, Function.comp_apply, one1, lenV, ak, ar, au, aop, AV.ofValue, AV.ofCell, AV.cells, AV.flat, AV.one, arep, aN, az]
 repeat refine And.intro (by omega) ?_
 exact hQ _ _ (aF (.inl rfl) hbel (x := .bool lost) (ag Tryz.results19) rfl ⟨rfl, rfl⟩)
theorem lset_c (H : ac) (W : Int) (Hh : Int) (pp : AV) (xs : List Int) (s : AV) (l : List T6) (tu : Int) (le : Int) (sl : Int) (ra : Int) (lost : Bool) (bz : Nat) (hpp : Sl H 1 pp xs.length (ints .u8 xs)) (hs : Sl H 6 s l.length (r6 l)) (hz : ∃ o, H[bz]? = some (.cells o 0 [.int .i64 W, .int .i64 Hh, pp, s, .int .i64 tu, .int .i64 le, .int .i64 sl, .int .i64 ra, .bool lost])) (hl16 : l.length ≤ 16) (hl0 : 0 < l.length) : ACalls Tryz.prog 20 [.ptr (some (bz, 0))] H (fun v H' => v = .sl (some (H.length, 0)) l.length none ∧ H' = H ++ [.cells true 6 (r6 l)]) := by
 obtain ⟨bpp, opp, cpp, rfl, hbpp⟩ := hpp
 have hblpp := getElem?_lt hbpp
 have hb0pp := fun l => aw (l := l) hbpp
 obtain ⟨bs, os, cs, rfl, hbs⟩ := hs
 have hbls := getElem?_lt hbs
 have hb0s := fun l => aw (l := l) hbs
 obtain ⟨oz, hbz⟩ := hz
 have hblz := getElem?_lt hbz
 have hb0z := fun l => aw (l := l) hbz
 refine AcT true Tryz.func20 ?_; intro hbel Q hQ
 simp -implicitDefEqProofs (disch := omega) only [hbpp, hb0pp, hbs, hb0s, hbz, hb0z, Option.isNone_some.{0}, aO, aH, aI, aP, simprocAttr, aB, aC, Function.comp_apply, one1, lenV, ak, ar, au, aop, AV.ofValue, AV.ofCell, AV.cells, AV.flat, AV.one, arep, aN, az]
 repeat refine And.intro (by omega) ?_
 refine af (by kernel_rfl) (lP _ _ l ⟨_, _, _, rfl, by first | exact hb0s _ | exact hbs⟩ (by first | omega | (simp only [List.length_cons, List.length_nil]; omega)) (by first | omega | simp)) ?_
 simp -implicitDefEqProofs (disch := omega) only [hbpp, hb0pp, hbs, hb0s, hbz, hb0z, Option.isNone_some.{0}, aO, aH, aI, aP, simprocAttr, aB, aC, Function.comp_apply, one1, lenV, ak, ar, au, aop, AV.ofValue, AV.ofCell, AV.cells, AV.flat, AV.one, arep, aN, az]
 repeat refine And.intro (by omega) ?_
 refine hQ _ _ (bB (.inl rfl) hbel (x1 := .sl (some (H.length, 0)) l.length none) (l2 := [.cells true 6 (r6 l)]) (.sl (some (H.length, 0)) l.length none) (ag Tryz.results20) [] rfl [0] (by decide) ⟨rfl, rfl⟩ ?_)
 exact bp @bt
theorem lplan_c (H : ac) (W : Int) (Hh : Int) (pp : AV) (xs : List Int) (s : AV) (l : List T6) (tu : Int) (le : Int) (sl : Int) (ra : Int) (lost : Bool) (bz : Nat) (hpp : Sl H 1 pp xs.length (ints .u8 xs)) (hs : Sl H 6 s l.length (r6 l)) (hz : ∃ o, H[bz]? = some (.cells o 0 [.int .i64 W, .int .i64 Hh, pp, s, .int .i64 tu, .int .i64 le, .int .i64 sl, .int .i64 ra, .bool lost])) (hx6 : xs.length ≤ 1000000) (hx0 : 0 < xs.length) : ACalls Tryz.prog 22 [.ptr (some (bz, 0))] H (fun v H' => v = .agg [.int .i64 W, .int .i64 Hh, .sl (some (H.length, 0)) xs.length none] ∧ H' = H ++ [.cells true 1 (ints .u8 xs)]) := by
 obtain ⟨bpp, opp, cpp, rfl, hbpp⟩ := hpp
 have hblpp := getElem?_lt hbpp
 have hb0pp := fun l => aw (l := l) hbpp
 obtain ⟨bs, os, cs, rfl, hbs⟩ := hs
 have hbls := getElem?_lt hbs
 have hb0s := fun l => aw (l := l) hbs
 obtain ⟨oz, hbz⟩ := hz
 have hblz := getElem?_lt hbz
 have hb0z := fun l => aw (l := l) hbz
 refine AcT true Tryz.func22 ?_; intro hbel Q hQ
 simp -implicitDefEqProofs (disch := omega) only [hbpp, hb0pp, hbs, hb0s, hbz, hb0z, Option.isNone_some.{0}, aO, aH, aI, aP, simprocAttr, aB, aC, Function.comp_apply, one1, lenV, ak, ar, au, aop, AV.ofValue, AV.ofCell, AV.cells, AV.flat, AV.one, arep, aN, az]
 repeat refine And.intro (by omega) ?_
 refine af (by kernel_rfl) (lcop_c _ W Hh _ xs ⟨_, _, _, rfl, by first | exact hb0pp _ | exact hbpp⟩ hx6 hx0) ?_
 simp -implicitDefEqProofs (disch := omega) only [hbpp, hb0pp, hbs, hb0s, hbz, hb0z, Option.isNone_some.{0}, aO, aH, aI, aP, simprocAttr, aB, aC, Function.comp_apply, one1, lenV, ak, ar, au, aop, AV.ofValue, AV.ofCell, AV.cells, AV.flat, AV.one, arep, aN, az]
 repeat refine And.intro (by omega) ?_
 refine hQ _ _ (bB (.inl rfl) hbel (x1 := .agg [.int .i64 W, .int .i64 Hh, .sl (some (H.length + 1, 0)) xs.length none]) (l2 := [.cells true 1 (ints .u8 xs)]) (.agg [.int .i64 W, .int .i64 Hh, .sl (some (H.length, 0)) xs.length none]) (ag Tryz.results22) [] rfl [1] (by decide) ⟨rfl, rfl⟩ ?_)
 exact be
theorem lvol_c (H : ac) (W : Int) (Hh : Int) (pp : AV) (xs : List Int) (s : AV) (l : List T6) (tu : Int) (le : Int) (sl : Int) (ra : Int) (lost : Bool) (bz : Nat) (hpp : Sl H 1 pp xs.length (ints .u8 xs)) (hs : Sl H 6 s l.length (r6 l)) (hz : ∃ o, H[bz]? = some (.cells o 0 [.int .i64 W, .int .i64 Hh, pp, s, .int .i64 tu, .int .i64 le, .int .i64 sl, .int .i64 ra, .bool lost])) (hl16 : l.length ≤ 16) (hl0 : 0 < l.length) : ACalls Tryz.prog 32 [.ptr (some (bz, 0))] H (fun v H' => v = .int .i64 (volS l l.length) ∧ H' = H) := by
 obtain ⟨bpp, opp, cpp, rfl, hbpp⟩ := hpp
 have hblpp := getElem?_lt hbpp
 have hb0pp := fun l => aw (l := l) hbpp
 obtain ⟨bs, os, cs, rfl, hbs⟩ := hs
 have hbls := getElem?_lt hbs
 have hb0s := fun l => aw (l := l) hbs
 obtain ⟨oz, hbz⟩ := hz
 have hblz := getElem?_lt hbz
 have hb0z := fun l => aw (l := l) hbz
 refine AcT true Tryz.func32 ?_; intro hbel Q hQ
 simp -implicitDefEqProofs (disch := omega) only [hbpp, hb0pp, hbs, hb0s, hbz, hb0z, Option.isNone_some.{0}, aO, aH, aI, aP, simprocAttr, aB, aC, Function.comp_apply, one1, lenV, ak, ar, au, aop, AV.ofValue, AV.ofCell, AV.cells, AV.flat, AV.one, arep, aN, az]
 repeat refine And.intro (by omega) ?_
 refine af (by kernel_rfl) (lset_c _ W Hh _ xs _ l tu le sl ra lost _ ⟨_, _, _, rfl, by first | exact hb0pp _ | exact hbpp⟩ ⟨_, _, _, rfl, by first | exact hb0s _ | exact hbs⟩ ⟨_, by first | exact hb0z _ | exact hbz⟩ hl16 hl0) ?_
 simp -implicitDefEqProofs (disch := omega) only [hbpp, hb0pp, hbs, hb0s, hbz, hb0z, Option.isNone_some.{0}, aO, aH, aI, aP, simprocAttr, aB, aC, Function.comp_apply, one1, lenV, ak, ar, au, aop, AV.ofValue, AV.ofCell, AV.cells, AV.flat, AV.one, arep, aN, az]
 repeat refine And.intro (by omega) ?_
 refine go_loop try_mixed (by kernel_rfl) (fun k F Hx => ∃ i : Nat, i + k = l.length ∧ F = [(3, .int .i64 (volS l i)), (7, .sl (some (H.length, 0)) l.length none), (8, .int .i64 ((l.length : Nat) : Int)), (9, .int .i64 ((i : Nat) : Int))] ∧ Hx = H ++ [.cells true 6 (r6 l)]) (l.length) ?_ ?_
 ·refine ⟨_, _, _, ⟨0, by omega, rfl, rfl⟩, Abs.byG hbel [] rfl [0] (by decide) ?_⟩
  exact aM (jn @volS.eq_1 (jn @bi (jn @bj (jn @bA @bt))))
 ·rintro k0 F Hx ⟨i, hm0, rfl, rfl⟩ J0 hJ0
  simp -implicitDefEqProofs (disch := omega) only [hbpp, hb0pp, hbs, hb0s, hbz, hb0z, bV, c9, Option.isNone_some.{0}, aO, aH, aI, aP, simprocAttr, aB, aC, Function.comp_apply, one1, lenV, ak, ar, au, aop, AV.ofValue, AV.ofCell, AV.cells, AV.flat, AV.one, arep, aN, az]
  repeat refine And.intro (by omega) ?_
  refine ai (fun h1 => ?_) (fun h1 => ?_)
  ·have h1d := bsT h1
   have hlt : i < l.length := by omega
   have hvb := volI_bd (g61 l i, g62 l i, g63 l i, g64 l i, g65 l i, g66 l i)
   have hvs := volS_bd l i
   have hve : dN (g61 l i, g62 l i, g63 l i, g64 l i, g65 l i, g66 l i) = dN (g6 l i) := rfl
   have q2 := dd (l := l) (j := i) (by omega)
   simp -implicitDefEqProofs (disch := omega) only [hbpp, hb0pp, hbs, hb0s, hbz, hb0z, bV, c9, h1, h1d, q2, Option.isNone_some.{0}, aO, aH, aI, aP, simprocAttr, aB, aC, Function.comp_apply, one1, lenV, ak, ar, au, aop, AV.ofValue, AV.ofCell, AV.cells, AV.flat, AV.one, arep, aN, az]
   repeat refine And.intro (by omega) ?_
   refine af (by kernel_rfl) (vol_c _ (g61 l i) (g62 l i) (g63 l i) (g64 l i) (g65 l i) (g66 l i)) ?_
   simp -implicitDefEqProofs (disch := omega) only [hbpp, hb0pp, hbs, hb0s, hbz, hb0z, bV, c9, h1, h1d, q2, Option.isNone_some.{0}, aO, aH, aI, aP, simprocAttr, aB, aC, Function.comp_apply, one1, lenV, ak, ar, au, aop, AV.ofValue, AV.ofCell, AV.cells, AV.flat, AV.one, arep, aN, az]
   repeat refine And.intro (by omega) ?_
   refine hJ0 _ _ ⟨k0 - 1, by omega, _, _, _, ⟨i + 1, by omega, rfl, rfl⟩, Abs.byG hbel [] rfl [0] (by decide) ?_⟩
   exact aM (jn @volS.eq_2 (jn @hve (jn @bi (jn @bj (jn @bA @bt)))))
  ·have h1d := bsT h1
   obtain rfl : i = l.length := by omega
   simp -implicitDefEqProofs (disch := omega) only [hbpp, hb0pp, hbs, hb0s, hbz, hb0z, bV, c9, h1, h1d, Option.isNone_some.{0}, aO, aH, aI, aP, simprocAttr, aB, aC, Function.comp_apply, one1, lenV, ak, ar, au, aop, AV.ofValue, AV.ofCell, AV.cells, AV.flat, AV.one, arep, aN, az]
   repeat refine And.intro (by omega) ?_
   exact hQ _ _ (ae (.inl rfl) hbel (x := .int .i64 (volS l l.length)) (ag Tryz.results32) rfl ⟨rfl, rfl⟩)
open Go.RowKit
theorem gn {α : Type} {H l : List α} {x : α} {b : Nat} (h : b < H.length) : (H ++ l).set b x = H.set b x ++ l := List.set_append_left _ _ h
theorem ii {α : Type} {H l : List α} {x : α} {b : Nat} (h : b < H.length) : (H.set b x ++ l)[b]? = some x := by
 rw [List.getElem?_append_left (by rw [List.length_set]; exact h), List.getElem?_set_self h]
theorem gp {α : Type} {H : List α} {x : α} {b : Nat} (h : b < H.length) : (H.set b x)[b]? = some x := List.getElem?_set_self h
theorem fD {α : Type} {H l : List α} {x y : α} {b : Nat} (h : b < H.length) : (H.set b x ++ l).set b y = H.set b y ++ l := by
 rw [gn (by rw [List.length_set]; exact h), List.set_set]
theorem iF {α : Type} {H l : List α} {x : α} {b k : Nat} : (H.set b x ++ l)[H.length + k]? = l[k]? := by
 rw [List.getElem?_append_right (by rw [List.length_set]; omega), List.length_set]; congr 1; omega
theorem jh {α : Type} {H l : List α} {x : α} {b : Nat} : (H.set b x ++ l)[H.length]? = l[0]? := iF (k := 0)
theorem iG {α : Type} {H l : List α} {x y : α} {b k : Nat} : (H.set b x ++ l).set (H.length + k) y = H.set b x ++ l.set k y := by
 rw [List.set_append_right _ _ (by rw [List.length_set]; omega), List.length_set]; congr 2; omega
theorem ji {α : Type} {H l : List α} {x y : α} {b : Nat} : (H.set b x ++ l).set H.length y = H.set b x ++ l.set 0 y := iG (k := 0)
theorem Abs0.put {n : Nat} {σ : Nat → Nat} {F1 F2 : Fr} {H1 H2 : ac} (h : Abs0 n σ F1 H1 F2 H2) (hs : ∀ c, n ≤ c → n ≤ σ c) (hi : ∀ b, σ b < H1.length → b < H2.length) (ho : ∀ (b : Nat) (x : ABlk), H2[b]? = some x → x.owned = true → ∃ x', H1[σ b]? = some x' ∧ x'.owned = true) {bf : Nat} (hb : bf < n) (hd : H1[bf]? = some .dead) (y : ABlk) : Abs0 n σ F1 (H1.set bf (y.mv σ)) F2 (H2.set bf y) := by
 have lt1 : bf < H1.length := getElem?_lt hd
 have lt2 : bf < H2.length := Nat.lt_of_lt_of_le hb h.len
 have hsb : ∀ c, c ≠ bf → σ c ≠ bf := fun c hc => by
  by_cases hcn : c < n
  ·rw [h.small c hcn]; exact hc
  ·have := hs c (by omega); omega
 have own : ∀ (b : Nat) (x : ABlk), (H2.set bf y)[b]? = some x → x.owned = true → ∃ x', (H1.set bf (y.mv σ))[σ b]? = some x' ∧ x'.owned = true := fun b x hx ox => by
  by_cases e : bf = b
  ·subst e
   rw [List.getElem?_set_self lt2] at hx; injection hx with hx; subst hx
   rw [h.small _ hb, List.getElem?_set_self lt1]
   exact ⟨_, rfl, by cases y <;> exact ox⟩
  ·rw [List.getElem?_set_ne e] at hx
   rw [List.getElem?_set_ne (hsb b (fun k => e k.symm)).symm]
   exact ho b x hx ox
 refine ⟨h.small, by rw [List.length_set]; exact h.len, fun E E' e1 e2 e3 t v hv => h.frame E E' (by rw [e1, List.length_set]) (by rw [e2, List.length_set]) e3 t v hv, fun E E' e1 e2 eB e3 w hw b x hx => ?_, fun b c x z hx hz ox oz hbc => ⟨?_, own b x hx ox, own c z hz oz⟩⟩
 ·rw [List.length_set] at e1 e2
  by_cases e : bf = b
  ·subst e
   rw [List.getElem?_set_self lt2] at hx; injection hx with hx; subst hx
   have k := hw bf _ (List.getElem?_set_self lt1)
   rw [e3, h.small _ hb]
   exact l9 eB e3 (fun b hb => by rw [e2]; exact hi b (by rw [← e1]; exact hb)) k
  ·rw [List.getElem?_set_ne e] at hx
   refine h.heap E E' e1 e2 eB e3 w (fun c z hz => ?_) b x hx
   by_cases e' : bf = c
   ·subst e'; rw [hd] at hz; injection hz with hz; subst hz; trivial
   ·exact hw c z (by rw [List.getElem?_set_ne e']; exact hz)
 ·by_cases e : bf = b
  ·subst e; rw [h.small _ hb]; exact (hsb c (fun k => hbc k.symm)).symm
  ·by_cases e' : bf = c
   ·subst e'; rw [h.small _ hb]; exact hsb b (fun k => e k.symm)
   ·rw [List.getElem?_set_ne e] at hx
    rw [List.getElem?_set_ne e'] at hz
    exact (h.inj b c x z hx hz ox oz hbc).1
theorem Abs.byP {H M l1 l2 : ac} {F1 F2 : Fr} {bf : Nat} {b1 : ABlk} (b2 : ABlk) (hbel : HBel H.length H) (hbf : bf < H.length) (hM : M = H.set bf b1 ++ l1) (G : ac) (hG : G.all gq = true) (sel : List Nat) (hnd : sel.Nodup)
  (h : fg (H.length + (l1 ++ G).length) (sig H.length (l1 ++ G).length sel) F1 F2 ∧ b1 = b2.mv (sig H.length (l1 ++ G).length sel) ∧ fq (H.length + (l1 ++ G).length) (sig H.length (l1 ++ G).length sel) (l1 ++ G) sel l2) : Abs H.length (sig H.length (l1 ++ G).length sel) F1 M F2 (H.set bf b2 ++ l2) := by
 subst hM
 obtain ⟨hF, hb, ha⟩ := h
 have hl := (ft ha).1
 have hH := (ft ha).2
 have hn : (H.set bf .dead).length = H.length := List.length_set
 have hbel2 : HBel H.length (H.set bf .dead) := fun b x hx => by
  by_cases e : bf = b
  ·subst e; rw [List.getElem?_set_self hbf] at hx; injection hx with hx; subst hx; rfl
  ·rw [List.getElem?_set_ne e] at hx; exact hbel b x hx
 have k := Abs0.of (n := H.length) (H0 := H.set bf .dead) (l1 := l1 ++ G) (l2 := l2) (F1 := F1) (F2 := F2) hn hbel2 sel hnd (lq hF) hl hH
 have small : ∀ b, b < H.length → sig H.length (l1 ++ G).length sel b = b := fun b hb => by simp [sig, hb]
 have k2 := k.put (bf := bf) (fun c hc => by
   unfold sig
   rw [if_neg (by omega)]
   split <;> omega) (fun b hb => by
   simp only [List.length_append, List.length_set] at hb ⊢
   unfold sig at hb
   split at hb
   ·omega
   ·split at hb
    ·rename_i q; have := getElem?_lt q; omega
    ·omega) (fun b x hx ho => by
   by_cases hbn : b < H.length
   ·rw [small b hbn, List.getElem?_append_left (by rw [hn]; exact hbn)]
    rw [List.getElem?_append_left (by rw [hn]; exact hbn)] at hx
    exact ⟨x, hx, ho⟩
   ·rw [List.getElem?_append_right (by rw [hn]; omega), hn] at hx
    have hlt := getElem?_lt hx
    have h1 : sel[b - H.length]? = some (sel[b - H.length]'(by omega)) := List.getElem?_eq_getElem _
    have h2 : sig H.length (l1 ++ G).length sel b = H.length + sel[b - H.length]'(by omega) := by unfold sig; rw [if_neg hbn, h1]
    rw [h2, List.getElem?_append_right (by rw [hn]; omega), hn, show ∀ i : Nat, H.length + i - H.length = i from fun i => by omega]
    rcases hH _ _ x h1 hx with rfl | h4 | h4
    ·cases ho
    ·exact ⟨_, h4, by cases x <;> exact ho⟩
    ·exact h4.own (by cases x <;> exact ho)) hbf (by rw [List.getElem?_append_left (by rw [hn]; exact hbf)]; exact List.getElem?_set_self hbf) b2
 rw [fD hbf, fD hbf, ← hb, ← List.append_assoc] at k2
 exact ⟨G, hG, k2⟩
theorem kV {P : Program} {fn : Func} {H M l1 l2 : ac} {bf : Nat} {b1 : ABlk} (b2 : ABlk) {R : AV → ac → Prop} {F : Fr} {e : Exit} (he : e = .ret ∨ e = .normal) (hbel : HBel H.length H) (hbf : bf < H.length) (hM : M = H.set bf b1 ++ l1) {x1 : AV} (x2 : AV) (hx : cW P fn F M = some x1) (G : ac) (hG : G.all gq = true) (sel : List Nat) (hnd : sel.Nodup) (hR : R x2 (H.set bf b2 ++ l2))
  (h : W (H.length + (l1 ++ G).length) x1 (x2.mv (sig H.length (l1 ++ G).length sel)) ∧ b1 = b2.mv (sig H.length (l1 ++ G).length sel) ∧ fq (H.length + (l1 ++ G).length) (sig H.length (l1 ++ G).length sel) (l1 ++ G) sel l2) : dK P fn H.length R e F M := by
 have kk := Abs.byP (F1 := [(0, x1)]) (F2 := [(0, x2)]) b2 hbel hbf hM G hG sel hnd ⟨⟨h.1, trivial⟩, h.2⟩
 rcases he with rfl | rfl
 ·exact ⟨x1, hx, _, x2, _, hR, kk⟩
 ·exact ⟨x1, hx, _, x2, _, hR, kk⟩
open Go.RowKit
theorem boxes_p (H : ac) (s : AV) (l : List T6) (t : Int) (g : Int) (tu : Int) (le : Int) (sl : Int) (ra : Int) (still : Bool) (hs : Sl H 6 s l.length (r6 l)) (hS : bP l = true) (hl0 : 0 < l.length) (hC : cQ t g = true) (hB : cJ tu le sl ra = true) (hA : imA l t (stF still g) tu le sl = true) : ACalls Tryz.prog 52 [s, .agg [.int .i64 t, .int .i64 g], .agg [.int .i64 tu, .int .i64 le, .int .i64 sl, .int .i64 ra], .bool still] H (fun v H' => v = .tup [.sl (some (H.length, 0)) ((imS l t (stF still g) tu le sl l.length).length) none, .int .i64 0] ∧ H' = H ++ [.cells true 6 (r6 (imS l t (stF still g) tu le sl l.length))]) := by
 have k := boxes_y H s l t g tu le sl ra still hs hS hC hB hA
 rw [j6 (by rw [dI]; exact hl0), ec (by rw [dI]; exact hl0)] at k
 exact k
theorem lmv_y (H : ac) (W : Int) (Hh : Int) (pp : AV) (xs : List Int) (s : AV) (l : List T6) (tu : Int) (le : Int) (sl : Int) (ra : Int)  (bz : Nat) (t : Int) (g : Int) (still : Bool) (hpp : Sl H 1 pp xs.length (ints .u8 xs)) (hs : Sl H 6 s l.length (r6 l)) (hz : H[bz]? = some (.cells true 0 [.int .i64 W, .int .i64 Hh, pp, s, .int .i64 tu, .int .i64 le, .int .i64 sl, .int .i64 ra, .bool false])) (hS : bP l = true) (hl0 : 0 < l.length) (hC : cQ t g = true) (hB : cJ tu le sl ra = true) (hA : imA l t (stF still g) tu le sl = true) : ACalls Tryz.prog 17 [.ptr (some (bz, 0)), .agg [.int .i64 t, .int .i64 g], .bool still] H (fun v H' => v = .int .i64 0 ∧ H' = H.set bz (.cells true 0 [.int .i64 W, .int .i64 Hh, pp, .sl (some (H.length, 0)) ((imS l t (stF still g) tu le sl l.length).length) none, .int .i64 tu, .int .i64 le, .int .i64 sl, .int .i64 ra, .bool false]) ++ [.cells true 6 (r6 (imS l t (stF still g) tu le sl l.length))]) := by
 obtain ⟨bpp, opp, cpp, rfl, hbpp⟩ := hpp
 have hblpp := getElem?_lt hbpp
 have hb0pp := fun l => aw (l := l) hbpp
 obtain ⟨bs, os, cs, rfl, hbs⟩ := hs
 have hbls := getElem?_lt hbs
 have hb0s := fun l => aw (l := l) hbs
 have hbz := hz
 have hblz := getElem?_lt hbz
 have hb0z := fun l => aw (l := l) hbz
 refine AcT false Tryz.func17 ?_; intro hbel Q hQ
 simp -implicitDefEqProofs (disch := omega) only [hbpp, hb0pp, hbs, hb0s, hbz, hb0z, hC, hB, hA, Option.isNone_some.{0}, aO, aH, aI, aP, simprocAttr, aB, aC, Function.comp_apply, one1, lenV, ak, ar, au, aop, AV.ofValue, AV.ofCell, AV.cells, AV.flat, AV.one, arep, aN, az]
 repeat refine And.intro (by omega) ?_
 refine af (by kernel_rfl) (fJ _ t g) ?_
 simp -implicitDefEqProofs (disch := omega) only [hbpp, hb0pp, hbs, hb0s, hbz, hb0z, hC, hB, hA, Option.isNone_some.{0}, aO, aH, aI, aP, simprocAttr, aB, aC, Function.comp_apply, one1, lenV, ak, ar, au, aop, AV.ofValue, AV.ofCell, AV.cells, AV.flat, AV.one, arep, aN, az]
 repeat refine And.intro (by omega) ?_
 rcases Bool.eq_false_or_eq_true (imA l t (stF still g) tu le sl) with h1 | h1
 ·have h1d := h1
  refine cg (by kernel_rfl) (by simp) (boxes_p _ _ l t g tu le sl ra still ⟨_, _, _, rfl, by first | exact hb0s _ | exact hbs⟩ (by assumption) hl0 hC hB hA) ?_
  simp -implicitDefEqProofs (disch := omega) only [hbpp, hb0pp, hbs, hb0s, hbz, hb0z, h1, h1d, hblz, fD, gn, ii, gp, iF, jh, iG, ji, List.length_set, List.set_set, hC, hB, hA, Option.isNone_some.{0}, aO, aH, aI, aP, simprocAttr, aB, aC, Function.comp_apply, one1, lenV, ak, ar, au, aop, AV.ofValue, AV.ofCell, AV.cells, AV.flat, AV.one, arep, aN, az]
  repeat refine And.intro (by omega) ?_
  refine hQ _ _ (kV (b1 := .cells true 0 [.int .i64 W, .int .i64 Hh, .sl (some (bpp, 0)) xs.length cpp, .sl (some (H.length + 1, 0)) ((imS l t (stF still g) tu le sl l.length).length) none, .int .i64 tu, .int .i64 le, .int .i64 sl, .int .i64 ra, .bool false]) (.cells true 0 [.int .i64 W, .int .i64 Hh, .sl (some (bpp, 0)) xs.length cpp, .sl (some (H.length, 0)) ((imS l t (stF still g) tu le sl l.length).length) none, .int .i64 tu, .int .i64 le, .int .i64 sl, .int .i64 ra, .bool false]) (l1 := [.cells true 0 [.int .i64 t, .int .i64 g], .cells true 6 (r6 (imS l t (stF still g) tu le sl l.length))]) (l2 := [.cells true 6 (r6 (imS l t (stF still g) tu le sl l.length))]) (.inl rfl) hbel hblz (by first | rfl | simp) (x1 := .int .i64 0) (.int .i64 0) (ag Tryz.results17) [] rfl [1] (by decide) ⟨rfl, rfl⟩ ?_)
  exact bp (jn @bt (jn @hblpp (jn @hbls @hblz)))
 ·have h1d := h1
  exact absurd (hA.symm.trans h1d) (by decide)
theorem lmv_n (H : ac) (W : Int) (Hh : Int) (pp : AV) (xs : List Int) (s : AV) (l : List T6) (tu : Int) (le : Int) (sl : Int) (ra : Int)  (bz : Nat) (t : Int) (g : Int) (still : Bool) (hpp : Sl H 1 pp xs.length (ints .u8 xs)) (hs : Sl H 6 s l.length (r6 l)) (hz : ∃ o, H[bz]? = some (.cells o 0 [.int .i64 W, .int .i64 Hh, pp, s, .int .i64 tu, .int .i64 le, .int .i64 sl, .int .i64 ra, .bool false])) (hS : bP l = true) (hl0 : 0 < l.length) (hC : cQ t g = true) (hB : cJ tu le sl ra = true) (hA : imA l t (stF still g) tu le sl = false) : ACalls Tryz.prog 17 [.ptr (some (bz, 0)), .agg [.int .i64 t, .int .i64 g], .bool still] H (fun v H' => v = .int .i64 2 ∧ H' = H) := by
 obtain ⟨bpp, opp, cpp, rfl, hbpp⟩ := hpp
 have hblpp := getElem?_lt hbpp
 have hb0pp := fun l => aw (l := l) hbpp
 obtain ⟨bs, os, cs, rfl, hbs⟩ := hs
 have hbls := getElem?_lt hbs
 have hb0s := fun l => aw (l := l) hbs
 obtain ⟨oz, hbz⟩ := hz
 have hblz := getElem?_lt hbz
 have hb0z := fun l => aw (l := l) hbz
 refine AcT true Tryz.func17 ?_; intro hbel Q hQ
 simp -implicitDefEqProofs (disch := omega) only [hbpp, hb0pp, hbs, hb0s, hbz, hb0z, hC, hB, hA, Option.isNone_some.{0}, aO, aH, aI, aP, simprocAttr, aB, aC, Function.comp_apply, one1, lenV, ak, ar, au, aop, AV.ofValue, AV.ofCell, AV.cells, AV.flat, AV.one, arep, aN, az]
 repeat refine And.intro (by omega) ?_
 refine af (by kernel_rfl) (fJ _ t g) ?_
 simp -implicitDefEqProofs (disch := omega) only [hbpp, hb0pp, hbs, hb0s, hbz, hb0z, hC, hB, hA, Option.isNone_some.{0}, aO, aH, aI, aP, simprocAttr, aB, aC, Function.comp_apply, one1, lenV, ak, ar, au, aop, AV.ofValue, AV.ofCell, AV.cells, AV.flat, AV.one, arep, aN, az]
 repeat refine And.intro (by omega) ?_
 rcases Bool.eq_false_or_eq_true (imA l t (stF still g) tu le sl) with h1 | h1
 ·have h1d := h1
  exact absurd (hA.symm.trans h1d) (by decide)
 ·have h1d := h1
  refine aK (by kernel_rfl) (boxes_n _ _ l t g tu le sl ra still ⟨_, _, _, rfl, by first | exact hb0s _ | exact hbs⟩ (by assumption) hC hB hA) ?_
  simp -implicitDefEqProofs (disch := omega) only [hbpp, hb0pp, hbs, hb0s, hbz, hb0z, h1, h1d, hC, hB, hA, Option.isNone_some.{0}, aO, aH, aI, aP, simprocAttr, aB, aC, Function.comp_apply, one1, lenV, ak, ar, au, aop, AV.ofValue, AV.ofCell, AV.cells, AV.flat, AV.one, arep, aN, az]
  repeat refine And.intro (by omega) ?_
  exact hQ _ _ (ae (.inl rfl) hbel (x := .int .i64 2) (ag Tryz.results17) rfl ⟨rfl, rfl⟩)
theorem lmv_a (H : ac) (W : Int) (Hh : Int) (pp : AV) (xs : List Int) (s : AV) (l : List T6) (tu : Int) (le : Int) (sl : Int) (ra : Int) (lost : Bool) (bz : Nat) (t : Int) (g : Int) (still : Bool) (hpp : Sl H 1 pp xs.length (ints .u8 xs)) (hs : Sl H 6 s l.length (r6 l)) (hz : ∃ o, H[bz]? = some (.cells o 0 [.int .i64 W, .int .i64 Hh, pp, s, .int .i64 tu, .int .i64 le, .int .i64 sl, .int .i64 ra, .bool lost])) (hC : cQ t g = false) : ACalls Tryz.prog 17 [.ptr (some (bz, 0)), .agg [.int .i64 t, .int .i64 g], .bool still] H (fun v H' => v = .int .i64 1 ∧ H' = H) := by
 obtain ⟨bpp, opp, cpp, rfl, hbpp⟩ := hpp
 have hblpp := getElem?_lt hbpp
 have hb0pp := fun l => aw (l := l) hbpp
 obtain ⟨bs, os, cs, rfl, hbs⟩ := hs
 have hbls := getElem?_lt hbs
 have hb0s := fun l => aw (l := l) hbs
 obtain ⟨oz, hbz⟩ := hz
 have hblz := getElem?_lt hbz
 have hb0z := fun l => aw (l := l) hbz
 refine AcT true Tryz.func17 ?_; intro hbel Q hQ
 simp -implicitDefEqProofs (disch := omega) only [hbpp, hb0pp, hbs, hb0s, hbz, hb0z, hC, Option.isNone_some.{0}, aO, aH, aI, aP, simprocAttr, aB, aC, Function.comp_apply, one1, lenV, ak, ar, au, aop, AV.ofValue, AV.ofCell, AV.cells, AV.flat, AV.one, arep, aN, az]
 repeat refine And.intro (by omega) ?_
 refine af (by kernel_rfl) (fJ _ t g) ?_
 simp -implicitDefEqProofs (disch := omega) only [hbpp, hb0pp, hbs, hb0s, hbz, hb0z, hC, Option.isNone_some.{0}, aO, aH, aI, aP, simprocAttr, aB, aC, Function.comp_apply, one1, lenV, ak, ar, au, aop, AV.ofValue, AV.ofCell, AV.cells, AV.flat, AV.one, arep, aN, az]
 repeat refine And.intro (by omega) ?_
 exact hQ _ _ (ae (.inl rfl) hbel (x := .int .i64 1) (ag Tryz.results17) rfl ⟨rfl, rfl⟩)
theorem lmv_s (H : ac) (W : Int) (Hh : Int) (pp : AV) (xs : List Int) (s : AV) (l : List T6) (tu : Int) (le : Int) (sl : Int) (ra : Int)  (bz : Nat) (t : Int) (g : Int) (still : Bool) (hpp : Sl H 1 pp xs.length (ints .u8 xs)) (hs : Sl H 6 s l.length (r6 l)) (hz : ∃ o, H[bz]? = some (.cells o 0 [.int .i64 W, .int .i64 Hh, pp, s, .int .i64 tu, .int .i64 le, .int .i64 sl, .int .i64 ra, .bool true])) (hC : cQ t g = true) : ACalls Tryz.prog 17 [.ptr (some (bz, 0)), .agg [.int .i64 t, .int .i64 g], .bool still] H (fun v H' => v = .int .i64 9 ∧ H' = H) := by
 obtain ⟨bpp, opp, cpp, rfl, hbpp⟩ := hpp
 have hblpp := getElem?_lt hbpp
 have hb0pp := fun l => aw (l := l) hbpp
 obtain ⟨bs, os, cs, rfl, hbs⟩ := hs
 have hbls := getElem?_lt hbs
 have hb0s := fun l => aw (l := l) hbs
 obtain ⟨oz, hbz⟩ := hz
 have hblz := getElem?_lt hbz
 have hb0z := fun l => aw (l := l) hbz
 refine AcT true Tryz.func17 ?_; intro hbel Q hQ
 simp -implicitDefEqProofs (disch := omega) only [hbpp, hb0pp, hbs, hb0s, hbz, hb0z, hC, Option.isNone_some.{0}, aO, aH, aI, aP, simprocAttr, aB, aC, Function.comp_apply, one1, lenV, ak, ar, au, aop, AV.ofValue, AV.ofCell, AV.cells, AV.flat, AV.one, arep, aN, az]
 repeat refine And.intro (by omega) ?_
 refine af (by kernel_rfl) (fJ _ t g) ?_
 simp -implicitDefEqProofs (disch := omega) only [hbpp, hb0pp, hbs, hb0s, hbz, hb0z, hC, Option.isNone_some.{0}, aO, aH, aI, aP, simprocAttr, aB, aC, Function.comp_apply, one1, lenV, ak, ar, au, aop, AV.ofValue, AV.ofCell, AV.cells, AV.flat, AV.one, arep, aN, az]
 repeat refine And.intro (by omega) ?_
 exact hQ _ _ (ae (.inl rfl) hbel (x := .int .i64 9) (ag Tryz.results17) rfl ⟨rfl, rfl⟩)
open Go.RowKit

theorem Ints.drew {w : World} {k : IntKind} {A : Option Addr} {xs : List Int} (h : Ints w k A xs) : Ints w.drew k A xs := h

open Go.RowKit
theorem bxInfo : (Tryz.prog.info? 73).map (fun i => (i.zero, i.size, i.bytes)) = some (some (.agg #[.int .i64 0, .int .i64 0, .int .i64 0, .int .i64 0, .int .i64 0, .int .i64 0]), 6, 48) := by kernel_rfl
theorem rC (z : Array Value) : (Builtin.zeroCells z 1).toList = z.toList := by
 simp only [Builtin.zeroCells, Nat.one_mul]
 apply List.ext_getElem
 ·simp
 ·intro i h1 h2
  simp only [Array.toList_map, Array.toList_range, List.getElem_map, List.getElem_range, Array.getElem_toList]
  have h3 : i < z.size := by simpa using h2
  rw [Nat.mod_eq_of_lt h3, getElem!_pos z i h3]
theorem run_clear1 {P : Program} (w : World) (t e ty : TypeId) (z : Value) (ht : P.underlying t = some (.slice e)) (hv : (zeroValue e).run P w = .ok z w) (h1 : ∀ v ∈ z.cells.toList, v.oneCell' = true) (b o c : Nat)
  (hc : ∀ j, j < z.cells.toList.length → (w.cell? ⟨b, o + j, none⟩).isSome = true) (hf : ∀ j, j < z.cells.toList.length → w.frozen? ⟨b, o + j, none⟩ = false) :
  (Builtin.clear_ #[t] ty #[.slice (some ⟨b, o, none⟩) 1 c]).run P w = .ok (.tuple #[]) (w.setCells b o z.cells.toList) := by
 have hst := run_storeCells_cells (P := P) b o z.cells.toList 0 w hc hf h1
 simp only [Nat.add_zero] at hst
 simp [Builtin.clear_, run_underlying ht, hv, rC, hst]
set_option maxHeartbeats 4000000 in
set_option maxRecDepth 1000000 in
theorem del_w (g off cap n i j : Nat) (w : World) (news : List Value) (hl : news.length = (n - j) * 6) (hnews : ∀ t u, news[t]? = some u → w.cell? ⟨g, off + j * 6 + t, none⟩ = some u) (h1 : ∀ u ∈ news, u.oneCell' = true) (hc : ∀ t, t < n * 6 → (w.cell? ⟨g, off + t, none⟩).isSome = true ∧ w.frozen? ⟨g, off + t, none⟩ = false) (hi : i < n) (hj1 : j = i + 1) (hn : n ≤ cap) (hm : cap ≤ 9223372036854775807)
  (W1 : World) (hW1 : W1 = w.drew.setCells g (off + i * 6) news) (hc1 : ∀ t, t < n * 6 → (W1.cell? ⟨g, off + t, none⟩).isSome = true ∧ W1.frozen? ⟨g, off + t, none⟩ = false) :
  Calls Tryz.prog 93 #[.slice (some ⟨g, off, none⟩) n cap, .int .i64 (i : Int), .int .i64 (j : Int)] w fun e w' => e = .returned (.slice (some ⟨g, off, none⟩) (i + (n - j)) cap) ∧ w' = W1.setCells g (off + (i + (n - j)) * 6) (List.replicate 6 (.int .i64 0)) := by
 obtain ⟨i0, hi0, hz0, hz1, hz2⟩ := info_parts bxInfo
 obtain ⟨A, hA, hsrc⟩ : ∃ A : Addr, (if cap = j then (some (⟨g, off, none⟩ : Addr)) else some ⟨g, off + j * 6, none⟩) = some A ∧ Hid (∀ t u, news[t]? = some u → w.drew.cell? (A.add t) = some u) := by
  by_cases h : cap = j
  ·refine ⟨⟨g, off, none⟩, by simp [h], fun t u hu => ?_⟩
   have h0 : news.length = 0 := by rw [hl]; omega
   rw [List.length_eq_zero_iff.1 h0] at hu
   simp at hu
  ·refine ⟨⟨g, off + j * 6, none⟩, by simp [h], fun t u hu => ?_⟩
   rw [Addr.add_lit]
   exact hnews t u hu
 have s1 : Hid (news.length = (n - j) * 6) := hl
 have s2 : Hid (∀ u ∈ news, u.oneCell' = true) := h1
 have s3 : Hid (∀ t, t < news.length → (w.drew.cell? ⟨g, off + i * 6 + t, none⟩).isSome = true ∧ w.drew.frozen? ⟨g, off + i * 6 + t, none⟩ = false) := by
  intro t ht
  rw [hl] at ht
  have := hc (i * 6 + t) (by omega)
  rw [← Nat.add_assoc] at this
  exact this
 have hcl : ∀ ty, (Builtin.clear_ #[31] ty #[.slice (some ⟨g, off + (i + (n - j)) * 6, none⟩) (n - (i + (n - j))) (cap - (i + (n - j)))]).run Tryz.prog W1 = .ok (.tuple #[]) (W1.setCells g (off + (i + (n - j)) * 6) (List.replicate 6 (.int .i64 0))) := fun ty => by
  have hzv : (zeroValue 73).run Tryz.prog W1 = .ok (.agg #[.int .i64 0, .int .i64 0, .int .i64 0, .int .i64 0, .int .i64 0, .int .i64 0]) W1 := by simp [zeroValue, typeInfo, hi0, hz0]
  have hzl : (Value.agg #[.int .i64 0, .int .i64 0, .int .i64 0, .int .i64 0, .int .i64 0, .int .i64 0]).cells.toList = List.replicate 6 (.int .i64 0) := rfl
  have k := run_clear1 (P := Tryz.prog) W1 31 73 ty (.agg #[.int .i64 0, .int .i64 0, .int .i64 0, .int .i64 0, .int .i64 0, .int .i64 0]) Tryz.underlying31 hzv (by rw [hzl]; intro v hv; rw [List.eq_of_mem_replicate hv]; rfl) g (off + (i + (n - j)) * 6) (cap - (i + (n - j))) (fun t ht => by rw [hzl, List.length_replicate] at ht; rw [Nat.add_assoc]; exact (hc1 _ (by omega)).1) (fun t ht => by rw [hzl, List.length_replicate] at ht; rw [Nat.add_assoc]; exact (hc1 _ (by omega)).2)
  rw [hzl] at k
  rw [show n - (i + (n - j)) = 1 by omega]
  exact k
 have hW : Hid (W1 = w.drew.setCells g (off + i * 6) news) := hW1
 have hHi := hid hi0
 have hHz := hid hz1
 have hij : i ≤ j := by omega
 have hne : ¬ (i = j) := by omega
 have hj : j ≤ n := by omega
 have hic : i ≤ cap := by omega
 have hjc : j ≤ cap := by omega
 have hlt : i < j := by omega
 have hr := hid hj1
 clear hW1 hnews hl hc hc1 hi0 hz0 hz1 hz2 hj1
 go_enter Tryz.func93, Tryz.ntmps93
 go_wp2_with fail
 go_region_law (refine step_append_room rfl (.tmp 22) (.tmp 25) 31 rfl 73 i0 6 Tryz.underlying31 hHi.out hHz.out g off i cap (by simp [Act.eval, Act.put]) A (n - j) (cap - j) news (by simp [Act.eval, Act.put]) s1.out hsrc.out s2.out (by omega) s3.out ?_; rw [← hW.out])
 go_wp2
 go_ret
 exact ⟨rfl, rfl⟩
theorem wY {E : Env} {b o n : Nat} {cap : Option Nat} {v : Value} (h : Rel E (.sl (some (b, o)) n cap) v) (hn : 0 < n) : ∃ c, v = .slice (some ⟨(E.loc b).blk, (E.loc b).off + o, none⟩) n c ∧ b < E.n ∧ n ≤ c ∧ c ≤ maxLen ∧ o + c * (E.loc b).es ≤ (E.loc b).sz := by
 generalize hx : AV.sl (some (b, o)) n cap = x at h
 cases h with
 | nils b' cap' hb hc => cases hx; omega
 | sl b' o' len cap' c a h0 h1 h2 h3 h4 h5 =>
  cases hx
  rcases h4 with h4 | h4
  ·omega
  ·subst h4; exact ⟨c, rfl, h0, h1, h2, h5⟩
 | _ => cases hx
theorem ru : ∀ (ys xs : List AV) (o : Nat), o + ys.length ≤ xs.length → splice xs o ys = xs.take o ++ ys ++ xs.drop (o + ys.length)
 | [], xs, o, h => by
  rw [splice, List.append_nil, List.length_nil, Nat.add_zero, List.take_append_drop]
 | y :: ys, xs, o, h => by
  simp only [List.length_cons] at h
  rw [splice, ru ys _ _ (by rw [List.length_set]; omega)]
  have ho : o < xs.length := by omega
  rw [List.take_succ_eq_append_getElem (by simpa using ho), List.getElem_set_self, List.take_set_of_le (Nat.le_refl _), List.drop_set_of_lt (by omega), List.length_cons, show o + 1 + ys.length = o + (ys.length + 1) by omega]
  simp
theorem r6_takeB {l : List T6} {j : Nat} : (r6 l).take (j * 6) = r6 (l.take j) := by
 induction l generalizing j with
 | nil => simp [bA]
 | cons p l ih =>
  cases j with
  | zero => simp [bA]
  | succ j => rw [bj, show (j + 1) * 6 = j * 6 + 1 + 1 + 1 + 1 + 1 + 1 by omega, List.take_succ_cons, List.take_succ_cons, List.take_succ_cons, List.take_succ_cons, List.take_succ_cons, List.take_succ_cons, ih]; rfl
theorem r6_dropB {l : List T6} {j : Nat} : (r6 l).drop (j * 6) = r6 (l.drop j) := by
 induction l generalizing j with
 | nil => simp [bA]
 | cons p l ih =>
  cases j with
  | zero => simp
  | succ j => rw [bj, show (j + 1) * 6 = j * 6 + 1 + 1 + 1 + 1 + 1 + 1 by omega, List.drop_succ_cons, List.drop_succ_cons, List.drop_succ_cons, List.drop_succ_cons, List.drop_succ_cons, List.drop_succ_cons, ih]; rfl
def r6z : List AV := [.int .i64 0, .int .i64 0, .int .i64 0, .int .i64 0, .int .i64 0, .int .i64 0]
theorem r6_oneB : ∀ {l : List T6}, (r6 l).all AV.one = true
 | [] => rfl
 | p :: l => by rw [bj]; simp only [List.all_cons, AV.one, Bool.true_and]; exact r6_oneB
theorem del_b (H : ac) (b : Nat) (cap : Option Nat) (l : List T6) (z : Int) (hb : H[b]? = some (.cells true 6 (r6 l))) (h0 : 0 ≤ z) (hz : z < (l.length : Int)) : ACalls Tryz.prog 93 [.sl (some (b, 0)) l.length cap, .int .i64 z, .int .i64 (z + 1)] H (fun v H' => v = .sl (some (b, 0)) (l.take z.toNat ++ l.drop (z.toNat + 1)).length none ∧ H' = H.set b (.cells true 6 (r6 (l.take z.toNat ++ l.drop (z.toNat + 1)) ++ r6z))) := by
 obtain ⟨i, rfl⟩ : ∃ i : Nat, z = (i : Int) := ⟨z.toNat, by omega⟩
 rw [Int.toNat_natCast]
 have hi : i < l.length := by omega
 intro E w vs hE hv
 match vs, hv with
 | [], hv => exact absurd hv.1 (by simp)
 | [_], hv => exact absurd hv.1 (by simp)
 | [_, _], hv => exact absurd hv.1 (by simp)
 | _ :: _ :: _ :: _ :: _, hv => exact absurd hv.1 (by simp)
 | [v0, v1, v2], hv =>
 obtain ⟨r0, hv⟩ := hv.uncons
 obtain ⟨r1, hv⟩ := hv.uncons
 obtain ⟨r2, -⟩ := hv.uncons
 have e1 : v1 = .int .i64 (i : Int) := by cases r1; rfl
 have e2 : v2 = .int .i64 ((i + 1 : Nat) : Int) := by cases r2; rfl
 subst e1 e2
 obtain ⟨c, rfl, hbn, hnc, hcm, hsz⟩ := wY r0 (by omega)
 rw [Nat.add_zero]
 rw [Nat.zero_add] at hsz
 have hcells : ∀ {H' : ac} {w' : World} {ys : List AV}, Emb E H' w' → H'[b]? = some (.cells true 6 ys) → ∀ t, t < l.length * 6 → ys.length = l.length * 6 → (w'.cell? ⟨(E.loc b).blk, (E.loc b).off + t, none⟩).isSome = true ∧ w'.frozen? ⟨(E.loc b).blk, (E.loc b).off + t, none⟩ = false := fun hE' hb' t ht hy => by
  have k := (hE'.blk b _ hb').2.1 rfl
  exact k.2.2.2.2 t (by omega)
 have hlen : (r6 (l.drop (i + 1))).length = (l.length - (i + 1)) * 6 := by rw [bV, List.length_drop]
 have hr : ards H b ((i + 1) * 6) ((l.length - (i + 1)) * 6) = some (r6 (l.drop (i + 1))) := by
  unfold ards; rw [hb]
  simp only
  rw [if_pos (.inl (by rw [bV]; omega)), r6_dropB, List.take_of_length_le (by rw [hlen]; omega)]
 obtain ⟨o1, o2, ovs, o3, o4⟩ := eQ hE hr
 have hol : ovs.length = (l.length - (i + 1)) * 6 := by rw [← o3.1, hlen]
 have hw1 : awrite H b (i * 6) (r6 (l.drop (i + 1))) = some (H.set b (.cells true 6 (splice (r6 l) (i * 6) (r6 (l.drop (i + 1)))))) := by
  unfold awrite; rw [hb]
  simp only
  rw [if_pos ⟨by rw [hlen, bV]; omega, r6_oneB⟩]
 obtain ⟨x1, -, -, hE1⟩ := hE.drew.write o3 hw1
 have hblt : b < H.length := getElem?_lt hb
 have hs1 : splice (r6 l) (i * 6) (r6 (l.drop (i + 1))) = r6 (l.take i ++ l.drop (i + 1)) ++ (r6 l).drop ((l.length - 1) * 6) := by
  rw [ru _ _ _ (by rw [hlen, bV]; omega), r6_takeB, bi, hlen, show i * 6 + (l.length - (i + 1)) * 6 = (l.length - 1) * 6 by omega]
 have hlA : (r6 (l.take i ++ l.drop (i + 1))).length = (l.length - 1) * 6 := by rw [bV, List.length_append, List.length_take, List.length_drop]; omega
 have hlB : ((r6 l).drop ((l.length - 1) * 6)).length = 6 := by rw [List.length_drop, bV]; omega
 rw [hs1] at hE1
 have hb1 : (H.set b (.cells true 6 (r6 (l.take i ++ l.drop (i + 1)) ++ (r6 l).drop ((l.length - 1) * 6))))[b]? = some (.cells true 6 (r6 (l.take i ++ l.drop (i + 1)) ++ (r6 l).drop ((l.length - 1) * 6))) := List.getElem?_set_self hblt
 have hw2 : awrite (H.set b (.cells true 6 (r6 (l.take i ++ l.drop (i + 1)) ++ (r6 l).drop ((l.length - 1) * 6)))) b ((l.length - 1) * 6) r6z = some (H.set b (.cells true 6 (r6 (l.take i ++ l.drop (i + 1)) ++ r6z))) := by
  unfold awrite; rw [hb1]
  simp only
  rw [if_pos ⟨by rw [List.length_append, hlA, hlB]; exact Nat.le_refl _, rfl⟩, List.set_set, iU _ _ _ (by rw [List.length_append, hlA, hlB]; rfl), List.take_append_of_le_length (by rw [hlA]; exact Nat.le_refl _), List.take_of_length_le (by rw [hlA]; exact Nat.le_refl _)]
 have hz6 : RelL E r6z (List.replicate 6 (.int .i64 0)) := .cons (.int _ _) (.cons (.int _ _) (.cons (.int _ _) (.cons (.int _ _) (.cons (.int _ _) (.cons (.int _ _) (.nil E))))))
 obtain ⟨-, -, -, hE2⟩ := hE1.write hz6 hw2
 refine (del_w (E.loc b).blk (E.loc b).off c l.length i (i + 1) w ovs hol (fun t u hu => by
   exact o4 t u hu) x1 (fun t ht => hcells hE hb t ht bV) hi rfl hnc hcm _ rfl (fun t ht => hcells hE1 hb1 t ht (by rw [List.length_append, hlA, hlB]; omega))).mono ?_
 rintro e w' ⟨rfl, rfl⟩
 refine ⟨E, _, _, _, rfl, ⟨rfl, rfl⟩, .refl E, ?_, ?_⟩
 ·have e3 : (l.take i ++ l.drop (i + 1)).length = i + (l.length - (i + 1)) := by rw [List.length_append, List.length_take, List.length_drop]; omega
  rw [e3]
  have k := Rel.sl (E := E) b 0 (i + (l.length - (i + 1))) none c ⟨(E.loc b).blk, (E.loc b).off + 0, none⟩ hbn (by omega) hcm (.inl rfl) (.inr rfl) (by rw [Nat.zero_add]; exact hsz)
  rw [Nat.add_zero] at k
  exact k
 ·rw [show i + (l.length - (i + 1)) = l.length - 1 by omega]
  exact hE2
open Go.RowKit
theorem r6_set : ∀ {l : List T6} {j : Nat} {a b c d e f : Int}, j < l.length → ((((((r6 l).set (j * 6) (.int .i64 a)).set (j * 6 + 1) (.int .i64 b)).set (j * 6 + 2) (.int .i64 c)).set (j * 6 + 3) (.int .i64 d)).set (j * 6 + 4) (.int .i64 e)).set (j * 6 + 5) (.int .i64 f) = r6 (l.set j (a, b, c, d, e, f))
 | [], j, _, _, _, _, _, _, h => by simp at h
 | p :: l, 0, _, _, _, _, _, _, _ => by simp [bj]
 | p :: l, j + 1, a, b, c, d, e, f, h => by
  have ih := r6_set (l := l) (j := j) (a := a) (b := b) (c := c) (d := d) (e := e) (f := f) (by simpa using h)
  have k : (j + 1) * 6 = j * 6 + 1 + 1 + 1 + 1 + 1 + 1 := by omega
  rw [bj, k]
  simp only [List.set_cons_succ]
  rw [bj, ← ih]
theorem BW_pre' {m e : Nat} {o : Bool} {ys zs : List AV} : BW m (some (.cells o e (ys ++ zs))) (.cells o e ys) = True := eq_true BW.pre
theorem chp_c (H : ac) (s : AV) (l : List T6) (hs : Sl H 6 s l.length (r6 l)) (hv : ∀ b ∈ l, bD b = true) (hl2 : l.length ≤ 256) (hl0 : 0 < l.length) : ACalls Tryz.prog 92 [s] H (fun v H' => v = .tup [.int .i64 ((chO l l.length).1), .int .i64 ((chO l l.length).2.1), .agg [.int .i64 ((chO l l.length).2.2.2.1), .int .i64 ((chO l l.length).2.2.2.2.1), .int .i64 ((chO l l.length).2.2.2.2.2.1), .int .i64 ((chO l l.length).2.2.2.2.2.2.1), .int .i64 ((chO l l.length).2.2.2.2.2.2.2.1), .int .i64 ((chO l l.length).2.2.2.2.2.2.2.2)]] ∧ H' = H) := by
 obtain ⟨bs, os, cs, rfl, hbs⟩ := hs
 have hbls := getElem?_lt hbs
 have hb0s := fun l => aw (l := l) hbs
 refine AcT true Tryz.func92 ?_; intro hbel Q hQ
 have g'1 := (jn @hbs @hb0s)
 refine aa g'1 ?_
 refine go_loop try_mixed (by kernel_rfl) (fun k F Hx => ∃ i : Nat, i + k = l.length ∧ F = [(0, .sl (some (bs, 0)) l.length cs), (4, .ptr (some (H.length, 0))), (5, .int .i64 ((chO l i).1)), (6, .int .i64 ((chO l i).2.1)), (7, .int .i64 ((chO l i).2.2.1)), (8, .ptr (some (H.length + 1, 0))), (16, .sl (some (bs, 0)) l.length cs), (17, .int .i64 ((l.length : Nat) : Int)), (18, .int .i64 ((i : Nat) : Int))] ∧ Hx = H ++ [.cells true 0 [.int .i64 0, .int .i64 0, .int .i64 0, .int .i64 0, .int .i64 0, .int .i64 0], .cells true 0 [.int .i64 ((chO l i).2.2.2.1), .int .i64 ((chO l i).2.2.2.2.1), .int .i64 ((chO l i).2.2.2.2.2.1), .int .i64 ((chO l i).2.2.2.2.2.2.1), .int .i64 ((chO l i).2.2.2.2.2.2.2.1), .int .i64 ((chO l i).2.2.2.2.2.2.2.2)]]) (l.length) ?_ ?_
 ·refine ⟨_, _, _, ⟨0, by omega, rfl, rfl⟩, Abs.byG hbel [] rfl [0, 1] (by decide) ?_⟩
  exact bp @chO.eq_1
 ·rintro k0 F Hx ⟨i, hm0, rfl, rfl⟩ J0 hJ0
  refine aa g'1 ?_
  refine ai (fun h1 => ?_) (fun h1 => ?_)
  ·have h1d := bsT h1
   have hlt : i < l.length := by omega
   have hva : bxB (g61 l i) (g62 l i) (g63 l i) (g64 l i) (g65 l i) (g66 l i) = true := hv _ (cL hlt)
   have hcb := chO_bd (l := l) (n := i) (by omega)
   have q2 := dd (l := l) (j := i) (by omega)
   have g'2 := (jn @h1 (jn @h1d (jn @bV (jn @q2 g'1))))
   refine aa g'2 ?_
   refine go_loop try_mixed (by kernel_rfl) (fun k F Hx => ∃ j : Nat, j + k = l.length - (i + 1) ∧ F = [(0, .sl (some (bs, 0)) l.length cs), (4, .ptr (some (H.length, 0))), (5, .int .i64 ((chR l i (chO l i) j).1)), (6, .int .i64 ((chR l i (chO l i) j).2.1)), (7, .int .i64 ((chR l i (chO l i) j).2.2.1)), (8, .ptr (some (H.length + 1, 0))), (9, .int .i64 ((i : Nat) : Int)), (10, .ptr (some (H.length + 2, 0))), (16, .sl (some (bs, 0)) l.length cs), (17, .int .i64 ((l.length : Nat) : Int)), (18, .int .i64 ((i : Nat) : Int)), (26, .sl (some (bs, (i + 1) * 6)) (l.length - (i + 1)) none), (27, .int .i64 ((l.length - (i + 1) : Nat) : Int)), (28, .int .i64 ((j : Nat) : Int))] ∧ Hx = H ++ [.cells true 0 [.int .i64 0, .int .i64 0, .int .i64 0, .int .i64 0, .int .i64 0, .int .i64 0], .cells true 0 [.int .i64 ((chR l i (chO l i) j).2.2.2.1), .int .i64 ((chR l i (chO l i) j).2.2.2.2.1), .int .i64 ((chR l i (chO l i) j).2.2.2.2.2.1), .int .i64 ((chR l i (chO l i) j).2.2.2.2.2.2.1), .int .i64 ((chR l i (chO l i) j).2.2.2.2.2.2.2.1), .int .i64 ((chR l i (chO l i) j).2.2.2.2.2.2.2.2)], .cells true 0 [.int .i64 (g61 l i), .int .i64 (g62 l i), .int .i64 (g63 l i), .int .i64 (g64 l i), .int .i64 (g65 l i), .int .i64 (g66 l i)]]) (l.length - (i + 1)) ?_ ?_
   ·refine ⟨_, _, _, ⟨0, by omega, rfl, rfl⟩, Abs.byG hbel [] rfl [0, 1, 2] (by decide) ?_⟩
    exact bp @chR.eq_1
   ·rintro k1 F Hx ⟨j, hm1, rfl, rfl⟩ J1 hJ1
    refine aa g'2 ?_
    refine ai (fun h3 => ?_) (fun h3 => ?_)
    ·have h3d := bsT h3
     have hkt : j < l.length - (i + 1) := by omega
     have hvb : bxB (g61 l (i + 1 + j)) (g62 l (i + 1 + j)) (g63 l (i + 1 + j)) (g64 l (i + 1 + j)) (g65 l (i + 1 + j)) (g66 l (i + 1 + j)) = true := hv _ (cL (by omega))
     have hsfo : (i + 1) * 6 + j * 6 = (i + 1 + j) * 6 := by omega
     have hrb := chR_bd (l := l) (n := i) (k := j) (by omega) (by omega)
     have hv1 := jf (mnI (g61 l i) (g61 l (i + 1 + j)), mnI (g62 l i) (g62 l (i + 1 + j)), mxI (g63 l i) (g63 l (i + 1 + j)), mxI (g64 l i) (g64 l (i + 1 + j)), (cG (g65 l i) (g66 l i) (g65 l (i + 1 + j)) (g66 l (i + 1 + j))).1, (cG (g65 l i) (g66 l i) (g65 l (i + 1 + j)) (g66 l (i + 1 + j))).2)
     have hv2 := jf ((g61 l i), (g62 l i), (g63 l i), (g64 l i), (g65 l i), (g66 l i))
     have hv3 := jf ((g61 l (i + 1 + j)), (g62 l (i + 1 + j)), (g63 l (i + 1 + j)), (g64 l (i + 1 + j)), (g65 l (i + 1 + j)), (g66 l (i + 1 + j)))
     have q4 := dd (l := l) (j := i + 1 + j) (by omega)
     have g'3 := (jn @h3 (jn @h3d (jn @hsfo (jn @q4 g'2))))
     refine aa g'3 ?_
     refine af (by kernel_rfl) (bhull_c _ (g61 l i) (g62 l i) (g63 l i) (g64 l i) (g65 l i) (g66 l i) (g61 l (i + 1 + j)) (g62 l (i + 1 + j)) (g63 l (i + 1 + j)) (g64 l (i + 1 + j)) (g65 l (i + 1 + j)) (g66 l (i + 1 + j)) (by assumption) (by assumption)) ?_
     refine aa g'3 ?_
     refine aK (by kernel_rfl) (vol_c _ (mnI (g61 l i) (g61 l (i + 1 + j))) (mnI (g62 l i) (g62 l (i + 1 + j))) (mxI (g63 l i) (g63 l (i + 1 + j))) (mxI (g64 l i) (g64 l (i + 1 + j))) ((cG (g65 l i) (g66 l i) (g65 l (i + 1 + j)) (g66 l (i + 1 + j))).1) ((cG (g65 l i) (g66 l i) (g65 l (i + 1 + j)) (g66 l (i + 1 + j))).2)) ?_
     refine aa g'3 ?_
     refine aK (by kernel_rfl) (vol_c _ (g61 l i) (g62 l i) (g63 l i) (g64 l i) (g65 l i) (g66 l i)) ?_
     refine aa g'3 ?_
     refine aK (by kernel_rfl) (vol_c _ (g61 l (i + 1 + j)) (g62 l (i + 1 + j)) (g63 l (i + 1 + j)) (g64 l (i + 1 + j)) (g65 l (i + 1 + j)) (g66 l (i + 1 + j))) ?_
     refine aa g'3 ?_
     refine aj (fun h5 => ?_) (fun h5 => ?_)
     ·have h5d := bsT h5
      have hk5 := h5d
      have g'4 := (jn @h5 (jn @h5d g'3))
      refine aa g'4 ?_
      refine ai (fun h6 => ?_) (fun h6 => ?_)
      ·have h6d := bsT h6
       have hU : chU l i j (chR l i (chO l i) j) = ((i : Int), (i : Int) + 1 + (j : Int), chN l i (i + 1 + j), ey (g6 l i) (g6 l (i + 1 + j))) := if_pos (.inr h6d)
       have hc1 : (chU l i j (chR l i (chO l i) j)).1 = ((i : Nat) : Int) := by rw [hU]
       have hc2 : (chU l i j (chR l i (chO l i) j)).2.1 = ((i : Nat) : Int) + 1 + ((j : Nat) : Int) := by rw [hU]
       have hc3 : (chU l i j (chR l i (chO l i) j)).2.2.1 = (((dN ((mnI (g61 l i) (g61 l (i + 1 + j))), (mnI (g62 l i) (g62 l (i + 1 + j))), (mxI (g63 l i) (g63 l (i + 1 + j))), (mxI (g64 l i) (g64 l (i + 1 + j))), ((cG (g65 l i) (g66 l i) (g65 l (i + 1 + j)) (g66 l (i + 1 + j))).1), ((cG (g65 l i) (g66 l i) (g65 l (i + 1 + j)) (g66 l (i + 1 + j))).2))) - (dN (g6 l i))) - (dN (g6 l (i + 1 + j)))) := by rw [hU]; rfl
       have hd0 : (chU l i j (chR l i (chO l i) j)).2.2.2.1 = mnI (g61 l i) (g61 l (i + 1 + j)) := by rw [hU]; rfl
       have hd1 : (chU l i j (chR l i (chO l i) j)).2.2.2.2.1 = mnI (g62 l i) (g62 l (i + 1 + j)) := by rw [hU]; rfl
       have hd2 : (chU l i j (chR l i (chO l i) j)).2.2.2.2.2.1 = mxI (g63 l i) (g63 l (i + 1 + j)) := by rw [hU]; rfl
       have hd3 : (chU l i j (chR l i (chO l i) j)).2.2.2.2.2.2.1 = mxI (g64 l i) (g64 l (i + 1 + j)) := by rw [hU]; rfl
       have hd4 : (chU l i j (chR l i (chO l i) j)).2.2.2.2.2.2.2.1 = (cG (g65 l i) (g66 l i) (g65 l (i + 1 + j)) (g66 l (i + 1 + j))).1 := by rw [hU]; rfl
       have hd5 : (chU l i j (chR l i (chO l i) j)).2.2.2.2.2.2.2.2 = (cG (g65 l i) (g66 l i) (g65 l (i + 1 + j)) (g66 l (i + 1 + j))).2 := by rw [hU]; rfl
       have g'5 := (jn @h6 (jn @h6d g'4))
       refine aa g'5 ?_
       refine hJ1 _ _ ⟨k1 - 1, by omega, _, _, _, ⟨j + 1, by omega, rfl, rfl⟩, Abs.byG hbel [] rfl [0, 1, 2] (by decide) ?_⟩
       exact bp (jn @chR.eq_2 (jn @hc1 (jn @hc2 (jn @hc3 (jn @hd0 (jn @hd1 (jn @hd2 (jn @hd3 (jn @hd4 @hd5)))))))))
      ·have h6d := bsT h6
       have hU : chU l i j (chR l i (chO l i) j) = (chR l i (chO l i) j) := if_neg (fun q => q.elim (fun q => hk5 q) (fun q => absurd q h6d))
       have g'6 := (jn @h6 (jn @h6d g'4))
       refine aa g'6 ?_
       refine hJ1 _ _ ⟨k1 - 1, by omega, _, _, _, ⟨j + 1, by omega, rfl, rfl⟩, Abs.byG hbel [] rfl [0, 1, 2] (by decide) ?_⟩
       exact bp (jn @chR.eq_2 @hU)
     ·have h5d := bsT h5
      have hU : chU l i j (chR l i (chO l i) j) = ((i : Int), (i : Int) + 1 + (j : Int), chN l i (i + 1 + j), ey (g6 l i) (g6 l (i + 1 + j))) := if_pos (.inl h5d)
      have hc1 : (chU l i j (chR l i (chO l i) j)).1 = ((i : Nat) : Int) := by rw [hU]
      have hc2 : (chU l i j (chR l i (chO l i) j)).2.1 = ((i : Nat) : Int) + 1 + ((j : Nat) : Int) := by rw [hU]
      have hc3 : (chU l i j (chR l i (chO l i) j)).2.2.1 = (((dN ((mnI (g61 l i) (g61 l (i + 1 + j))), (mnI (g62 l i) (g62 l (i + 1 + j))), (mxI (g63 l i) (g63 l (i + 1 + j))), (mxI (g64 l i) (g64 l (i + 1 + j))), ((cG (g65 l i) (g66 l i) (g65 l (i + 1 + j)) (g66 l (i + 1 + j))).1), ((cG (g65 l i) (g66 l i) (g65 l (i + 1 + j)) (g66 l (i + 1 + j))).2))) - (dN (g6 l i))) - (dN (g6 l (i + 1 + j)))) := by rw [hU]; rfl
      have hd0 : (chU l i j (chR l i (chO l i) j)).2.2.2.1 = mnI (g61 l i) (g61 l (i + 1 + j)) := by rw [hU]; rfl
      have hd1 : (chU l i j (chR l i (chO l i) j)).2.2.2.2.1 = mnI (g62 l i) (g62 l (i + 1 + j)) := by rw [hU]; rfl
      have hd2 : (chU l i j (chR l i (chO l i) j)).2.2.2.2.2.1 = mxI (g63 l i) (g63 l (i + 1 + j)) := by rw [hU]; rfl
      have hd3 : (chU l i j (chR l i (chO l i) j)).2.2.2.2.2.2.1 = mxI (g64 l i) (g64 l (i + 1 + j)) := by rw [hU]; rfl
      have hd4 : (chU l i j (chR l i (chO l i) j)).2.2.2.2.2.2.2.1 = (cG (g65 l i) (g66 l i) (g65 l (i + 1 + j)) (g66 l (i + 1 + j))).1 := by rw [hU]; rfl
      have hd5 : (chU l i j (chR l i (chO l i) j)).2.2.2.2.2.2.2.2 = (cG (g65 l i) (g66 l i) (g65 l (i + 1 + j)) (g66 l (i + 1 + j))).2 := by rw [hU]; rfl
      have g'7 := (jn @h5 (jn @h5d g'3))
      refine aa g'7 ?_
      refine hJ1 _ _ ⟨k1 - 1, by omega, _, _, _, ⟨j + 1, by omega, rfl, rfl⟩, Abs.byG hbel [] rfl [0, 1, 2] (by decide) ?_⟩
      exact bp (jn @chR.eq_2 (jn @hc1 (jn @hc2 (jn @hc3 (jn @hd0 (jn @hd1 (jn @hd2 (jn @hd3 (jn @hd4 @hd5)))))))))
    ·have h3d := bsT h3
     obtain rfl : j = l.length - (i + 1) := by omega
     have g'8 := (jn @h3 (jn @h3d g'2))
     refine aa g'8 ?_
     refine hJ0 _ _ ⟨k0 - 1, by omega, _, _, _, ⟨i + 1, by omega, rfl, rfl⟩, Abs.byG hbel [] rfl [0, 1] (by decide) ?_⟩
     exact bp @chO.eq_2
  ·have h1d := bsT h1
   obtain rfl : i = l.length := by omega
   have g'9 := (jn @h1 (jn @h1d g'1))
   refine aa g'9 ?_
   exact hQ _ _ (ae (.inl rfl) hbel (x := .tup [.int .i64 ((chO l l.length).1), .int .i64 ((chO l l.length).2.1), .agg [.int .i64 ((chO l l.length).2.2.2.1), .int .i64 ((chO l l.length).2.2.2.2.1), .int .i64 ((chO l l.length).2.2.2.2.2.1), .int .i64 ((chO l l.length).2.2.2.2.2.2.1), .int .i64 ((chO l l.length).2.2.2.2.2.2.2.1), .int .i64 ((chO l l.length).2.2.2.2.2.2.2.2)]]) (ag Tryz.results92) rfl ⟨rfl, rfl⟩)
open Go.RowKit
theorem del_n (H : ac) (b n : Nat) (cap : Option Nat) (l : List T6) (z : Int) (hn : n = l.length) (hb : H[b]? = some (.cells true 6 (r6 l))) (h0 : 0 ≤ z) (hz : z < (l.length : Int)) : ACalls Tryz.prog 93 [.sl (some (b, 0)) n cap, .int .i64 z, .int .i64 (z + 1)] H (fun v H' => v = .sl (some (b, 0)) (l.take z.toNat ++ l.drop (z.toNat + 1)).length none ∧ H' = H.set b (.cells true 6 (r6 (l.take z.toNat ++ l.drop (z.toNat + 1)) ++ r6z))) := by
 subst hn; exact del_b H b cap l z hb h0 hz
theorem comp_c (H : ac) (s : AV) (l : List T6)  (hs : Sl H 6 s l.length (r6 l)) (hl : l.length ≤ 64) (hl0 : 0 < l.length) (hv : ∀ b ∈ l, bD b = true) : ACalls Tryz.prog 55 [s, .int .i64 16] H (fun v H' => v = .tup [.sl (some (H.length, 0)) ((cpL l).length) none, .int .i64 0] ∧ H' = H ++ [.cells true 6 (r6 (cpL l))]) := by
 obtain ⟨bs, os, cs, rfl, hbs⟩ := hs
 have hbls := getElem?_lt hbs
 have hb0s := fun l => aw (l := l) hbs
 have hny : l.any (fun b => !bD b) = false := List.any_eq_false.2 fun b hb => by rw [hv b hb]; decide
 refine AcT false Tryz.func55 ?_; intro hbel Q hQ
 have g'1 := (jn @hbs (jn @hb0s @hny))
 refine aa g'1 ?_
 refine ai (fun h1 => ?_) (fun h1 => ?_)
 ·have h1d := bsT h1
  omega
 ·have h1d := bsT h1
  have g'2 := (jn @h1 (jn @h1d g'1))
  refine aa g'2 ?_
  refine af (by kernel_rfl) (jb _ _ l ⟨_, _, _, rfl, by first | exact hb0s _ | exact hbs⟩ (by omega) _ [] (by kernel_rfl) rfl (fun b => !bD b) (fun j hj => cmp1_c _ _ _ _ _ _ _)) ?_
  refine aa g'2 ?_
  refine af (by kernel_rfl) (lP _ _ l ⟨_, _, _, rfl, by first | exact hb0s _ | exact hbs⟩ (by first | omega | (simp only [List.length_cons, List.length_nil]; omega)) (by first | omega | simp)) ?_
  refine aa g'2 ?_
  refine go_loop try_mixed (by kernel_rfl) (fun k F Hx => ∃ QQ : List T6, QQ.length = k ∧ (∀ b ∈ QQ, bD b = true) ∧ 0 < QQ.length ∧ QQ.length ≤ 64 ∧ cpI (QQ.length - 16) QQ = cpL l ∧ F = [(1, .int .i64 16), (6, .sl (some (H.length, 0)) QQ.length none)] ∧ Hx = H ++ [.cells true 6 (r6 QQ)]) (l.length) ?_ ?_
  ·refine ⟨_, _, _, ⟨l, by omega, hv, hl0, hl, rfl, rfl, rfl⟩, Abs.byG hbel [] rfl [0] (by decide) ?_⟩
   exact aM (jn @bi (jn @bj (jn @bA @bt)))
  ·rintro k0 F Hx ⟨QQ, hm0, hqv, hq0, hq6, hqc, rfl, rfl⟩ J0 hJ0
   have g'3 := (jn @bV (jn @c9 g'2))
   refine aa g'3 ?_
   refine ai (fun h2 => ?_) (fun h2 => ?_)
   ·have h2d := bsT h2
    have hgt : 16 < QQ.length := by omega
    obtain ⟨ci, cj, hci, hcj, hc1, hc2, hc3⟩ := chO_p (l := QQ) (by omega)
    have hsn := nw (l := QQ) (by omega)
    have hcs : List.take (chO QQ QQ.length).2.1.toNat (List.set QQ (chO QQ QQ.length).1.toNat ((chO QQ QQ.length).2.2.2.1, (chO QQ QQ.length).2.2.2.2.1, (chO QQ QQ.length).2.2.2.2.2.1, (chO QQ QQ.length).2.2.2.2.2.2.1, (chO QQ QQ.length).2.2.2.2.2.2.2.1, (chO QQ QQ.length).2.2.2.2.2.2.2.2)) ++ List.drop ((chO QQ QQ.length).2.1.toNat + 1) (List.set QQ (chO QQ QQ.length).1.toNat ((chO QQ QQ.length).2.2.2.1, (chO QQ QQ.length).2.2.2.2.1, (chO QQ QQ.length).2.2.2.2.2.1, (chO QQ QQ.length).2.2.2.2.2.2.1, (chO QQ QQ.length).2.2.2.2.2.2.2.1, (chO QQ QQ.length).2.2.2.2.2.2.2.2)) = cpS QQ := rfl
    have hcl : (List.take (chO QQ QQ.length).2.1.toNat (List.set QQ (chO QQ QQ.length).1.toNat ((chO QQ QQ.length).2.2.2.1, (chO QQ QQ.length).2.2.2.2.1, (chO QQ QQ.length).2.2.2.2.2.1, (chO QQ QQ.length).2.2.2.2.2.2.1, (chO QQ QQ.length).2.2.2.2.2.2.2.1, (chO QQ QQ.length).2.2.2.2.2.2.2.2))).length + (List.drop ((chO QQ QQ.length).2.1.toNat + 1) (List.set QQ (chO QQ QQ.length).1.toNat ((chO QQ QQ.length).2.2.2.1, (chO QQ QQ.length).2.2.2.2.1, (chO QQ QQ.length).2.2.2.2.2.1, (chO QQ QQ.length).2.2.2.2.2.2.1, (chO QQ QQ.length).2.2.2.2.2.2.2.1, (chO QQ QQ.length).2.2.2.2.2.2.2.2))).length = (cpS QQ).length := by rw [← List.length_append]; rfl
    have hqn : cpI ((cpS QQ).length - 16) (cpS QQ) = cpL l := by rw [hsn, ← hqc, show QQ.length - 16 = (QQ.length - 1 - 16) + 1 by omega]; rfl
    have g'4 := (jn @h2 (jn @h2d g'3))
    refine aa g'4 ?_
    refine af (by kernel_rfl) (chp_c _ _ QQ ⟨_, _, _, by first | rfl | (rw [List.length_append]; done) | (rw [List.length_append]; rfl), by first | rfl | (rw [ap]; rfl) | (rw [al]; rfl) | (rw [ap, am]; rfl) | (rw [al, am]; rfl)⟩ (by assumption) (by omega) (by omega)) ?_
    have g'5 := (jn @r6_set (jn @List.length_set.{0} g'4))
    refine aa g'5 ?_
    refine af (by kernel_rfl) (del_n _ _ _ _ (QQ.set (((chO QQ QQ.length).1).toNat) ((chO QQ QQ.length).2.2.2.1, (chO QQ QQ.length).2.2.2.2.1, (chO QQ QQ.length).2.2.2.2.2.1, (chO QQ QQ.length).2.2.2.2.2.2.1, (chO QQ QQ.length).2.2.2.2.2.2.2.1, (chO QQ QQ.length).2.2.2.2.2.2.2.2)) ((chO QQ QQ.length).2.1) (by first | rfl | exact List.length_set.symm | simp) (by first | rfl | (rw [ap]; rfl) | (rw [al]; rfl)) (by first | omega | (rw [List.length_set]; omega)) (by first | omega | (rw [List.length_set]; omega))) ?_
    refine aa g'5 ?_
    refine hJ0 _ _ ⟨k0 - 1, by omega, _, _, _, ⟨cpS QQ, by omega, cpS_ok (by omega) hqv, by omega, by omega, hqn, rfl, rfl⟩, Abs.byG hbel [] rfl [0] (by decide) ?_⟩
    exact aM (jn @hcs (jn @hcl (jn @BW_pre' (jn @bt (jn @or_true (jn @true_or (jn @bi (jn @bj @bA))))))))
   ·have h2d := bsT h2
    obtain rfl : QQ = cpL l := by rw [← hqc, show QQ.length - 16 = 0 by omega]; rfl
    have g'6 := (jn @h2 (jn @h2d g'3))
    refine aa g'6 ?_
    refine hQ _ _ (bB (.inl rfl) hbel (x1 := .tup [.sl (some (H.length, 0)) ((cpL l).length) none, .int .i64 0]) (l2 := [.cells true 6 (r6 (cpL l))]) (.tup [.sl (some (H.length, 0)) ((cpL l).length) none, .int .i64 0]) (ag Tryz.results55) [] rfl [0] (by decide) ⟨rfl, rfl⟩ ?_)
    exact bp @bt
open Go.RowKit
open Go.RowKit
theorem look_c (H : ac) (W : Int) (Hh : Int) (pp : AV) (xs : List Int) (x : Int) (y : Int) (h : Int) (m : Int) (most : Int) (hpp : Sl H 1 pp xs.length (ints .u8 xs)) (hip : inpB W Hh xs x y = true) (hm : 0 ≤ most ∧ most ≤ 1056) : ACalls Tryz.prog 83 [.agg [.int .i64 W, .int .i64 Hh, pp], .agg [.int .i64 x, .int .i64 y, .int .i64 h], .int .i64 m, .int .i64 most] H (fun v H' => v = .tup [.agg [.int .i64 (lkN W Hh xs x y h m most), .int .i64 (lkD W Hh xs x y h m most)], .bool ((lkS W Hh xs x y h m most).isSome)] ∧ H' = H) := by
 obtain ⟨bpp, opp, cpp, rfl, hbpp⟩ := hpp
 have hblpp := getElem?_lt hbpp
 have hb0pp := fun l => aw (l := l) hbpp
 (refine bT Tryz.func83 _ rfl (Nat.le_of_ble_eq_true (by kernel_rfl)) rfl ?_; intro hbel Q hQ hQ' c hc; unfold Tryz.f83 at hc; simp only [Option.some.injEq] at hc; subst hc; clear hQ')
 refine aQ fun Q1 hn1 hr1 he1 => ?_
 have hQ1 := fun F H' h => hr1 F H' (hQ F H' h)
 refine aL true try_mixed (by kernel_rfl) ?_
 have g'1 := (jn @hbpp @hb0pp)
 refine aa g'1 ?_
 refine hn1 _ _ ?_
 refine cn true try_mixed [[0, 1, 2, 3, 4, 5, 6, 7, 8, 9, 10, 11, 12, 13, 14, 15, 16, 17, 18, 19, 20], [0, 1, 2, 3, 4, 5, 6, 7, 8, 9, 10, 11, 12, 13, 14, 15, 17, 16, 18, 19, 20], [0, 1, 2, 3, 4, 5, 6, 7, 8, 9, 10, 17, 11, 12, 13, 14, 15, 16, 18, 19, 20], [0, 1, 2, 3, 4, 5, 6, 7, 8, 10, 17, 9, 11, 12, 13, 14, 15, 16, 18, 19, 20], [0, 1, 2, 3, 4, 5, 6, 7, 8, 9, 10, 16, 11, 12, 13, 14, 15, 17, 18, 19, 20], [0, 1, 2, 3, 4, 5, 6, 7, 8, 9, 10, 16, 17, 11, 12, 13, 14, 15, 18, 19, 20], [0, 1, 2, 3, 4, 5, 6, 7, 8, 9, 10, 17, 16, 11, 12, 13, 14, 15, 18, 19, 20], [0, 1, 2, 3, 4, 5, 6, 7, 8, 10, 17, 9, 16, 11, 12, 13, 14, 15, 18, 19, 20], [0, 1, 2, 3, 4, 5, 6, 7, 8, 10, 16, 9, 11, 12, 13, 14, 15, 17, 18, 19, 20], [0, 1, 2, 3, 4, 5, 6, 7, 8, 10, 16, 9, 17, 11, 12, 13, 14, 15, 18, 19, 20], [0, 1, 2, 3, 4, 5, 6, 7, 8, 10, 16, 17, 9, 11, 12, 13, 14, 15, 18, 19, 20], [0, 1, 2, 3, 4, 5, 6, 7, 8, 10, 17, 16, 9, 11, 12, 13, 14, 15, 18, 19, 20]] (by kernel_rfl) (fun F2 H2 => F2 = [(8, .ptr (some (H.length, 0))), (9, .bool false), (10, .ptr (some (H.length + 1, 0))), (12, .bool ((lkS W Hh xs x y h m most).isSome))] ∧ H2 = H ++ [.cells true 0 [.int .i64 0, .int .i64 0], .cells true 0 [.int .i64 (lkN W Hh xs x y h m most), .int .i64 (lkD W Hh xs x y h m most)]]) ?_ ?_
 ·refine aG ?_ (aG ?_ (aG ?_ (aG ?_ (aG ?_ (aG ?_ (aG ?_ (aG ?_ (aG ?_ (aG ?_ (aG ?_ (aG ?_ (cl)))))))))))) <;> intro J hJ
  ·skip
   refine aA g'1 ?_
   refine aK (by kernel_rfl) (dz _ h m) ?_
   refine aA g'1 ?_
   refine aK (by kernel_rfl) (dC _ W Hh _ xs x y h m most ⟨_, _, _, rfl, by first | exact hb0pp _ | exact hbpp⟩ hip (by omega)) ?_
   refine aA g'1 ?_
   refine aR (hJ _ _ ⟨_, _, _, ⟨rfl, rfl⟩, Abs.byG hbel [] rfl [2, 3] (by decide) ?_⟩)
   exact be
  ·skip
   refine aA g'1 ?_
   refine aK (by kernel_rfl) (dz _ h m) ?_
   refine aA g'1 ?_
   refine aK (by kernel_rfl) (dC _ W Hh _ xs x y h m most ⟨_, _, _, rfl, by first | exact hb0pp _ | exact hbpp⟩ hip (by omega)) ?_
   refine aA g'1 ?_
   refine aR (hJ _ _ ⟨_, _, _, ⟨rfl, rfl⟩, Abs.byG hbel [] rfl [2, 4] (by decide) ?_⟩)
   exact be
  ·skip
   refine aA g'1 ?_
   refine aK (by kernel_rfl) (dz _ h m) ?_
   refine aA g'1 ?_
   refine aK (by kernel_rfl) (dC _ W Hh _ xs x y h m most ⟨_, _, _, rfl, by first | exact hb0pp _ | exact hbpp⟩ hip (by omega)) ?_
   refine aA g'1 ?_
   refine aR (hJ _ _ ⟨_, _, _, ⟨rfl, rfl⟩, Abs.byG hbel [] rfl [2, 4] (by decide) ?_⟩)
   exact be
  ·skip
   refine aA g'1 ?_
   refine aK (by kernel_rfl) (dz _ h m) ?_
   refine aA g'1 ?_
   refine aK (by kernel_rfl) (dC _ W Hh _ xs x y h m most ⟨_, _, _, rfl, by first | exact hb0pp _ | exact hbpp⟩ hip (by omega)) ?_
   refine aA g'1 ?_
   refine aR (hJ _ _ ⟨_, _, _, ⟨rfl, rfl⟩, Abs.byG hbel [] rfl [2, 4] (by decide) ?_⟩)
   exact be
  ·skip
   refine aA g'1 ?_
   refine aK (by kernel_rfl) (dz _ h m) ?_
   refine aA g'1 ?_
   refine aK (by kernel_rfl) (dC _ W Hh _ xs x y h m most ⟨_, _, _, rfl, by first | exact hb0pp _ | exact hbpp⟩ hip (by omega)) ?_
   refine aA g'1 ?_
   refine aR (hJ _ _ ⟨_, _, _, ⟨rfl, rfl⟩, Abs.byG hbel [] rfl [2, 3] (by decide) ?_⟩)
   exact be
  ·skip
   refine aA g'1 ?_
   refine aK (by kernel_rfl) (dz _ h m) ?_
   refine aA g'1 ?_
   refine aK (by kernel_rfl) (dC _ W Hh _ xs x y h m most ⟨_, _, _, rfl, by first | exact hb0pp _ | exact hbpp⟩ hip (by omega)) ?_
   refine aA g'1 ?_
   refine aR (hJ _ _ ⟨_, _, _, ⟨rfl, rfl⟩, Abs.byG hbel [] rfl [2, 3] (by decide) ?_⟩)
   exact be
  ·skip
   refine aA g'1 ?_
   refine aK (by kernel_rfl) (dz _ h m) ?_
   refine aA g'1 ?_
   refine aK (by kernel_rfl) (dC _ W Hh _ xs x y h m most ⟨_, _, _, rfl, by first | exact hb0pp _ | exact hbpp⟩ hip (by omega)) ?_
   refine aA g'1 ?_
   refine aR (hJ _ _ ⟨_, _, _, ⟨rfl, rfl⟩, Abs.byG hbel [] rfl [2, 4] (by decide) ?_⟩)
   exact be
  ·skip
   refine aA g'1 ?_
   refine aK (by kernel_rfl) (dz _ h m) ?_
   refine aA g'1 ?_
   refine aK (by kernel_rfl) (dC _ W Hh _ xs x y h m most ⟨_, _, _, rfl, by first | exact hb0pp _ | exact hbpp⟩ hip (by omega)) ?_
   refine aA g'1 ?_
   refine aR (hJ _ _ ⟨_, _, _, ⟨rfl, rfl⟩, Abs.byG hbel [] rfl [2, 4] (by decide) ?_⟩)
   exact be
  ·skip
   refine aA g'1 ?_
   refine aK (by kernel_rfl) (dz _ h m) ?_
   refine aA g'1 ?_
   refine aK (by kernel_rfl) (dC _ W Hh _ xs x y h m most ⟨_, _, _, rfl, by first | exact hb0pp _ | exact hbpp⟩ hip (by omega)) ?_
   refine aA g'1 ?_
   refine aR (hJ _ _ ⟨_, _, _, ⟨rfl, rfl⟩, Abs.byG hbel [] rfl [2, 3] (by decide) ?_⟩)
   exact be
  ·skip
   refine aA g'1 ?_
   refine aK (by kernel_rfl) (dz _ h m) ?_
   refine aA g'1 ?_
   refine aK (by kernel_rfl) (dC _ W Hh _ xs x y h m most ⟨_, _, _, rfl, by first | exact hb0pp _ | exact hbpp⟩ hip (by omega)) ?_
   refine aA g'1 ?_
   refine aR (hJ _ _ ⟨_, _, _, ⟨rfl, rfl⟩, Abs.byG hbel [] rfl [2, 3] (by decide) ?_⟩)
   exact be
  ·skip
   refine aA g'1 ?_
   refine aK (by kernel_rfl) (dz _ h m) ?_
   refine aA g'1 ?_
   refine aK (by kernel_rfl) (dC _ W Hh _ xs x y h m most ⟨_, _, _, rfl, by first | exact hb0pp _ | exact hbpp⟩ hip (by omega)) ?_
   refine aA g'1 ?_
   refine aR (hJ _ _ ⟨_, _, _, ⟨rfl, rfl⟩, Abs.byG hbel [] rfl [2, 3] (by decide) ?_⟩)
   exact be
  ·skip
   refine aA g'1 ?_
   refine aK (by kernel_rfl) (dz _ h m) ?_
   refine aA g'1 ?_
   refine aK (by kernel_rfl) (dC _ W Hh _ xs x y h m most ⟨_, _, _, rfl, by first | exact hb0pp _ | exact hbpp⟩ hip (by omega)) ?_
   refine aA g'1 ?_
   refine aR (hJ _ _ ⟨_, _, _, ⟨rfl, rfl⟩, Abs.byG hbel [] rfl [2, 4] (by decide) ?_⟩)
   exact be
 rintro F2 H2 ⟨rfl, rfl⟩
 refine aL true try_mixed (by kernel_rfl) ?_
 refine aa g'1 ?_
 exact hQ _ _ (ae (.inl rfl) hbel (x := .tup [.agg [.int .i64 (lkN W Hh xs x y h m most), .int .i64 (lkD W Hh xs x y h m most)], .bool ((lkS W Hh xs x y h m most).isSome)]) (ag Tryz.results83) rfl ⟨rfl, rfl⟩)
open Go.RowKit
theorem learnT_c (H : ac) (W Hh : Int) (pp : AV) (xs : List Int) (s : AV) (l : List T6) (q : AV) (sc : List (Int × Int)) (g : Int) (o : List Int) (hpp : Sl H 1 pp xs.length (ints .u8 xs)) (hs : Sl H 6 s l.length (r6 l)) (hq : Sl H 2 q sc.length (prs sc)) (hR : db W Hh xs l sc g = true) (ho : lnO W Hh xs l sc g = some o) :
  ACalls Tryz.prog 56 [.agg [.int .i64 W, .int .i64 Hh, pp], s, q, .int .i64 g] H (fun v H' => v = .tup [.agg [.int .i64 W, .int .i64 Hh, .sl (some (H.length, 0)) o.length none], .int .i64 0] ∧ H' = H ++ [.cells (bm o.length) 1 (ints .u8 o)]) := by
 obtain ⟨hV, hl0, hS, hsB, hg⟩ := e7.1 hR
 have k := learn_c H W Hh pp xs s l q sc g hpp hs hq (by have := gc hS; omega) (by have := (da.1 hsB).1; omega)
 obtain ⟨e1, e2, e3, e4⟩ := ln_0 hR ho
 rw [e1, e2, e3, e4] at k
 exact k
open Go.RowKit
theorem wh (H : ac) (W Hh : Int) (pp : AV) (xs : List Int) (s : AV) (l : List T6) (q : AV) (sc : List (Int × Int)) (g : Int) (o : List Int) (hpp : Sl H 1 pp xs.length (ints .u8 xs)) (hs : Sl H 6 s l.length (r6 l)) (hq : Sl H 2 q sc.length (prs sc)) (hR : db W Hh xs l sc g = true) (ho : lnO W Hh xs l sc g = some o) (h0 : 0 < o.length) :
  ACalls Tryz.prog 56 [.agg [.int .i64 W, .int .i64 Hh, pp], s, q, .int .i64 g] H (fun v H' => v = .tup [.agg [.int .i64 W, .int .i64 Hh, .sl (some (H.length, 0)) o.length none], .int .i64 0] ∧ H' = H ++ [.cells true 1 (ints .u8 o)]) := by
 have k := learnT_c H W Hh pp xs s l q sc g o hpp hs hq hR ho
 rw [ec h0] at k
 exact k
theorem lse_a (H : ac) (W : Int) (Hh : Int) (pp : AV) (xs : List Int) (s : AV) (l : List T6) (tu : Int) (le : Int) (sl : Int) (ra : Int) (lost : Bool) (bz : Nat) (q : AV) (sc : List (Int × Int)) (hpp : Sl H 1 pp xs.length (ints .u8 xs)) (hs : Sl H 6 s l.length (r6 l)) (hz : ∃ o, H[bz]? = some (.cells o 0 [.int .i64 W, .int .i64 Hh, pp, s, .int .i64 tu, .int .i64 le, .int .i64 sl, .int .i64 ra, .bool lost])) (hq : Sl H 2 q sc.length (prs sc)) (hsl : sc.length ≤ 1000000000) (hsB : ct sc = false) : ACalls Tryz.prog 18 [.ptr (some (bz, 0)), q] H (fun v H' => v = .int .i64 1 ∧ H' = H) := by
 obtain ⟨bpp, opp, cpp, rfl, hbpp⟩ := hpp
 have hblpp := getElem?_lt hbpp
 have hb0pp := fun l => aw (l := l) hbpp
 obtain ⟨bs, os, cs, rfl, hbs⟩ := hs
 have hbls := getElem?_lt hbs
 have hb0s := fun l => aw (l := l) hbs
 obtain ⟨bq, oq, cq, rfl, hbq⟩ := hq
 have hblq := getElem?_lt hbq
 have hb0q := fun l => aw (l := l) hbq
 obtain ⟨oz, hbz⟩ := hz
 have hblz := getElem?_lt hbz
 have hb0z := fun l => aw (l := l) hbz
 (refine bT Tryz.func18 _ rfl (Nat.le_of_ble_eq_true (by kernel_rfl)) rfl ?_; intro hbel Q hQ hQ' c hc; unfold Tryz.f18 at hc; simp only [Option.some.injEq] at hc; subst hc; clear hQ')
 refine aQ fun Q1 hn1 hr1 he1 => ?_
 have hQ1 := fun F H' h => hr1 F H' (hQ F H' h)
 refine aL true try_mixed (by kernel_rfl) ?_
 simp -implicitDefEqProofs (disch := omega) only [hbpp, hb0pp, hbs, hb0s, hbq, hb0q, hbz, hb0z, hsB, Option.isNone_some.{0}, aO, aH, aI, aP, simprocAttr, aB, aC, Function.comp_apply, one1, lenV, ak, ar, au, aop, AV.ofValue, AV.ofCell, AV.cells, AV.flat, AV.one, arep, aN, az]
 repeat refine And.intro (by omega) ?_
 refine hn1 _ _ ?_
 refine aQ fun Q2 hn2 hr2 he2 => ?_
 have hQ2 := fun F H' h => hr2 F H' (hQ F H' h)
 refine aL true try_mixed (by kernel_rfl) ?_
 simp -implicitDefEqProofs (disch := omega) only [hbpp, hb0pp, hbs, hb0s, hbq, hb0q, hbz, hb0z, hsB, Option.isNone_some.{0}, aO, aH, aI, aP, simprocAttr, aB, aC, Function.comp_apply, one1, lenV, ak, ar, au, aop, AV.ofValue, AV.ofCell, AV.cells, AV.flat, AV.one, arep, aN, az]
 repeat refine And.intro (by omega) ?_
 refine af (by kernel_rfl) (iE _ _ sc ⟨_, _, _, rfl, by first | exact hb0q _ | exact hbq⟩ (by omega)) ?_
 simp -implicitDefEqProofs (disch := omega) only [hbpp, hb0pp, hbs, hb0s, hbq, hb0q, hbz, hb0z, hsB, Option.isNone_some.{0}, aO, aH, aI, aP, simprocAttr, aB, aC, Function.comp_apply, one1, lenV, ak, ar, au, aop, AV.ofValue, AV.ofCell, AV.cells, AV.flat, AV.one, arep, aN, az]
 repeat refine And.intro (by omega) ?_
 exact hQ2 _ _ (aF (.inl rfl) hbel (x := .int .i64 1) (ag Tryz.results18) rfl ⟨rfl, rfl⟩)
theorem lse_s (H : ac) (W : Int) (Hh : Int) (pp : AV) (xs : List Int) (s : AV) (l : List T6) (tu : Int) (le : Int) (sl : Int) (ra : Int)  (bz : Nat) (q : AV) (sc : List (Int × Int)) (hpp : Sl H 1 pp xs.length (ints .u8 xs)) (hs : Sl H 6 s l.length (r6 l)) (hz : ∃ o, H[bz]? = some (.cells o 0 [.int .i64 W, .int .i64 Hh, pp, s, .int .i64 tu, .int .i64 le, .int .i64 sl, .int .i64 ra, .bool true])) (hq : Sl H 2 q sc.length (prs sc)) (hsl : sc.length ≤ 1000000000) (hsB : ct sc = true) : ACalls Tryz.prog 18 [.ptr (some (bz, 0)), q] H (fun v H' => v = .int .i64 9 ∧ H' = H) := by
 obtain ⟨bpp, opp, cpp, rfl, hbpp⟩ := hpp
 have hblpp := getElem?_lt hbpp
 have hb0pp := fun l => aw (l := l) hbpp
 obtain ⟨bs, os, cs, rfl, hbs⟩ := hs
 have hbls := getElem?_lt hbs
 have hb0s := fun l => aw (l := l) hbs
 obtain ⟨bq, oq, cq, rfl, hbq⟩ := hq
 have hblq := getElem?_lt hbq
 have hb0q := fun l => aw (l := l) hbq
 obtain ⟨oz, hbz⟩ := hz
 have hblz := getElem?_lt hbz
 have hb0z := fun l => aw (l := l) hbz
 (refine bT Tryz.func18 _ rfl (Nat.le_of_ble_eq_true (by kernel_rfl)) rfl ?_; intro hbel Q hQ hQ' c hc; unfold Tryz.f18 at hc; simp only [Option.some.injEq] at hc; subst hc; clear hQ')
 refine aQ fun Q3 hn3 hr3 he3 => ?_
 have hQ3 := fun F H' h => hr3 F H' (hQ F H' h)
 refine aL true try_mixed (by kernel_rfl) ?_
 simp -implicitDefEqProofs (disch := omega) only [hbpp, hb0pp, hbs, hb0s, hbq, hb0q, hbz, hb0z, hsB, Option.isNone_some.{0}, aO, aH, aI, aP, simprocAttr, aB, aC, Function.comp_apply, one1, lenV, ak, ar, au, aop, AV.ofValue, AV.ofCell, AV.cells, AV.flat, AV.one, arep, aN, az]
 repeat refine And.intro (by omega) ?_
 refine hn3 _ _ ?_
 refine aQ fun Q4 hn4 hr4 he4 => ?_
 have hQ4 := fun F H' h => hr4 F H' (hQ F H' h)
 refine aL true try_mixed (by kernel_rfl) ?_
 simp -implicitDefEqProofs (disch := omega) only [hbpp, hb0pp, hbs, hb0s, hbq, hb0q, hbz, hb0z, hsB, Option.isNone_some.{0}, aO, aH, aI, aP, simprocAttr, aB, aC, Function.comp_apply, one1, lenV, ak, ar, au, aop, AV.ofValue, AV.ofCell, AV.cells, AV.flat, AV.one, arep, aN, az]
 repeat refine And.intro (by omega) ?_
 refine af (by kernel_rfl) (iE _ _ sc ⟨_, _, _, rfl, by first | exact hb0q _ | exact hbq⟩ (by omega)) ?_
 simp -implicitDefEqProofs (disch := omega) only [hbpp, hb0pp, hbs, hb0s, hbq, hb0q, hbz, hb0z, hsB, Option.isNone_some.{0}, aO, aH, aI, aP, simprocAttr, aB, aC, Function.comp_apply, one1, lenV, ak, ar, au, aop, AV.ofValue, AV.ofCell, AV.cells, AV.flat, AV.one, arep, aN, az]
 repeat refine And.intro (by omega) ?_
 exact hQ4 _ _ (aF (.inl rfl) hbel (x := .int .i64 9) (ag Tryz.results18) rfl ⟨rfl, rfl⟩)
theorem lse_e (H : ac) (W : Int) (Hh : Int) (pp : AV) (xs : List Int) (s : AV) (l : List T6) (tu : Int) (le : Int) (sl : Int) (ra : Int)  (bz : Nat) (q : AV) (sc : List (Int × Int)) (hpp : Sl H 1 pp xs.length (ints .u8 xs)) (hs : Sl H 6 s l.length (r6 l)) (hz : H[bz]? = some (.cells true 0 [.int .i64 W, .int .i64 Hh, pp, s, .int .i64 tu, .int .i64 le, .int .i64 sl, .int .i64 ra, .bool false])) (hq : Sl H 2 q sc.length (prs sc)) (hV : bW W Hh xs = true) (hS : bP l = true) (hl0 : 0 < l.length) (hsB : ct sc = true) (hg : 1 ≤ ra ∧ ra ≤ 32) (hRn : (bE W Hh xs l sc ra 32).length = 0) : ACalls Tryz.prog 18 [.ptr (some (bz, 0)), q] H (fun v H' => v = .int .i64 12 ∧ H' = H.set bz (.cells true 0 [.int .i64 W, .int .i64 Hh, pp, s, .int .i64 tu, .int .i64 le, .int .i64 sl, .int .i64 ra, .bool true])) := by
 obtain ⟨bpp, opp, cpp, rfl, hbpp⟩ := hpp
 have hblpp := getElem?_lt hbpp
 have hb0pp := fun l => aw (l := l) hbpp
 obtain ⟨bs, os, cs, rfl, hbs⟩ := hs
 have hbls := getElem?_lt hbs
 have hb0s := fun l => aw (l := l) hbs
 obtain ⟨bq, oq, cq, rfl, hbq⟩ := hq
 have hblq := getElem?_lt hbq
 have hb0q := fun l => aw (l := l) hbq
 have hbz := hz
 have hblz := getElem?_lt hbz
 have hb0z := fun l => aw (l := l) hbz
 have hVV := bM.1 hV
 have hSS := bU.1 hS
 have hss := da.1 hsB
 have hsc9 := hss.1
 have hx6 : xs.length ≤ 1000000 := by have h4 := hVV.len; have := Int.mul_le_mul hVV.w1 hVV.h1 (by have := hVV.h0; omega) (by decide); omega
 have hok : (∀ b ∈ bE W Hh xs l sc ra 32, bD b = true) ∧ (bE W Hh xs l sc ra 32).length ≤ l.length + 32 + ([] : List T6).length := gD (xs := xs) (s := sc) (g := ra) ⟨hVV.w0, hVV.w1⟩ ⟨hVV.h0, hVV.h1⟩ (l.length + 2 * 32) l 32 [] rfl hSS.2 (fun b hb => by cases hb)
 have hR6 : (bE W Hh xs l sc ra 32).length ≤ 64 := by have h1 := hok.2; simp only [List.length_nil] at h1; have h2 := hSS.1; omega
 have hRv := hok.1
 (refine bT Tryz.func18 _ rfl (Nat.le_of_ble_eq_true (by kernel_rfl)) rfl ?_; intro hbel Q hQ hQ' c hc; unfold Tryz.f18 at hc; simp only [Option.some.injEq] at hc; subst hc; clear hQ')
 refine aQ fun Q5 hn5 hr5 he5 => ?_
 have hQ5 := fun F H' h => hr5 F H' (hQ F H' h)
 refine aL false try_mixed (by kernel_rfl) ?_
 simp -implicitDefEqProofs (disch := omega) only [hbpp, hb0pp, hbs, hb0s, hbq, hb0q, hbz, hb0z, hsB, Option.isNone_some.{0}, aO, aH, aI, aP, simprocAttr, aB, aC, Function.comp_apply, one1, lenV, ak, ar, au, aop, AV.ofValue, AV.ofCell, AV.cells, AV.flat, AV.one, arep, aN, az]
 repeat refine And.intro (by omega) ?_
 refine hn5 _ _ ?_
 refine aQ fun Q6 hn6 hr6 he6 => ?_
 have hQ6 := fun F H' h => hr6 F H' (hQ F H' h)
 refine aL false try_mixed (by kernel_rfl) ?_
 simp -implicitDefEqProofs (disch := omega) only [hbpp, hb0pp, hbs, hb0s, hbq, hb0q, hbz, hb0z, hsB, Option.isNone_some.{0}, aO, aH, aI, aP, simprocAttr, aB, aC, Function.comp_apply, one1, lenV, ak, ar, au, aop, AV.ofValue, AV.ofCell, AV.cells, AV.flat, AV.one, arep, aN, az]
 repeat refine And.intro (by omega) ?_
 refine af (by kernel_rfl) (iE _ _ sc ⟨_, _, _, rfl, by first | exact hb0q _ | exact hbq⟩ (by omega)) ?_
 simp -implicitDefEqProofs (disch := omega) only [hbpp, hb0pp, hbs, hb0s, hbq, hb0q, hbz, hb0z, hsB, Option.isNone_some.{0}, aO, aH, aI, aP, simprocAttr, aB, aC, Function.comp_apply, one1, lenV, ak, ar, au, aop, AV.ofValue, AV.ofCell, AV.cells, AV.flat, AV.one, arep, aN, az]
 repeat refine And.intro (by omega) ?_
 refine hn6 _ _ ?_
 refine aQ fun Q7 hn7 hr7 he7 => ?_
 have hQ7 := fun F H' h => hr7 F H' (hQ F H' h)
 refine aL false try_mixed (by kernel_rfl) ?_
 simp -implicitDefEqProofs (disch := omega) only [hbpp, hb0pp, hbs, hb0s, hbq, hb0q, hbz, hb0z, hsB, Option.isNone_some.{0}, aO, aH, aI, aP, simprocAttr, aB, aC, Function.comp_apply, one1, lenV, ak, ar, au, aop, AV.ofValue, AV.ofCell, AV.cells, AV.flat, AV.one, arep, aN, az]
 repeat refine And.intro (by omega) ?_
 refine cg (by kernel_rfl) (by simp) (lR _ W Hh _ xs _ l _ sc ra 32 ⟨_, _, _, rfl, by first | exact hb0pp _ | exact hbpp⟩ ⟨_, _, _, rfl, by first | exact hb0s _ | exact hbs⟩ ⟨_, _, _, rfl, by first | exact hb0q _ | exact hbq⟩ (by assumption) (by assumption) (by assumption) (by assumption) (by assumption) (by omega)) ?_
 simp -implicitDefEqProofs (disch := omega) only [hbpp, hb0pp, hbs, hb0s, hbq, hb0q, hbz, hb0z, hsB, Option.isNone_some.{0}, aO, aH, aI, aP, simprocAttr, aB, aC, Function.comp_apply, one1, lenV, ak, ar, au, aop, AV.ofValue, AV.ofCell, AV.cells, AV.flat, AV.one, arep, aN, az]
 repeat refine And.intro (by omega) ?_
 refine hn7 _ _ ?_
 refine aQ fun Q8 hn8 hr8 he8 => ?_
 have hQ8 := fun F H' h => hr8 F H' (hQ F H' h)
 refine aL false try_mixed (by kernel_rfl) ?_
 simp -implicitDefEqProofs (disch := omega) only [hbpp, hb0pp, hbs, hb0s, hbq, hb0q, hbz, hb0z, hsB, Option.isNone_some.{0}, aO, aH, aI, aP, simprocAttr, aB, aC, Function.comp_apply, one1, lenV, ak, ar, au, aop, AV.ofValue, AV.ofCell, AV.cells, AV.flat, AV.one, arep, aN, az]
 repeat refine And.intro (by omega) ?_
 refine ai (fun h1 => ?_) (fun h1 => ?_)
 ·have h1d := bsT h1
  have h1n := bnT h1
  simp -implicitDefEqProofs (disch := omega) only [hbpp, hb0pp, hbs, hb0s, hbq, hb0q, hbz, hb0z, h1, h1n, aU, aT, hblz, fD, gn, ii, gp, iF, jh, iG, ji, List.length_set, List.set_set, hsB, Option.isNone_some.{0}, aO, aH, aI, aP, simprocAttr, aB, aC, Function.comp_apply, one1, lenV, ak, ar, au, aop, AV.ofValue, AV.ofCell, AV.cells, AV.flat, AV.one, arep, aN, az]
  repeat refine And.intro (by omega) ?_
  refine hQ8 _ _ (kV (b1 := .cells true 0 [.int .i64 W, .int .i64 Hh, .sl (some (bpp, 0)) xs.length cpp, .sl (some (bs, 0)) l.length cs, .int .i64 tu, .int .i64 le, .int .i64 sl, .int .i64 ra, .bool true]) (.cells true 0 [.int .i64 W, .int .i64 Hh, .sl (some (bpp, 0)) xs.length cpp, .sl (some (bs, 0)) l.length cs, .int .i64 tu, .int .i64 le, .int .i64 sl, .int .i64 ra, .bool true]) (l1 := [.cells (bm (bE W Hh xs l sc ra 32).length) 6 (r6 (bE W Hh xs l sc ra 32))]) (l2 := []) (.inl rfl) hbel hblz (by first | rfl | simp) (x1 := .int .i64 12) (.int .i64 12) (ag Tryz.results18) [] rfl [] (by decide) ⟨rfl, List.append_nil _⟩ ?_)
  exact bp (jn @hblpp (jn @hbls (jn @hblz @hblq)))
 ·have h1d := bsT h1
  have h1n := bnT h1
  simp [hRn] at h1d
open Go.RowKit
theorem wi (H : ac) (W Hh : Int) (pp : AV) (xs : List Int) (s : AV) (l : List T6) (q : AV) (sc : List (Int × Int)) (g : Int) (hpp : Sl H 1 pp xs.length (ints .u8 xs)) (hs : Sl H 6 s l.length (r6 l)) (hq : Sl H 2 q sc.length (prs sc)) (hR : db W Hh xs l sc g = true) (ho : lnO W Hh xs l sc g = none) :
  ACalls Tryz.prog 56 [.agg [.int .i64 W, .int .i64 Hh, pp], s, q, .int .i64 g] H (fun v H' => v = .tup [.agg [.int .i64 0, .int .i64 0, .sl (some (H.length, 0)) ([] : List Int).length none], .int .i64 11] ∧ H' = H ++ [.cells (bm ([] : List Int).length) 1 (ints .u8 ([] : List Int))]) := by
 obtain ⟨hV, hl0, hS, hsB, hg⟩ := e7.1 hR
 have k := learn_c H W Hh pp xs s l q sc g hpp hs hq (by have := gc hS; omega) (by have := (da.1 hsB).1; omega)
 have e1 : lnE W Hh xs l sc g = 11 := by unfold lnE; rw [if_pos hR, ho]
 have e2 : lnX W Hh xs l sc g = [] := by unfold lnX; rw [if_pos hR, ho]; rfl
 have e3 : ∀ n, lnZ W Hh xs l sc g n = 0 := fun n => if_neg (by rw [e1]; decide)
 rw [e1, e2, e3, e3] at k
 exact k
theorem lse_l (H : ac) (W : Int) (Hh : Int) (pp : AV) (xs : List Int) (s : AV) (l : List T6) (tu : Int) (le : Int) (sl : Int) (ra : Int)  (bz : Nat) (q : AV) (sc : List (Int × Int)) (hpp : Sl H 1 pp xs.length (ints .u8 xs)) (hs : Sl H 6 s l.length (r6 l)) (hz : H[bz]? = some (.cells true 0 [.int .i64 W, .int .i64 Hh, pp, s, .int .i64 tu, .int .i64 le, .int .i64 sl, .int .i64 ra, .bool false])) (hq : Sl H 2 q sc.length (prs sc)) (hV : bW W Hh xs = true) (hS : bP l = true) (hl0 : 0 < l.length) (hsB : ct sc = true) (hg : 1 ≤ ra ∧ ra ≤ 32) (hR0 : 0 < (bE W Hh xs l sc ra 32).length) (ho : lnO W Hh xs (cpL (bE W Hh xs l sc ra 32)) sc ra = none) : ACalls Tryz.prog 18 [.ptr (some (bz, 0)), q] H (fun v H' => v = .int .i64 11 ∧ H' = H.set bz (.cells true 0 [.int .i64 W, .int .i64 Hh, pp, s, .int .i64 tu, .int .i64 le, .int .i64 sl, .int .i64 ra, .bool true])) := by
 obtain ⟨bpp, opp, cpp, rfl, hbpp⟩ := hpp
 have hblpp := getElem?_lt hbpp
 have hb0pp := fun l => aw (l := l) hbpp
 obtain ⟨bs, os, cs, rfl, hbs⟩ := hs
 have hbls := getElem?_lt hbs
 have hb0s := fun l => aw (l := l) hbs
 obtain ⟨bq, oq, cq, rfl, hbq⟩ := hq
 have hblq := getElem?_lt hbq
 have hb0q := fun l => aw (l := l) hbq
 have hbz := hz
 have hblz := getElem?_lt hbz
 have hb0z := fun l => aw (l := l) hbz
 have hVV := bM.1 hV
 have hSS := bU.1 hS
 have hss := da.1 hsB
 have hsc9 := hss.1
 have hx6 : xs.length ≤ 1000000 := by have h4 := hVV.len; have := Int.mul_le_mul hVV.w1 hVV.h1 (by have := hVV.h0; omega) (by decide); omega
 have hok : (∀ b ∈ bE W Hh xs l sc ra 32, bD b = true) ∧ (bE W Hh xs l sc ra 32).length ≤ l.length + 32 + ([] : List T6).length := gD (xs := xs) (s := sc) (g := ra) ⟨hVV.w0, hVV.w1⟩ ⟨hVV.h0, hVV.h1⟩ (l.length + 2 * 32) l 32 [] rfl hSS.2 (fun b hb => by cases hb)
 have hR6 : (bE W Hh xs l sc ra 32).length ≤ 64 := by have h1 := hok.2; simp only [List.length_nil] at h1; have h2 := hSS.1; omega
 have hRv := hok.1
 have hcp := mZ hR0 hRv
 have hcS := hcp.1
 have hc0 := hcp.2
 have hc16 := (bU.1 hcS).1
 have hRg : db W Hh xs (cpL (bE W Hh xs l sc ra 32)) sc ra = true := e7.2 ⟨hV, hc0, hcS, hsB, hg⟩
 (refine bT Tryz.func18 _ rfl (Nat.le_of_ble_eq_true (by kernel_rfl)) rfl ?_; intro hbel Q hQ hQ' c hc; unfold Tryz.f18 at hc; simp only [Option.some.injEq] at hc; subst hc; clear hQ')
 refine aQ fun Q1 hn1 hr1 he1 => ?_
 have hQ1 := fun F H' h => hr1 F H' (hQ F H' h)
 refine aL false try_mixed (by kernel_rfl) ?_
 simp -implicitDefEqProofs (disch := omega) only [hbpp, hb0pp, hbs, hb0s, hbq, hb0q, hbz, hb0z, hsB, Option.isNone_some.{0}, aO, aH, aI, aP, simprocAttr, aB, aC, Function.comp_apply, one1, lenV, ak, ar, au, aop, AV.ofValue, AV.ofCell, AV.cells, AV.flat, AV.one, arep, aN, az]
 repeat refine And.intro (by omega) ?_
 refine hn1 _ _ ?_
 refine aQ fun Q2 hn2 hr2 he2 => ?_
 have hQ2 := fun F H' h => hr2 F H' (hQ F H' h)
 refine aL false try_mixed (by kernel_rfl) ?_
 simp -implicitDefEqProofs (disch := omega) only [hbpp, hb0pp, hbs, hb0s, hbq, hb0q, hbz, hb0z, hsB, Option.isNone_some.{0}, aO, aH, aI, aP, simprocAttr, aB, aC, Function.comp_apply, one1, lenV, ak, ar, au, aop, AV.ofValue, AV.ofCell, AV.cells, AV.flat, AV.one, arep, aN, az]
 repeat refine And.intro (by omega) ?_
 refine af (by kernel_rfl) (iE _ _ sc ⟨_, _, _, rfl, by first | exact hb0q _ | exact hbq⟩ (by omega)) ?_
 simp -implicitDefEqProofs (disch := omega) only [hbpp, hb0pp, hbs, hb0s, hbq, hb0q, hbz, hb0z, hsB, Option.isNone_some.{0}, aO, aH, aI, aP, simprocAttr, aB, aC, Function.comp_apply, one1, lenV, ak, ar, au, aop, AV.ofValue, AV.ofCell, AV.cells, AV.flat, AV.one, arep, aN, az]
 repeat refine And.intro (by omega) ?_
 refine hn2 _ _ ?_
 refine aQ fun Q3 hn3 hr3 he3 => ?_
 have hQ3 := fun F H' h => hr3 F H' (hQ F H' h)
 refine aL false try_mixed (by kernel_rfl) ?_
 simp -implicitDefEqProofs (disch := omega) only [hbpp, hb0pp, hbs, hb0s, hbq, hb0q, hbz, hb0z, hsB, Option.isNone_some.{0}, aO, aH, aI, aP, simprocAttr, aB, aC, Function.comp_apply, one1, lenV, ak, ar, au, aop, AV.ofValue, AV.ofCell, AV.cells, AV.flat, AV.one, arep, aN, az]
 repeat refine And.intro (by omega) ?_
 refine cg (by kernel_rfl) (by simp) (lR _ W Hh _ xs _ l _ sc ra 32 ⟨_, _, _, rfl, by first | exact hb0pp _ | exact hbpp⟩ ⟨_, _, _, rfl, by first | exact hb0s _ | exact hbs⟩ ⟨_, _, _, rfl, by first | exact hb0q _ | exact hbq⟩ (by assumption) (by assumption) (by assumption) (by assumption) (by assumption) (by omega)) ?_
 simp -implicitDefEqProofs (disch := omega) only [hbpp, hb0pp, hbs, hb0s, hbq, hb0q, hbz, hb0z, hsB, Option.isNone_some.{0}, aO, aH, aI, aP, simprocAttr, aB, aC, Function.comp_apply, one1, lenV, ak, ar, au, aop, AV.ofValue, AV.ofCell, AV.cells, AV.flat, AV.one, arep, aN, az]
 repeat refine And.intro (by omega) ?_
 refine hn3 _ _ ?_
 refine aQ fun Q4 hn4 hr4 he4 => ?_
 have hQ4 := fun F H' h => hr4 F H' (hQ F H' h)
 refine aL false try_mixed (by kernel_rfl) ?_
 simp -implicitDefEqProofs (disch := omega) only [hbpp, hb0pp, hbs, hb0s, hbq, hb0q, hbz, hb0z, hsB, Option.isNone_some.{0}, aO, aH, aI, aP, simprocAttr, aB, aC, Function.comp_apply, one1, lenV, ak, ar, au, aop, AV.ofValue, AV.ofCell, AV.cells, AV.flat, AV.one, arep, aN, az]
 repeat refine And.intro (by omega) ?_
 refine ai (fun h1 => ?_) (fun h1 => ?_)
 ·have h1d := bsT h1
  have h1n := bnT h1
  omega
 ·have h1d := bsT h1
  have h1n := bnT h1
  simp -implicitDefEqProofs (disch := omega) only [hbpp, hb0pp, hbs, hb0s, hbq, hb0q, hbz, hb0z, h1, h1n, aU, aT, hsB, Option.isNone_some.{0}, aO, aH, aI, aP, simprocAttr, aB, aC, Function.comp_apply, one1, lenV, ak, ar, au, aop, AV.ofValue, AV.ofCell, AV.cells, AV.flat, AV.one, arep, aN, az]
  repeat refine And.intro (by omega) ?_
  refine hn4 _ _ ?_
  refine aQ fun Q5 hn5 hr5 he5 => ?_
  have hQ5 := fun F H' h => hr5 F H' (hQ F H' h)
  refine aL false try_mixed (by kernel_rfl) ?_
  simp -implicitDefEqProofs (disch := omega) only [hbpp, hb0pp, hbs, hb0s, hbq, hb0q, hbz, hb0z, h1, h1n, aU, aT, hsB, Option.isNone_some.{0}, aO, aH, aI, aP, simprocAttr, aB, aC, Function.comp_apply, one1, lenV, ak, ar, au, aop, AV.ofValue, AV.ofCell, AV.cells, AV.flat, AV.one, arep, aN, az]
  repeat refine And.intro (by omega) ?_
  refine af (by kernel_rfl) (comp_c _ _ (bE W Hh xs l sc ra 32) ⟨_, _, _, by first | rfl | (rw [List.length_append]; done) | (rw [List.length_append]; rfl), by first | rfl | (rw [ap]; rfl) | (rw [al]; rfl) | (rw [ap, am]; rfl) | (rw [al, am]; rfl)⟩ (by omega) (by assumption) (by assumption)) ?_
  simp -implicitDefEqProofs (disch := omega) only [hbpp, hb0pp, hbs, hb0s, hbq, hb0q, hbz, hb0z, h1, h1n, aU, aT, hsB, Option.isNone_some.{0}, aO, aH, aI, aP, simprocAttr, aB, aC, Function.comp_apply, one1, lenV, ak, ar, au, aop, AV.ofValue, AV.ofCell, AV.cells, AV.flat, AV.one, arep, aN, az]
  repeat refine And.intro (by omega) ?_
  refine hn5 _ _ ?_
  refine cn false try_mixed [[0, 1, 2, 3, 4, 5, 6, 7, 8, 9, 10, 11, 12, 13, 14, 15, 16, 17], [0, 1, 2, 3, 4, 5, 6, 7, 8, 9, 10, 15, 11, 12, 13, 14, 16, 17]] (by kernel_rfl) (fun F2 H2 => F2 = [(0, .ptr (some (bz, 0))), (4, .int .i64 0), (5, .sl (some (H.length, 0)) ((cpL (bE W Hh xs l sc ra 32)).length) none), (7, .ptr (some (H.length + 2, 0))), (8, .int .i64 11)] ∧ H2 = H ++ [.cells true 6 (r6 (cpL (bE W Hh xs l sc ra 32))), .cells (bm ([] : List Int).length) 1 (ints .u8 ([] : List Int)), .cells true 0 [.int .i64 0, .int .i64 0, .sl (some (H.length + 1, 0)) (([] : List Int).length) none]]) ?_ ?_
  ·refine aG ?_ (aG ?_ (cl)) <;> intro J hJ
   ·skip
    simp -implicitDefEqProofs (disch := omega) only [hbpp, hb0pp, hbs, hb0s, hbq, hb0q, hbz, hb0z, h1, h1n, aU, aT, dO, hsB, Option.isNone_some.{0}, aO, aH, aI, aP, simprocAttr, aB, aC, Function.comp_apply, one1, lenV, ak, ar, au, aop, AV.ofValue, AV.ofCell, AV.cells, AV.flat, AV.one, arep, aN, az]
    repeat refine And.intro (by omega) ?_
    refine cg (by kernel_rfl) (by simp) (wi _ W Hh _ xs _ (cpL (bE W Hh xs l sc ra 32)) _ sc ra ⟨_, _, _, rfl, by first | exact hb0pp _ | exact hbpp⟩ ⟨_, _, _, by first | rfl | (rw [List.length_append]; done) | (rw [List.length_append]; rfl), by first | rfl | (rw [ap]; rfl) | (rw [al]; rfl) | (rw [ap, am]; rfl) | (rw [al, am]; rfl)⟩ ⟨_, _, _, rfl, by first | exact hb0q _ | exact hbq⟩ (by assumption) (by assumption)) ?_
    simp -implicitDefEqProofs (disch := omega) only [hbpp, hb0pp, hbs, hb0s, hbq, hb0q, hbz, hb0z, h1, h1n, aU, aT, dO, hsB, Option.isNone_some.{0}, aO, aH, aI, aP, simprocAttr, aB, aC, Function.comp_apply, one1, lenV, ak, ar, au, aop, AV.ofValue, AV.ofCell, AV.cells, AV.flat, AV.one, arep, aN, az]
    repeat refine And.intro (by omega) ?_
    refine aR (hJ _ _ ⟨_, _, _, ⟨rfl, rfl⟩, Abs.byG hbel [] rfl [1, 2, 3] (by decide) ?_⟩)
    exact aM (jn @bi (jn @bj (jn @bA @bt)))
   ·skip
    simp -implicitDefEqProofs (disch := omega) only [hbpp, hb0pp, hbs, hb0s, hbq, hb0q, hbz, hb0z, h1, h1n, aU, aT, dO, hsB, Option.isNone_some.{0}, aO, aH, aI, aP, simprocAttr, aB, aC, Function.comp_apply, one1, lenV, ak, ar, au, aop, AV.ofValue, AV.ofCell, AV.cells, AV.flat, AV.one, arep, aN, az]
    repeat refine And.intro (by omega) ?_
    refine cg (by kernel_rfl) (by simp) (wi _ W Hh _ xs _ (cpL (bE W Hh xs l sc ra 32)) _ sc ra ⟨_, _, _, rfl, by first | exact hb0pp _ | exact hbpp⟩ ⟨_, _, _, by first | rfl | (rw [List.length_append]; done) | (rw [List.length_append]; rfl), by first | rfl | (rw [ap]; rfl) | (rw [al]; rfl) | (rw [ap, am]; rfl) | (rw [al, am]; rfl)⟩ ⟨_, _, _, rfl, by first | exact hb0q _ | exact hbq⟩ (by assumption) (by assumption)) ?_
    simp -implicitDefEqProofs (disch := omega) only [hbpp, hb0pp, hbs, hb0s, hbq, hb0q, hbz, hb0z, h1, h1n, aU, aT, dO, hsB, Option.isNone_some.{0}, aO, aH, aI, aP, simprocAttr, aB, aC, Function.comp_apply, one1, lenV, ak, ar, au, aop, AV.ofValue, AV.ofCell, AV.cells, AV.flat, AV.one, arep, aN, az]
    repeat refine And.intro (by omega) ?_
    refine aR (hJ _ _ ⟨_, _, _, ⟨rfl, rfl⟩, Abs.byG hbel [] rfl [1, 3, 2] (by decide) ?_⟩)
    exact aM (jn @bi (jn @bj (jn @bA @bt)))
  rintro F2 H2 ⟨rfl, rfl⟩
  refine aQ fun Q6 hn6 hr6 he6 => ?_
  have hQ6 := fun F H' h => hr6 F H' (hQ F H' h)
  refine aL false try_mixed (by kernel_rfl) ?_
  simp -implicitDefEqProofs (disch := omega) only [hbpp, hb0pp, hbs, hb0s, hbq, hb0q, hbz, hb0z, h1, h1n, aU, aT, bV, c9, ck, cH, hblz, fD, gn, ii, gp, iF, jh, iG, ji, List.length_set, List.set_set, hsB, Option.isNone_some.{0}, aO, aH, aI, aP, simprocAttr, aB, aC, Function.comp_apply, one1, lenV, ak, ar, au, aop, AV.ofValue, AV.ofCell, AV.cells, AV.flat, AV.one, arep, aN, az]
  repeat refine And.intro (by omega) ?_
  refine hQ6 _ _ (kV (b1 := .cells true 0 [.int .i64 W, .int .i64 Hh, .sl (some (bpp, 0)) xs.length cpp, .sl (some (bs, 0)) l.length cs, .int .i64 tu, .int .i64 le, .int .i64 sl, .int .i64 ra, .bool true]) (.cells true 0 [.int .i64 W, .int .i64 Hh, .sl (some (bpp, 0)) xs.length cpp, .sl (some (bs, 0)) l.length cs, .int .i64 tu, .int .i64 le, .int .i64 sl, .int .i64 ra, .bool true]) (l1 := [.cells true 6 (r6 (cpL (bE W Hh xs l sc ra 32))), .cells (bm ([] : List Int).length) 1 (ints .u8 ([] : List Int)), .cells true 0 [.int .i64 0, .int .i64 0, .sl (some (H.length + 1, 0)) (([] : List Int).length) none]]) (l2 := []) (.inl rfl) hbel hblz (by first | rfl | simp) (x1 := .int .i64 11) (.int .i64 11) (ag Tryz.results18) [] rfl [] (by decide) ⟨rfl, List.append_nil _⟩ ?_)
  exact bp (jn @hblpp (jn @hbls (jn @hblz @hblq)))
open Go.RowKit
theorem lrnF_v {W H : Int} : ∀ {l : List (Int × Int)} {o q : List Int}, gh W H l o = some q → (∀ v ∈ o, v ≤ 2) → q.length = o.length ∧ ∀ v ∈ q, v ≤ 2
 | [], o, q, h, ho => by unfold gh at h; cases h; exact ⟨rfl, ho⟩
 | c :: l, o, q, h, ho => by
  unfold gh at h
  split at h
  ·cases h
  ·have ih := lrnF_v h (fun v hv => (List.mem_or_eq_of_mem_set hv).elim (ho v) (fun e => by omega))
   exact ⟨by rw [ih.1, List.length_set], ih.2⟩
theorem m8 {W H : Int} : ∀ {l : List (List (Int × Int))} {o q : List Int}, eJ W H l o = some q → (∀ v ∈ o, v ≤ 2) → q.length = o.length ∧ ∀ v ∈ q, v ≤ 2
 | [], o, q, h, ho => by unfold eJ at h; cases h; exact ⟨rfl, ho⟩
 | s :: l, o, q, h, ho => by
  unfold eJ at h
  split at h
  ·cases h
  ·rename_i c hc
   split at h
   ·have ih := m8 h (fun v hv => (List.mem_or_eq_of_mem_set hv).elim (ho v) (fun e => by omega))
    exact ⟨by rw [ih.1, List.length_set], ih.2⟩
   ·exact m8 h ho
  ·exact m8 h ho
theorem ln_v {W Hh : Int} {xs o : List Int} {l : List T6} {sc : List (Int × Int)} {g : Int} (hV : bW W Hh xs = true) (h : lnO W Hh xs l sc g = some o) : bW W Hh o = true ∧ o.length = xs.length := by
 obtain ⟨a, b, c, d, e, f⟩ := bM.1 hV
 have key : o.length = xs.length ∧ ∀ v ∈ o, v ≤ 2 := by
  unfold lnO at h
  split at h
  ·cases hq : gh W Hh (ba W Hh l sc g) xs with
   | none => rw [hq] at h; cases h
   | some q =>
    rw [hq] at h
    have h' : eJ W Hh (gM l sc g) q = some o := h
    have k1 := lrnF_v hq f
    have k2 := m8 h' k1.2
    exact ⟨by rw [k2.1, k1.1], k2.2⟩
  ·cases h; exact ⟨rfl, f⟩
 exact ⟨bM.2 ⟨a, b, c, d, by rw [key.1]; exact e, key.2⟩, key.1⟩
theorem lost_step {W Hh : Int} {ks xs : List Int} {s : List (Int × Int)} {Q : List T6} {x y h g : Int} (hV : bW W Hh xs = true) (hB : ∀ z ∈ xs, 1 ≤ z ∧ z ≤ 2) (hk : d5 ks xs) (hx : 0 ≤ x ∧ x ≤ 64 * W) (hy : 0 ≤ y ∧ y ≤ 64 * Hh) (hh : 0 ≤ h ∧ h ≤ 255) (hg : 1 ≤ g ∧ g ≤ 32) (hs : ct s = true) (hP : ∀ e ∈ s, gx W Hh xs x y h g e) (hS : bP Q = true) (hc : ∃ b ∈ Q, InP b x y h) :
  0 < (bE W Hh ks Q s g 32).length ∧ (∃ b ∈ cpL (bE W Hh ks Q s g 32), InP b x y h) ∧ ∃ o, lnO W Hh ks (cpL (bE W Hh ks Q s g 32)) s g = some o ∧ d5 o xs := by
 have hv := bM.1 hV
 have hss := da.1 hs
 have hSS := bU.1 hS
 have ok := gD (xs := ks) (s := s) (g := g) ⟨hv.w0, hv.w1⟩ ⟨hv.h0, hv.h1⟩ (Q.length + 2 * 32) Q 32 [] rfl hSS.2 (fun b hb => by cases hb)
 have kp := jD (s := s) ⟨hv.w0, hv.w1⟩ ⟨hv.h0, hv.h1⟩ hk hx hy hh hg hss.2 hP (Q.length + 2 * 32) Q 32 [] rfl hSS.2 (.inl hc)
 have hR : (∀ b ∈ bE W Hh ks Q s g 32, bD b = true) ∧ (bE W Hh ks Q s g 32).length ≤ Q.length + 32 + ([] : List T6).length := ok
 have hK : ∃ b ∈ bE W Hh ks Q s g 32, InP b x y h := kp
 generalize bE W Hh ks Q s g 32 = R at *
 have hR0 : 0 < R.length := by obtain ⟨b, hb, -⟩ := hK; exact List.length_pos_of_mem hb
 have hcp := mZ hR0 hR.1
 have hci := cpL_in hh hR0 hR.1 hK
 have cv := in_cov hh (bU.1 hcp.1).2 hci
 have hVk := bel_vld hk hV
 have hRg : db W Hh ks (cpL R) s g = true := e7.2 ⟨hVk, hcp.2, hcp.1, hs, hg⟩
 obtain ⟨o, ho, hbo⟩ := wF hRg hk hV (fun i hi => by rw [iN hi]; exact hB _ (List.getElem_mem hi)) cv.2 hP
 exact ⟨hR0, hci, o, ho, hbo⟩
theorem wth_h {tu le sl ra x y h t f u v w : Int} {st : Bool} (k : eL tu le sl ra x y h t f u v w st = true) : 0 ≤ w ∧ w ≤ 255 := by
 unfold eL at k
 simp only [Bool.and_eq_true] at k
 exact bu.1 (fc.1 k.2.2.2.1).2
structure Ev where
 k : Int
 t : Int
 g : Int
 st : Bool
 s : AV
 sc : List (Int × Int)
 x : Int
 y : Int
 h : Int
def evC (e : Ev) : List AV := [.int .i64 e.k, .int .i64 e.t, .int .i64 e.g, .bool e.st, e.s, .int .i64 e.x, .int .i64 e.y, .int .i64 e.h]
def evR (l : List Ev) : List AV := l.flatMap evC
def evG (l : List Ev) (j : Nat) : Ev := l.getD j ⟨0, 0, 0, false, .any, [], 0, 0, 0⟩
def evOk (H : ac) (l : List Ev) : Prop := ∀ e ∈ l, Sl H 2 e.s e.sc.length (prs e.sc) ∧ e.sc.length ≤ maxLen
theorem jF {p : Ev} {l : List Ev} : evR (p :: l) = evC p ++ evR l := rfl
theorem evR_len : ∀ {l : List Ev}, (evR l).length = l.length * 8
 | [] => rfl
 | p :: l => by rw [jF, List.length_append, evR_len (l := l), List.length_cons]; show 8 + _ = _; omega
theorem lU : ∀ (a b : List AV) (n : Nat), (a ++ b).drop (a.length + n) = b.drop n
 | [], b, n => by simp
 | x :: a, b, n => by rw [List.length_cons, show a.length + 1 + n = (a.length + n) + 1 by omega]; exact lU a b n
theorem evR_at : ∀ {l : List Ev} {j : Nat} (_h : j < l.length), (evR l).drop (j * 8) = evC (evG l j) ++ (evR l).drop ((j + 1) * 8)
 | [], j, h => by simp at h
 | p :: l, 0, _ => by rw [jF]; rfl
 | p :: l, j + 1, h => by
  have ih := evR_at (l := l) (j := j) (by simpa using h)
  rw [jF, show (j + 1) * 8 = (evC p).length + j * 8 by show _ = 8 + _; omega, show (j + 1 + 1) * 8 = (evC p).length + (j + 1) * 8 by show _ = 8 + _; omega, lU, lU, ih]
  rfl
theorem evR_p0 {l : List Ev} {j : Nat} {v : AV} (h : j < l.length) (hs : (evG l j).s = v) : ((evR l).drop (j * 8)).take 5 = [.int .i64 (evG l j).k, .int .i64 (evG l j).t, .int .i64 (evG l j).g, .bool (evG l j).st, v] := by rw [evR_at h, ← hs]; rfl
theorem evR_p5 {l : List Ev} {j : Nat} (h : j < l.length) : ((evR l).drop (j * 8 + 5)).take 3 = [.int .i64 (evG l j).x, .int .i64 (evG l j).y, .int .i64 (evG l j).h] := by
 rw [← List.drop_drop, evR_at h]; rfl
theorem evG_mem {l : List Ev} {j : Nat} (h : j < l.length) : evG l j ∈ l := by
 unfold evG
 rw [List.getD_eq_getElem?_getD, List.getElem?_eq_getElem h]
 exact List.getElem_mem h
theorem evOk.at {H : ac} {l : List Ev} {j : Nat} (k : evOk H l) (h : j < l.length) : ∃ b o c, (evG l j).s = .sl (some (b, 0)) (evG l j).sc.length c ∧ H[b]? = some (.cells o 2 (prs (evG l j).sc)) := by
 obtain ⟨b, o, c, e1, e2⟩ := (k _ (evG_mem h)).1
 exact ⟨b, o, c, e1, e2⟩
theorem evOk.len {H : ac} {l : List Ev} {j : Nat} (k : evOk H l) (h : j < l.length) : (evG l j).sc.length ≤ 9223372036854775807 := by
 have q := (k _ (evG_mem h)).2
 unfold maxLen at q; exact q
theorem rows_ev {P : Program} {H : ac} {n : Nat} {ti tb ts te u v : TypeId} (hi : P.underlying ti = some (.int .i64)) (hb : P.underlying tb = some .bool) (hs : P.underlying ts = some (.slice te)) (hu : P.underlying u = some (.int .i64)) (hv : P.underlying v = some (.int .i64)) (hl : bX P (n + 1) te = some [u, v]) : ∀ rows : List (List AV), (∀ r : List AV, r ∈ rows → RTy P H (n + 2) [ti, ti, ti, tb, ts, ti, ti, ti] r) → ∃ l : List Ev, l.length = rows.length ∧ rows.flatten = evR l ∧ evOk H l
 | [], _ => ⟨[], rfl, rfl, fun e h => by cases h⟩
 | r :: rows, h => by
  obtain ⟨l, q1, q2, q3⟩ := rows_ev hi hb hs hu hv hl rows fun r' hr => h r' (by simp [hr])
  have hr := h r (by simp)
  obtain ⟨y1, r', rfl, hy1, hr⟩ := hr.cons
  obtain ⟨y2, r', rfl, hy2, hr⟩ := hr.cons
  obtain ⟨y3, r', rfl, hy3, hr⟩ := hr.cons
  obtain ⟨y4, r', rfl, hy4, hr⟩ := hr.cons
  obtain ⟨y5, r', rfl, hy5, hr⟩ := hr.cons
  obtain ⟨y6, r', rfl, hy6, hr⟩ := hr.cons
  obtain ⟨y7, r', rfl, hy7, hr⟩ := hr.cons
  obtain ⟨y8, r', rfl, hy8, hr⟩ := hr.cons
  obtain rfl := hr.nil
  obtain ⟨z1, rfl, -⟩ := hy1.int hi
  obtain ⟨z2, rfl, -⟩ := hy2.int hi
  obtain ⟨z3, rfl, -⟩ := hy3.int hi
  obtain ⟨z4, rfl⟩ := hy4.bool hb
  obtain ⟨sc, k1, k2, -⟩ := hy5.pairsU hs hu hv hl
  obtain ⟨z6, rfl, -⟩ := hy6.int hi
  obtain ⟨z7, rfl, -⟩ := hy7.int hi
  obtain ⟨z8, rfl, -⟩ := hy8.int hi
  refine ⟨⟨z1, z2, z3, z4, y5, sc, z6, z7, z8⟩ :: l, by simp [q1], by rw [jF, List.flatten_cons, q2]; rfl, fun e he => ?_⟩
  rcases List.mem_cons.1 he with rfl | he
  ·exact ⟨k1, k2⟩
  ·exact q3 e he
theorem LTy.evs {P : Program} {H : ac} {n : Nat} {t e ti tb ts te u v : TypeId} {x : AV} (ht : P.underlying t = some (.slice e)) (hle : bX P (n + 2) e = some [ti, ti, ti, tb, ts, ti, ti, ti]) (hi : P.underlying ti = some (.int .i64)) (hb : P.underlying tb = some .bool) (hs : P.underlying ts = some (.slice te)) (hu : P.underlying u = some (.int .i64)) (hv : P.underlying v = some (.int .i64)) (hl : bX P (n + 1) te = some [u, v]) (h : LTy P H (n + 3) t x) :
  ∃ l : List Ev, Sl H 8 x l.length (evR l) ∧ l.length ≤ maxLen ∧ evOk H l := by
 obtain ⟨b, rows, rfl, k1, k2, k3⟩ := h.slice ht hle
 obtain ⟨l, q1, q2, q3⟩ := rows_ev hi hb hs hu hv hl rows k3
 exact ⟨l, ⟨b, false, none, by rw [q1], by rw [← q2]; exact k2⟩, by omega, q3⟩
open Go.RowKit
theorem lse_y (H : ac) (W : Int) (Hh : Int) (pp : AV) (xs : List Int) (s : AV) (l : List T6) (tu : Int) (le : Int) (sl : Int) (ra : Int)  (bz : Nat) (q : AV) (sc : List (Int × Int)) (hpp : Sl H 1 pp xs.length (ints .u8 xs)) (hs : Sl H 6 s l.length (r6 l)) (hz : H[bz]? = some (.cells true 0 [.int .i64 W, .int .i64 Hh, pp, s, .int .i64 tu, .int .i64 le, .int .i64 sl, .int .i64 ra, .bool false])) (hq : Sl H 2 q sc.length (prs sc)) (hV : bW W Hh xs = true) (hS : bP l = true) (hl0 : 0 < l.length) (hsB : ct sc = true) (hg : 1 ≤ ra ∧ ra ≤ 32) (hR0 : 0 < (bE W Hh xs l sc ra 32).length) (o : List Int) (ho : lnO W Hh xs (cpL (bE W Hh xs l sc ra 32)) sc ra = some o) (ho0 : 0 < o.length) : ACalls Tryz.prog 18 [.ptr (some (bz, 0)), q] H (fun v H' => v = .int .i64 0 ∧ H' = H.set bz (.cells true 0 [.int .i64 W, .int .i64 Hh, .sl (some (H.length, 0)) o.length none, .sl (some (H.length + 1, 0)) ((cpL (bE W Hh xs l sc ra 32)).length) none, .int .i64 tu, .int .i64 le, .int .i64 sl, .int .i64 ra, .bool false]) ++ [.cells true 1 (ints .u8 o), .cells true 6 (r6 (cpL (bE W Hh xs l sc ra 32)))]) := by
 obtain ⟨bpp, opp, cpp, rfl, hbpp⟩ := hpp
 have hblpp := getElem?_lt hbpp
 have hb0pp := fun l => aw (l := l) hbpp
 obtain ⟨bs, os, cs, rfl, hbs⟩ := hs
 have hbls := getElem?_lt hbs
 have hb0s := fun l => aw (l := l) hbs
 obtain ⟨bq, oq, cq, rfl, hbq⟩ := hq
 have hblq := getElem?_lt hbq
 have hb0q := fun l => aw (l := l) hbq
 have hbz := hz
 have hblz := getElem?_lt hbz
 have hb0z := fun l => aw (l := l) hbz
 have hVV := bM.1 hV
 have hSS := bU.1 hS
 have hss := da.1 hsB
 have hsc9 := hss.1
 have hx6 : xs.length ≤ 1000000 := by have h4 := hVV.len; have := Int.mul_le_mul hVV.w1 hVV.h1 (by have := hVV.h0; omega) (by decide); omega
 have hok : (∀ b ∈ bE W Hh xs l sc ra 32, bD b = true) ∧ (bE W Hh xs l sc ra 32).length ≤ l.length + 32 + ([] : List T6).length := gD (xs := xs) (s := sc) (g := ra) ⟨hVV.w0, hVV.w1⟩ ⟨hVV.h0, hVV.h1⟩ (l.length + 2 * 32) l 32 [] rfl hSS.2 (fun b hb => by cases hb)
 have hR6 : (bE W Hh xs l sc ra 32).length ≤ 64 := by have h1 := hok.2; simp only [List.length_nil] at h1; have h2 := hSS.1; omega
 have hRv := hok.1
 have hcp := mZ hR0 hRv
 have hcS := hcp.1
 have hc0 := hcp.2
 have hc16 := (bU.1 hcS).1
 have hRg : db W Hh xs (cpL (bE W Hh xs l sc ra 32)) sc ra = true := e7.2 ⟨hV, hc0, hcS, hsB, hg⟩
 (refine bT Tryz.func18 _ rfl (Nat.le_of_ble_eq_true (by kernel_rfl)) rfl ?_; intro hbel Q hQ hQ' c hc; unfold Tryz.f18 at hc; simp only [Option.some.injEq] at hc; subst hc; clear hQ')
 refine aQ fun Q1 hn1 hr1 he1 => ?_
 have hQ1 := fun F H' h => hr1 F H' (hQ F H' h)
 refine aL false try_mixed (by kernel_rfl) ?_
 simp -implicitDefEqProofs (disch := omega) only [hbpp, hb0pp, hbs, hb0s, hbq, hb0q, hbz, hb0z, hsB, Option.isNone_some.{0}, aO, aH, aI, aP, simprocAttr, aB, aC, Function.comp_apply, one1, lenV, ak, ar, au, aop, AV.ofValue, AV.ofCell, AV.cells, AV.flat, AV.one, arep, aN, az]
 repeat refine And.intro (by omega) ?_
 refine hn1 _ _ ?_
 refine aQ fun Q2 hn2 hr2 he2 => ?_
 have hQ2 := fun F H' h => hr2 F H' (hQ F H' h)
 refine aL false try_mixed (by kernel_rfl) ?_
 simp -implicitDefEqProofs (disch := omega) only [hbpp, hb0pp, hbs, hb0s, hbq, hb0q, hbz, hb0z, hsB, Option.isNone_some.{0}, aO, aH, aI, aP, simprocAttr, aB, aC, Function.comp_apply, one1, lenV, ak, ar, au, aop, AV.ofValue, AV.ofCell, AV.cells, AV.flat, AV.one, arep, aN, az]
 repeat refine And.intro (by omega) ?_
 refine af (by kernel_rfl) (iE _ _ sc ⟨_, _, _, rfl, by first | exact hb0q _ | exact hbq⟩ (by omega)) ?_
 simp -implicitDefEqProofs (disch := omega) only [hbpp, hb0pp, hbs, hb0s, hbq, hb0q, hbz, hb0z, hsB, Option.isNone_some.{0}, aO, aH, aI, aP, simprocAttr, aB, aC, Function.comp_apply, one1, lenV, ak, ar, au, aop, AV.ofValue, AV.ofCell, AV.cells, AV.flat, AV.one, arep, aN, az]
 repeat refine And.intro (by omega) ?_
 refine hn2 _ _ ?_
 refine aQ fun Q3 hn3 hr3 he3 => ?_
 have hQ3 := fun F H' h => hr3 F H' (hQ F H' h)
 refine aL false try_mixed (by kernel_rfl) ?_
 simp -implicitDefEqProofs (disch := omega) only [hbpp, hb0pp, hbs, hb0s, hbq, hb0q, hbz, hb0z, hsB, Option.isNone_some.{0}, aO, aH, aI, aP, simprocAttr, aB, aC, Function.comp_apply, one1, lenV, ak, ar, au, aop, AV.ofValue, AV.ofCell, AV.cells, AV.flat, AV.one, arep, aN, az]
 repeat refine And.intro (by omega) ?_
 refine cg (by kernel_rfl) (by simp) (lR _ W Hh _ xs _ l _ sc ra 32 ⟨_, _, _, rfl, by first | exact hb0pp _ | exact hbpp⟩ ⟨_, _, _, rfl, by first | exact hb0s _ | exact hbs⟩ ⟨_, _, _, rfl, by first | exact hb0q _ | exact hbq⟩ (by assumption) (by assumption) (by assumption) (by assumption) (by assumption) (by omega)) ?_
 simp -implicitDefEqProofs (disch := omega) only [hbpp, hb0pp, hbs, hb0s, hbq, hb0q, hbz, hb0z, hsB, Option.isNone_some.{0}, aO, aH, aI, aP, simprocAttr, aB, aC, Function.comp_apply, one1, lenV, ak, ar, au, aop, AV.ofValue, AV.ofCell, AV.cells, AV.flat, AV.one, arep, aN, az]
 repeat refine And.intro (by omega) ?_
 refine hn3 _ _ ?_
 refine aQ fun Q4 hn4 hr4 he4 => ?_
 have hQ4 := fun F H' h => hr4 F H' (hQ F H' h)
 refine aL false try_mixed (by kernel_rfl) ?_
 simp -implicitDefEqProofs (disch := omega) only [hbpp, hb0pp, hbs, hb0s, hbq, hb0q, hbz, hb0z, hsB, Option.isNone_some.{0}, aO, aH, aI, aP, simprocAttr, aB, aC, Function.comp_apply, one1, lenV, ak, ar, au, aop, AV.ofValue, AV.ofCell, AV.cells, AV.flat, AV.one, arep, aN, az]
 repeat refine And.intro (by omega) ?_
 refine ai (fun h1 => ?_) (fun h1 => ?_)
 ·have h1d := bsT h1
  have h1n := bnT h1
  omega
 ·have h1d := bsT h1
  have h1n := bnT h1
  simp -implicitDefEqProofs (disch := omega) only [hbpp, hb0pp, hbs, hb0s, hbq, hb0q, hbz, hb0z, h1, h1n, aU, aT, hsB, Option.isNone_some.{0}, aO, aH, aI, aP, simprocAttr, aB, aC, Function.comp_apply, one1, lenV, ak, ar, au, aop, AV.ofValue, AV.ofCell, AV.cells, AV.flat, AV.one, arep, aN, az]
  repeat refine And.intro (by omega) ?_
  refine hn4 _ _ ?_
  refine aQ fun Q5 hn5 hr5 he5 => ?_
  have hQ5 := fun F H' h => hr5 F H' (hQ F H' h)
  refine aL false try_mixed (by kernel_rfl) ?_
  simp -implicitDefEqProofs (disch := omega) only [hbpp, hb0pp, hbs, hb0s, hbq, hb0q, hbz, hb0z, h1, h1n, aU, aT, hsB, Option.isNone_some.{0}, aO, aH, aI, aP, simprocAttr, aB, aC, Function.comp_apply, one1, lenV, ak, ar, au, aop, AV.ofValue, AV.ofCell, AV.cells, AV.flat, AV.one, arep, aN, az]
  repeat refine And.intro (by omega) ?_
  refine af (by kernel_rfl) (comp_c _ _ (bE W Hh xs l sc ra 32) ⟨_, _, _, by first | rfl | (rw [List.length_append]; done) | (rw [List.length_append]; rfl), by first | rfl | (rw [ap]; rfl) | (rw [al]; rfl) | (rw [ap, am]; rfl) | (rw [al, am]; rfl)⟩ (by omega) (by assumption) (by assumption)) ?_
  simp -implicitDefEqProofs (disch := omega) only [hbpp, hb0pp, hbs, hb0s, hbq, hb0q, hbz, hb0z, h1, h1n, aU, aT, hsB, Option.isNone_some.{0}, aO, aH, aI, aP, simprocAttr, aB, aC, Function.comp_apply, one1, lenV, ak, ar, au, aop, AV.ofValue, AV.ofCell, AV.cells, AV.flat, AV.one, arep, aN, az]
  repeat refine And.intro (by omega) ?_
  refine hn5 _ _ ?_
  refine cn false try_mixed [[0, 1, 2, 3, 4, 5, 6, 7, 8, 9, 10, 11, 12, 13, 14, 15, 16, 17], [0, 1, 2, 3, 4, 5, 6, 7, 8, 9, 10, 15, 11, 12, 13, 14, 16, 17]] (by kernel_rfl) (fun F2 H2 => F2 = [(0, .ptr (some (bz, 0))), (4, .int .i64 0), (5, .sl (some (H.length, 0)) ((cpL (bE W Hh xs l sc ra 32)).length) none), (7, .ptr (some (H.length + 2, 0))), (8, .int .i64 0)] ∧ H2 = H ++ [.cells true 6 (r6 (cpL (bE W Hh xs l sc ra 32))), .cells true 1 (ints .u8 o), .cells true 0 [.int .i64 W, .int .i64 Hh, .sl (some (H.length + 1, 0)) o.length none]]) ?_ ?_
  ·refine aG ?_ (aG ?_ (cl)) <;> intro J hJ
   ·skip
    simp -implicitDefEqProofs (disch := omega) only [hbpp, hb0pp, hbs, hb0s, hbq, hb0q, hbz, hb0z, h1, h1n, aU, aT, dO, hsB, Option.isNone_some.{0}, aO, aH, aI, aP, simprocAttr, aB, aC, Function.comp_apply, one1, lenV, ak, ar, au, aop, AV.ofValue, AV.ofCell, AV.cells, AV.flat, AV.one, arep, aN, az]
    repeat refine And.intro (by omega) ?_
    refine cg (by kernel_rfl) (by simp) (wh _ W Hh _ xs _ (cpL (bE W Hh xs l sc ra 32)) _ sc ra o ⟨_, _, _, rfl, by first | exact hb0pp _ | exact hbpp⟩ ⟨_, _, _, by first | rfl | (rw [List.length_append]; done) | (rw [List.length_append]; rfl), by first | rfl | (rw [ap]; rfl) | (rw [al]; rfl) | (rw [ap, am]; rfl) | (rw [al, am]; rfl)⟩ ⟨_, _, _, rfl, by first | exact hb0q _ | exact hbq⟩ (by assumption) (by assumption) (by assumption)) ?_
    simp -implicitDefEqProofs (disch := omega) only [hbpp, hb0pp, hbs, hb0s, hbq, hb0q, hbz, hb0z, h1, h1n, aU, aT, dO, hsB, Option.isNone_some.{0}, aO, aH, aI, aP, simprocAttr, aB, aC, Function.comp_apply, one1, lenV, ak, ar, au, aop, AV.ofValue, AV.ofCell, AV.cells, AV.flat, AV.one, arep, aN, az]
    repeat refine And.intro (by omega) ?_
    refine aR (hJ _ _ ⟨_, _, _, ⟨rfl, rfl⟩, Abs.byG hbel [] rfl [1, 2, 3] (by decide) ?_⟩)
    exact aM (jn @bi (jn @bj (jn @bA @bt)))
   ·skip
    simp -implicitDefEqProofs (disch := omega) only [hbpp, hb0pp, hbs, hb0s, hbq, hb0q, hbz, hb0z, h1, h1n, aU, aT, dO, hsB, Option.isNone_some.{0}, aO, aH, aI, aP, simprocAttr, aB, aC, Function.comp_apply, one1, lenV, ak, ar, au, aop, AV.ofValue, AV.ofCell, AV.cells, AV.flat, AV.one, arep, aN, az]
    repeat refine And.intro (by omega) ?_
    refine cg (by kernel_rfl) (by simp) (wh _ W Hh _ xs _ (cpL (bE W Hh xs l sc ra 32)) _ sc ra o ⟨_, _, _, rfl, by first | exact hb0pp _ | exact hbpp⟩ ⟨_, _, _, by first | rfl | (rw [List.length_append]; done) | (rw [List.length_append]; rfl), by first | rfl | (rw [ap]; rfl) | (rw [al]; rfl) | (rw [ap, am]; rfl) | (rw [al, am]; rfl)⟩ ⟨_, _, _, rfl, by first | exact hb0q _ | exact hbq⟩ (by assumption) (by assumption) (by assumption)) ?_
    simp -implicitDefEqProofs (disch := omega) only [hbpp, hb0pp, hbs, hb0s, hbq, hb0q, hbz, hb0z, h1, h1n, aU, aT, dO, hsB, Option.isNone_some.{0}, aO, aH, aI, aP, simprocAttr, aB, aC, Function.comp_apply, one1, lenV, ak, ar, au, aop, AV.ofValue, AV.ofCell, AV.cells, AV.flat, AV.one, arep, aN, az]
    repeat refine And.intro (by omega) ?_
    refine aR (hJ _ _ ⟨_, _, _, ⟨rfl, rfl⟩, Abs.byG hbel [] rfl [1, 3, 2] (by decide) ?_⟩)
    exact aM (jn @bi (jn @bj (jn @bA @bt)))
  rintro F2 H2 ⟨rfl, rfl⟩
  refine aQ fun Q6 hn6 hr6 he6 => ?_
  have hQ6 := fun F H' h => hr6 F H' (hQ F H' h)
  refine aL false try_mixed (by kernel_rfl) ?_
  simp -implicitDefEqProofs (disch := omega) only [hbpp, hb0pp, hbs, hb0s, hbq, hb0q, hbz, hb0z, h1, h1n, aU, aT, bV, c9, ck, cH, hsB, Option.isNone_some.{0}, aO, aH, aI, aP, simprocAttr, aB, aC, Function.comp_apply, one1, lenV, ak, ar, au, aop, AV.ofValue, AV.ofCell, AV.cells, AV.flat, AV.one, arep, aN, az]
  repeat refine And.intro (by omega) ?_
  refine hn6 _ _ ?_
  refine cn false try_mixed [[0, 1, 2, 3, 4, 5, 6, 7, 8, 9], [0, 1, 2, 4, 5, 6, 3, 7, 8, 9]] (by kernel_rfl) (fun F2 H2 => F2 = [(4, .int .i64 0)] ∧ H2 = H.set bz (.cells true 0 [.int .i64 W, .int .i64 Hh, .sl (some (H.length + 1, 0)) o.length none, .sl (some (H.length, 0)) ((cpL (bE W Hh xs l sc ra 32)).length) none, .int .i64 tu, .int .i64 le, .int .i64 sl, .int .i64 ra, .bool false]) ++ [.cells true 6 (r6 (cpL (bE W Hh xs l sc ra 32))), .cells true 1 (ints .u8 o)]) ?_ ?_
  ·refine aG ?_ (aG ?_ (cl)) <;> intro J hJ
   ·skip
    simp -implicitDefEqProofs (disch := omega) only [hbpp, hb0pp, hbs, hb0s, hbq, hb0q, hbz, hb0z, h1, h1n, aU, aT, bV, c9, ck, cH, dO, hblz, fD, gn, ii, gp, iF, jh, iG, ji, List.length_set, List.set_set, hsB, Option.isNone_some.{0}, aO, aH, aI, aP, simprocAttr, aB, aC, Function.comp_apply, one1, lenV, ak, ar, au, aop, AV.ofValue, AV.ofCell, AV.cells, AV.flat, AV.one, arep, aN, az]
    repeat refine And.intro (by omega) ?_
    refine aR (hJ _ _ ⟨_, _, _, ⟨rfl, rfl⟩, Abs.byP (b1 := .cells true 0 [.int .i64 W, .int .i64 Hh, .sl (some (H.length + 1, 0)) o.length none, .sl (some (H.length, 0)) ((cpL (bE W Hh xs l sc ra 32)).length) none, .int .i64 tu, .int .i64 le, .int .i64 sl, .int .i64 ra, .bool false]) (l1 := [.cells true 6 (r6 (cpL (bE W Hh xs l sc ra 32))), .cells true 1 (ints .u8 o), .cells true 0 [.int .i64 W, .int .i64 Hh, .sl (some (H.length + 1, 0)) o.length none]]) (.cells true 0 [.int .i64 W, .int .i64 Hh, .sl (some (H.length + 1, 0)) o.length none, .sl (some (H.length, 0)) ((cpL (bE W Hh xs l sc ra 32)).length) none, .int .i64 tu, .int .i64 le, .int .i64 sl, .int .i64 ra, .bool false]) hbel hblz (by first | rfl | simp) [] rfl [0, 1] (by decide) ?_⟩)
    exact aM (jn @hblpp (jn @hbls (jn @hblz (jn @hblq (jn @bi (jn @bj (jn @bA @bt)))))))
   ·skip
    simp -implicitDefEqProofs (disch := omega) only [hbpp, hb0pp, hbs, hb0s, hbq, hb0q, hbz, hb0z, h1, h1n, aU, aT, bV, c9, ck, cH, dO, hblz, fD, gn, ii, gp, iF, jh, iG, ji, List.length_set, List.set_set, hsB, Option.isNone_some.{0}, aO, aH, aI, aP, simprocAttr, aB, aC, Function.comp_apply, one1, lenV, ak, ar, au, aop, AV.ofValue, AV.ofCell, AV.cells, AV.flat, AV.one, arep, aN, az]
    repeat refine And.intro (by omega) ?_
    refine aR (hJ _ _ ⟨_, _, _, ⟨rfl, rfl⟩, Abs.byP (b1 := .cells true 0 [.int .i64 W, .int .i64 Hh, .sl (some (H.length + 1, 0)) o.length none, .sl (some (H.length, 0)) ((cpL (bE W Hh xs l sc ra 32)).length) none, .int .i64 tu, .int .i64 le, .int .i64 sl, .int .i64 ra, .bool false]) (l1 := [.cells true 6 (r6 (cpL (bE W Hh xs l sc ra 32))), .cells true 1 (ints .u8 o), .cells true 0 [.int .i64 W, .int .i64 Hh, .sl (some (H.length + 1, 0)) o.length none]]) (.cells true 0 [.int .i64 W, .int .i64 Hh, .sl (some (H.length + 1, 0)) o.length none, .sl (some (H.length, 0)) ((cpL (bE W Hh xs l sc ra 32)).length) none, .int .i64 tu, .int .i64 le, .int .i64 sl, .int .i64 ra, .bool false]) hbel hblz (by first | rfl | simp) [] rfl [0, 1] (by decide) ?_⟩)
    exact aM (jn @hblpp (jn @hbls (jn @hblz (jn @hblq (jn @bi (jn @bj (jn @bA @bt)))))))
  rintro F2 H2 ⟨rfl, rfl⟩
  refine aL false try_mixed (by kernel_rfl) ?_
  simp -implicitDefEqProofs (disch := omega) only [hbpp, hb0pp, hbs, hb0s, hbq, hb0q, hbz, hb0z, h1, h1n, aU, aT, bV, c9, ck, cH, hblz, fD, gn, ii, gp, iF, jh, iG, ji, List.length_set, List.set_set, hsB, Option.isNone_some.{0}, aO, aH, aI, aP, simprocAttr, aB, aC, Function.comp_apply, one1, lenV, ak, ar, au, aop, AV.ofValue, AV.ofCell, AV.cells, AV.flat, AV.one, arep, aN, az]
  repeat refine And.intro (by omega) ?_
  refine hQ _ _ (kV (b1 := .cells true 0 [.int .i64 W, .int .i64 Hh, .sl (some (H.length + 1, 0)) o.length none, .sl (some (H.length, 0)) ((cpL (bE W Hh xs l sc ra 32)).length) none, .int .i64 tu, .int .i64 le, .int .i64 sl, .int .i64 ra, .bool false]) (.cells true 0 [.int .i64 W, .int .i64 Hh, .sl (some (H.length, 0)) o.length none, .sl (some (H.length + 1, 0)) ((cpL (bE W Hh xs l sc ra 32)).length) none, .int .i64 tu, .int .i64 le, .int .i64 sl, .int .i64 ra, .bool false]) (l1 := [.cells true 6 (r6 (cpL (bE W Hh xs l sc ra 32))), .cells true 1 (ints .u8 o)]) (l2 := [.cells true 1 (ints .u8 o), .cells true 6 (r6 (cpL (bE W Hh xs l sc ra 32)))]) (.inl rfl) hbel hblz (by first | rfl | simp) (x1 := .int .i64 0) (.int .i64 0) (ag Tryz.results18) [] rfl [1, 0] (by decide) ⟨rfl, rfl⟩ ?_)
  exact bp (jn @bt (jn @eU (jn @hblpp (jn @hbls (jn @hblz @hblq)))))
open Go.RowKit
open Go.RowKit
open Go.RowKit
theorem IsI.parts {H : ac} {k : IntKind} {s : AV} {l : List Int} (h : IsI H k s l) : ∃ a c, s = .sl a l.length c := by
 rcases h with ⟨rfl, rfl⟩ | ⟨b, own, cap, rfl, hb⟩
 ·exact ⟨_, _, rfl⟩
 ·exact ⟨_, _, rfl⟩
def bys (xs : List Int) : List UInt8 := xs.map fun n => UInt8.ofNat n.toNat
theorem bys_map : ∀ xs : List Int, (ints .u8 xs).mapM jO = some (bys xs)
 | [] => rfl
 | x :: xs => by
  have ih := bys_map xs
  show (AV.int .u8 x :: ints .u8 xs).mapM jO = _
  rw [List.mapM_cons, ih]
  rfl
theorem need_pos {p : Prop} [Decidable p] (h : p) : bJ p = some () := by unfold bJ; rw [if_pos h]
theorem m9 {H : ac} {s : AV} {xs : List Int} (hs : IsI H .u8 s xs) : az Tryz.prog 22 9 s H = some (.str (bys xs)) := by
 have h1 := bys_map xs
 have key : ∀ a n c, aElems 1 (.sl a n c) H = some (n, ints .u8 xs) → az Tryz.prog 22 9 (.sl a n c) H = some (.str (bys xs)) := fun a n c he => by
  unfold az
  simp only [nh, Option.bind_some]
  rw [need_pos ⟨tInt5, by kernel_rfl⟩, Option.bind_some, he, Option.bind_some]
  simp only [h1, Option.map_some]
 rcases hs with ⟨rfl, rfl⟩ | ⟨b, own, cap, rfl, hb⟩
 ·exact key none 0 (some 0) rfl
 ·refine key _ _ _ ?_
  unfold aElems ards
  simp only [hb]
  rw [if_pos (by rw [ck]; omega), List.drop_zero, List.take_of_length_le (by rw [ck]; omega)]
  rfl
open Go.RowKit
set_option maxRecDepth 100000 in
theorem bytes_s (H : ac) (xs : List Int) (s1 s2 : AV) (h1 : IsI H .u8 s1 xs) (h2 : IsI H .u8 s2 xs) : ACalls Tryz.prog 33 [s1, s2] H (fun v H' => v = .bool true ∧ H' = H) := by
 have hc1 := m9 h1
 have hc2 := m9 h2
 obtain ⟨a1, c1, rfl⟩ := h1.parts
 obtain ⟨a2, c2, rfl⟩ := h2.parts
 refine AcT true Tryz.func33 ?_; intro hbel Q hQ
 simp -implicitDefEqProofs (maxSteps := 2000000) (disch := omega) only [hc1, hc2, simprocAttr, aB, aC, Function.comp_apply, one1, lenV, ak, ar, au, aop, AV.ofValue, AV.ofCell, AV.cells, AV.flat, AV.one, arep, aN, aD]
 exact hQ _ _ (aF (.inl rfl) hbel (x := .bool true) (mc Tryz.results33 (by simp -implicitDefEqProofs (maxSteps := 2000000) (disch := omega) only [simprocAttr, aB, aC, Function.comp_apply, one1, lenV, ak, ar, au, aop, AV.ofValue, AV.ofCell, AV.cells, AV.flat, AV.one, arep, aN, aD, az])) rfl ⟨rfl, rfl⟩)
open Go.RowKit
theorem lnew_y (H : ac) (W : Int) (Hh : Int) (pp : AV) (xs : List Int) (s : AV) (l : List T6) (tu : Int) (le : Int) (sl : Int) (ra : Int) (hpp : Sl H 1 pp xs.length (ints .u8 xs)) (hs : Sl H 6 s l.length (r6 l)) (hV : bW W Hh xs = true) (hL : lsB l = true) (hB : cJ tu le sl ra = true) : ACalls Tryz.prog 13 [.agg [.int .i64 W, .int .i64 Hh, pp], s, .agg [.int .i64 tu, .int .i64 le, .int .i64 sl, .int .i64 ra]] H (fun v H' => v = .tup [.ptr (some (H.length + 2, 0)), .int .i64 0] ∧ H' = H ++ [.cells true 1 (ints .u8 xs), .cells true 6 (r6 l), .cells true 0 [.int .i64 W, .int .i64 Hh, .sl (some (H.length, 0)) xs.length none, .sl (some (H.length + 1, 0)) l.length none, .int .i64 tu, .int .i64 le, .int .i64 sl, .int .i64 ra, .bool false]]) := by
 obtain ⟨bpp, opp, cpp, rfl, hbpp⟩ := hpp
 have hblpp := getElem?_lt hbpp
 have hb0pp := fun l => aw (l := l) hbpp
 obtain ⟨bs, os, cs, rfl, hbs⟩ := hs
 have hbls := getElem?_lt hbs
 have hb0s := fun l => aw (l := l) hbs
 have hVV := bM.1 hV
 have hx6 : xs.length ≤ 1000000 := by have h4 := hVV.len; have := Int.mul_le_mul hVV.w1 hVV.h1 (by have := hVV.h0; omega) (by decide); omega
 have hx0 : 0 < xs.length := by have := (hVV.idx (show inB W Hh 0 0 = true from di.2 (by have := hVV.w0; have := hVV.h0; omega))).2.2.2.2.1; omega
 have hLL := lsB_iff.1 hL
 have hS16 := (bU.1 hLL.2).1
 have hl0 := hLL.1
 (refine bT Tryz.func13 _ rfl (Nat.le_of_ble_eq_true (by kernel_rfl)) rfl ?_; intro hbel Q hQ hQ' c hc; unfold Tryz.f13 at hc; simp only [Option.some.injEq] at hc; subst hc; clear hQ')
 refine aQ fun Q1 hn1 hr1 he1 => ?_
 have hQ1 := fun F H' h => hr1 F H' (hQ F H' h)
 refine aL false try_mixed (by kernel_rfl) ?_
 have g'1 := (jn @hbpp (jn @hb0pp (jn @hbs (jn @hb0s (jn @hV (jn @hL @hB))))))
 refine aa g'1 ?_
 refine hn1 _ _ ?_
 refine aQ fun Q2 hn2 hr2 he2 => ?_
 have hQ2 := fun F H' h => hr2 F H' (hQ F H' h)
 refine aL false try_mixed (by kernel_rfl) ?_
 refine aa g'1 ?_
 refine af (by kernel_rfl) (gb _ W Hh _ xs (.inr ⟨_, _, _, rfl, by first | exact hb0pp _ | exact hbpp⟩)) ?_
 refine aa g'1 ?_
 refine af (by kernel_rfl) (lvset_c _ _ l ⟨_, _, _, rfl, by first | exact hb0s _ | exact hbs⟩ (by omega)) ?_
 refine aa g'1 ?_
 refine af (by kernel_rfl) (i8 _ tu le sl ra) ?_
 refine aa g'1 ?_
 refine hn2 _ _ ?_
 refine cn false try_mixed [[0, 1, 2, 3, 4, 5, 6, 7, 8]] (by kernel_rfl) (fun F2 H2 => F2 = [(6, .ptr (some (H.length + 2, 0))), (7, .int .i64 0)] ∧ H2 = H ++ [.cells true 1 (ints .u8 xs), .cells true 6 (r6 l), .cells true 0 [.int .i64 W, .int .i64 Hh, .sl (some (H.length, 0)) xs.length none, .sl (some (H.length + 1, 0)) l.length none, .int .i64 tu, .int .i64 le, .int .i64 sl, .int .i64 ra, .bool false]]) ?_ ?_
 ·refine aG ?_ (cl) <;> intro J hJ
  ·skip
   refine aA g'1 ?_
   refine cg (by kernel_rfl) (by simp) (lcop_c _ W Hh _ xs ⟨_, _, _, rfl, by first | exact hb0pp _ | exact hbpp⟩ hx6 hx0) ?_
   refine aA g'1 ?_
   refine cg (by kernel_rfl) (by simp) (lP _ _ l ⟨_, _, _, rfl, by first | exact hb0s _ | exact hbs⟩ (by first | omega | (simp only [List.length_cons, List.length_nil]; omega)) (by first | omega | simp)) ?_
   refine aA g'1 ?_
   refine aR (hJ _ _ ⟨_, _, _, ⟨rfl, rfl⟩, Abs.byG hbel [] rfl [2, 3, 4] (by decide) ?_⟩)
   exact aM (jn @bi (jn @bj (jn @bA @bt)))
 rintro F2 H2 ⟨rfl, rfl⟩
 refine aL false try_mixed (by kernel_rfl) ?_
 have g'2 := (jn @ck (jn @cH (jn @bV (jn @c9 g'1))))
 refine aa g'2 ?_
 refine hQ _ _ (bB (.inl rfl) hbel (x1 := .tup [.ptr (some (H.length + 2, 0)), .int .i64 0]) (l2 := [.cells true 1 (ints .u8 xs), .cells true 6 (r6 l), .cells true 0 [.int .i64 W, .int .i64 Hh, .sl (some (H.length, 0)) xs.length none, .sl (some (H.length + 1, 0)) l.length none, .int .i64 tu, .int .i64 le, .int .i64 sl, .int .i64 ra, .bool false]]) (.tup [.ptr (some (H.length + 2, 0)), .int .i64 0]) (ag Tryz.results13) [] rfl [0, 1, 2] (by decide) ⟨rfl, rfl⟩ ?_)
 exact bp @bt
open Go.RowKit
open Go.RowKit
def laL : List T6 := [(32, 32, 32, 32, 0, 1), (33, 32, 33, 32, 0, 1), (34, 32, 34, 32, 0, 1), (35, 32, 35, 32, 0, 1), (36, 32, 36, 32, 0, 1), (37, 32, 37, 32, 0, 1), (38, 32, 38, 32, 0, 1), (39, 32, 39, 32, 0, 1), (40, 32, 40, 32, 0, 1)]
theorem la_1 : bE 4 1 [0,0,0,0] [(32,32,40,32,0,1)] [(0,160)] 4 32 = laL := by decide +kernel
theorem la_2 : cpL laL = laL := by decide +kernel
theorem la_3 : bE 4 1 [1,1,1,2] laL [(0,3)] 4 32 = [] := by decide +kernel
theorem la_tau : ez laL = true := by decide +kernel
theorem la_all : ba 4 1 laL [(0, 160)] 4 = [(0, 0), (1, 0), (2, 0)] := by rw [all_put]; decide +kernel
theorem la_sus : bF laL 0 160 4 = [(2, 0), (3, 0)] := by rw [sus_put]; decide +kernel
theorem la_ln : lnO 4 1 [0, 0, 0, 0] laL [(0, 160)] 4 = some [1, 1, 1, 2] := by
 unfold lnO gM
 rw [if_pos la_tau, la_all]
 show Option.bind _ (eJ 4 1 [bF laL 0 160 4]) = _
 rw [la_sus]; decide +kernel
theorem la_v : bW 4 1 [0, 0, 0, 0] = true := by decide +kernel
theorem la_l : lsB [(32, 32, 40, 32, 0, 1)] = true := by decide +kernel
theorem la_b : cJ 0 0 0 4 = true := by decide +kernel
theorem la_s1 : bP [(32, 32, 40, 32, 0, 1)] = true := by decide +kernel
theorem la_s2 : bP laL = true := by decide +kernel
theorem la_c1 : ct [(0, 160)] = true := by decide +kernel
theorem la_c2 : ct [(0, 3)] = true := by decide +kernel
theorem la_v2 : bW 4 1 [1, 1, 1, 2] = true := by decide +kernel
theorem la_vol : volS laL laL.length = 9 := by decide +kernel
theorem la_see1 (H : ac) (pp s q : AV) (bz : Nat) (hpp : Sl H 1 pp 4 (ints .u8 [0, 0, 0, 0])) (hs : Sl H 6 s 1 (r6 [(32, 32, 40, 32, 0, 1)])) (hz : H[bz]? = some (.cells true 0 [.int .i64 4, .int .i64 1, pp, s, .int .i64 0, .int .i64 0, .int .i64 0, .int .i64 4, .bool false])) (hq : Sl H 2 q 1 (prs [(0, 160)])) : ACalls Tryz.prog 18 [.ptr (some (bz, 0)), q] H (fun v H' => v = .int .i64 0 ∧ H' = H.set bz (.cells true 0 [.int .i64 4, .int .i64 1, .sl (some (H.length, 0)) 4 none, .sl (some (H.length + 1, 0)) laL.length none, .int .i64 0, .int .i64 0, .int .i64 0, .int .i64 4, .bool false]) ++ [.cells true 1 (ints .u8 [1, 1, 1, 2]), .cells true 6 (r6 laL)]) := by
 have k := lse_y H 4 1 pp [0, 0, 0, 0] s [(32, 32, 40, 32, 0, 1)] 0 0 0 4 bz q [(0, 160)] hpp hs hz hq la_v la_s1 (by decide) la_c1 (by decide) (by rw [la_1]; decide) [1, 1, 1, 2] (by rw [la_1, la_2]; exact la_ln) (by decide)
 rw [la_1, la_2] at k
 exact k
theorem la_see2 (H : ac) (pp s q : AV) (bz : Nat) (hpp : Sl H 1 pp 4 (ints .u8 [1, 1, 1, 2])) (hs : Sl H 6 s laL.length (r6 laL)) (hz : H[bz]? = some (.cells true 0 [.int .i64 4, .int .i64 1, pp, s, .int .i64 0, .int .i64 0, .int .i64 0, .int .i64 4, .bool false])) (hq : Sl H 2 q 1 (prs [(0, 3)])) : ACalls Tryz.prog 18 [.ptr (some (bz, 0)), q] H (fun v H' => v = .int .i64 12 ∧ H' = H.set bz (.cells true 0 [.int .i64 4, .int .i64 1, pp, s, .int .i64 0, .int .i64 0, .int .i64 0, .int .i64 4, .bool true])) :=
 lse_e H 4 1 pp [1, 1, 1, 2] s laL 0 0 0 4 bz q [(0, 3)] hpp hs hz hq la_v2 la_s2 (by decide) la_c2 (by decide) (by rw [la_3]; rfl)
theorem la_volc (H : ac) (pp s : AV) (bz : Nat) (hpp : Sl H 1 pp 4 (ints .u8 [1, 1, 1, 2])) (hs : Sl H 6 s laL.length (r6 laL)) (hz : ∃ o, H[bz]? = some (.cells o 0 [.int .i64 4, .int .i64 1, pp, s, .int .i64 0, .int .i64 0, .int .i64 0, .int .i64 4, .bool false])) : ACalls Tryz.prog 32 [.ptr (some (bz, 0))] H (fun v H' => v = .int .i64 9 ∧ H' = H) := by
 have k := lvol_c H 4 1 pp [1, 1, 1, 2] s laL 0 0 0 4 false bz hpp hs hz (by decide) (by decide)
 rw [la_vol] at k
 exact k
set_option maxHeartbeats 4000000 in
set_option maxRecDepth 100000 in
theorem law_c (H : ac)  : ACalls Tryz.prog 6 [] H (fun v H' => v = .bool true ∧ H' = H) := by
 refine AcT false Tryz.func6 ?_; intro hbel Q hQ
 simp -implicitDefEqProofs (maxSteps := 2000000) (disch := omega) only [Option.isNone_some.{0}, Nat.add_assoc, aO, aH, aI, aP, simprocAttr, aB, aC, Function.comp_apply, one1, lenV, ak, ar, au, aop, AV.ofValue, AV.ofCell, AV.cells, AV.flat, AV.one, arep, aN, az]
 repeat refine And.intro (by omega) ?_
 refine af (by kernel_rfl) (lnew_y _ 4 1 _ [0, 0, 0, 0] _ [(32, 32, 40, 32, 0, 1)] 0 0 0 4 ⟨_, _, _, by first | rfl | (rw [List.length_append]; done) | (rw [List.length_append]; rfl), by first | rfl | (rw [ap]; rfl) | (rw [al]; rfl) | (rw [ap, am]; rfl) | (rw [al, am]; rfl)⟩ ⟨_, _, _, by first | rfl | (rw [List.length_append]; done) | (rw [List.length_append]; rfl), by first | rfl | (rw [ap]; rfl) | (rw [al]; rfl) | (rw [ap, am]; rfl) | (rw [al, am]; rfl)⟩ la_v la_l la_b) ?_
 simp -implicitDefEqProofs (maxSteps := 2000000) (disch := omega) only [Option.isNone_some.{0}, Nat.add_assoc, aO, aH, aI, aP, simprocAttr, aB, aC, Function.comp_apply, one1, lenV, ak, ar, au, aop, AV.ofValue, AV.ofCell, AV.cells, AV.flat, AV.one, arep, aN, az]
 repeat refine And.intro (by omega) ?_
 refine af (by kernel_rfl) (la_see1 _ (.sl (some (H.length + 2, 0)) 4 none) (.sl (some (H.length + 3, 0)) 1 none) _ _ ⟨_, _, _, by first | rfl | (rw [List.length_append]; done) | (rw [List.length_append]; rfl), by first | rfl | (rw [ap]; rfl) | (rw [al]; rfl) | (rw [ap, am]; rfl) | (rw [al, am]; rfl)⟩ ⟨_, _, _, by first | rfl | (rw [List.length_append]; done) | (rw [List.length_append]; rfl), by first | rfl | (rw [ap]; rfl) | (rw [al]; rfl) | (rw [ap, am]; rfl) | (rw [al, am]; rfl)⟩ (by first | rfl | (rw [ap]; rfl) | (rw [al]; rfl) | (rw [al])) ⟨_, _, _, by first | rfl | (rw [List.length_append]; done) | (rw [List.length_append]; rfl), by first | rfl | (rw [ap]; rfl) | (rw [al]; rfl) | (rw [ap, am]; rfl) | (rw [al, am]; rfl)⟩) ?_
 simp -implicitDefEqProofs (maxSteps := 2000000) (disch := omega) only [Option.isNone_some.{0}, Nat.add_assoc, aO, aH, aI, aP, simprocAttr, aB, aC, Function.comp_apply, one1, lenV, ak, ar, au, aop, AV.ofValue, AV.ofCell, AV.cells, AV.flat, AV.one, arep, aN, az]
 repeat refine And.intro (by omega) ?_
 refine af (by kernel_rfl) (la_volc _ (.sl (some (H.length + 6, 0)) 4 none) (.sl (some (H.length + 7, 0)) laL.length none) _ ⟨_, _, _, by first | rfl | (rw [List.length_append]; done) | (rw [List.length_append]; rfl), by first | rfl | (rw [ap]; rfl) | (rw [al]; rfl) | (rw [ap, am]; rfl) | (rw [al, am]; rfl)⟩ ⟨_, _, _, by first | rfl | (rw [List.length_append]; done) | (rw [List.length_append]; rfl), by first | rfl | (rw [ap]; rfl) | (rw [al]; rfl) | (rw [ap, am]; rfl) | (rw [al, am]; rfl)⟩ ⟨_, by first | rfl | (rw [ap]; rfl) | (rw [al]; rfl) | (rw [al])⟩) ?_
 simp -implicitDefEqProofs (maxSteps := 2000000) (disch := omega) only [Option.isNone_some.{0}, Nat.add_assoc, aO, aH, aI, aP, simprocAttr, aB, aC, Function.comp_apply, one1, lenV, ak, ar, au, aop, AV.ofValue, AV.ofCell, AV.cells, AV.flat, AV.one, arep, aN, az]
 repeat refine And.intro (by omega) ?_
 refine af (by kernel_rfl) (lplan_c _ 4 1 (.sl (some (H.length + 6, 0)) 4 none) [1, 1, 1, 2] (.sl (some (H.length + 7, 0)) laL.length none) laL 0 0 0 4 false _ ⟨_, _, _, by first | rfl | (rw [List.length_append]; done) | (rw [List.length_append]; rfl), by first | rfl | (rw [ap]; rfl) | (rw [al]; rfl) | (rw [ap, am]; rfl) | (rw [al, am]; rfl)⟩ ⟨_, _, _, by first | rfl | (rw [List.length_append]; done) | (rw [List.length_append]; rfl), by first | rfl | (rw [ap]; rfl) | (rw [al]; rfl) | (rw [ap, am]; rfl) | (rw [al, am]; rfl)⟩ ⟨_, by first | rfl | (rw [ap]; rfl) | (rw [al]; rfl) | (rw [al])⟩ (by decide) (by decide)) ?_
 simp -implicitDefEqProofs (maxSteps := 2000000) (disch := omega) only [Option.isNone_some.{0}, Nat.add_assoc, aO, aH, aI, aP, simprocAttr, aB, aC, Function.comp_apply, one1, lenV, ak, ar, au, aop, AV.ofValue, AV.ofCell, AV.cells, AV.flat, AV.one, arep, aN, az]
 repeat refine And.intro (by omega) ?_
 refine af (by kernel_rfl) (bytes_s _ [1, 1, 1, 2] _ _ (.inr ⟨_, _, _, by first | rfl | (rw [List.length_append]; done) | (rw [List.length_append]; rfl), by first | rfl | (rw [ap]; rfl) | (rw [al]; rfl) | (rw [ap, am]; rfl) | (rw [al, am]; rfl)⟩) (.inr ⟨_, _, _, by first | rfl | (rw [List.length_append]; done) | (rw [List.length_append]; rfl), by first | rfl | (rw [ap]; rfl) | (rw [al]; rfl) | (rw [ap, am]; rfl) | (rw [al, am]; rfl)⟩)) ?_
 simp -implicitDefEqProofs (maxSteps := 2000000) (disch := omega) only [Option.isNone_some.{0}, Nat.add_assoc, aO, aH, aI, aP, simprocAttr, aB, aC, Function.comp_apply, one1, lenV, ak, ar, au, aop, AV.ofValue, AV.ofCell, AV.cells, AV.flat, AV.one, arep, aN, az]
 repeat refine And.intro (by omega) ?_
 refine af (by kernel_rfl) (nz _ 4 1 (.sl (some (H.length + 6, 0)) 4 none) [1, 1, 1, 2] (.sl (some (H.length + 7, 0)) laL.length none) laL 0 0 0 4 false _ ⟨_, _, _, by first | rfl | (rw [List.length_append]; done) | (rw [List.length_append]; rfl), by first | rfl | (rw [ap]; rfl) | (rw [al]; rfl) | (rw [ap, am]; rfl) | (rw [al, am]; rfl)⟩ ⟨_, _, _, by first | rfl | (rw [List.length_append]; done) | (rw [List.length_append]; rfl), by first | rfl | (rw [ap]; rfl) | (rw [al]; rfl) | (rw [ap, am]; rfl) | (rw [al, am]; rfl)⟩ ⟨_, by first | rfl | (rw [ap]; rfl) | (rw [al]; rfl) | (rw [al])⟩) ?_
 simp -implicitDefEqProofs (maxSteps := 2000000) (disch := omega) only [Option.isNone_some.{0}, Nat.add_assoc, aO, aH, aI, aP, simprocAttr, aB, aC, Function.comp_apply, one1, lenV, ak, ar, au, aop, AV.ofValue, AV.ofCell, AV.cells, AV.flat, AV.one, arep, aN, az]
 repeat refine And.intro (by omega) ?_
 refine af (by kernel_rfl) (la_see2 _ (.sl (some (H.length + 6, 0)) 4 none) (.sl (some (H.length + 7, 0)) laL.length none) _ _ ⟨_, _, _, by first | rfl | (rw [List.length_append]; done) | (rw [List.length_append]; rfl), by first | rfl | (rw [ap]; rfl) | (rw [al]; rfl) | (rw [ap, am]; rfl) | (rw [al, am]; rfl)⟩ ⟨_, _, _, by first | rfl | (rw [List.length_append]; done) | (rw [List.length_append]; rfl), by first | rfl | (rw [ap]; rfl) | (rw [al]; rfl) | (rw [ap, am]; rfl) | (rw [al, am]; rfl)⟩ (by first | rfl | (rw [ap]; rfl) | (rw [al]; rfl) | (rw [al])) ⟨_, _, _, by first | rfl | (rw [List.length_append]; done) | (rw [List.length_append]; rfl), by first | rfl | (rw [ap]; rfl) | (rw [al]; rfl) | (rw [ap, am]; rfl) | (rw [al, am]; rfl)⟩) ?_
 simp -implicitDefEqProofs (maxSteps := 2000000) (disch := omega) only [Option.isNone_some.{0}, Nat.add_assoc, aO, aH, aI, aP, simprocAttr, aB, aC, Function.comp_apply, one1, lenV, ak, ar, au, aop, AV.ofValue, AV.ofCell, AV.cells, AV.flat, AV.one, arep, aN, az]
 repeat refine And.intro (by omega) ?_
 exact hQ _ _ (ae (.inl rfl) hbel (x := .bool true) (mc Tryz.results6 (by simp -implicitDefEqProofs (maxSteps := 2000000) (disch := omega) only [simprocAttr, aB, aC, Function.comp_apply, one1, lenV, ak, ar, au, aop, AV.ofValue, AV.ofCell, AV.cells, AV.flat, AV.one, arep, aN, aD, az])) rfl ⟨rfl, rfl⟩)
open Go.RowKit
theorem wth_c (H : ac) (tu : Int) (le : Int) (sl : Int) (ra : Int) (x : Int) (y : Int) (h : Int) (t : Int) (f : Int) (p : Int) (q : Int) (r : Int) (still : Bool) : ACalls Tryz.prog 15 [.agg [.int .i64 tu, .int .i64 le, .int .i64 sl, .int .i64 ra], .agg [.int .i64 x, .int .i64 y, .int .i64 h], .agg [.int .i64 t, .int .i64 f], .agg [.int .i64 p, .int .i64 q, .int .i64 r], .bool still] H (fun v H' => v = .bool (eL tu le sl ra x y h t f p q r still) ∧ H' = H) := by
 refine AcT true Tryz.func15 ?_; intro hbel Q hQ
 refine aY ?_
 refine af (by kernel_rfl) (i8 _ tu le sl ra) ?_
 refine aY ?_
 refine aj (fun h1 => ?_) (fun h1 => ?_)
 ·have h1d := bsT h1
  have hBi := h1d
  simp only [cJ, Bool.and_eq_true, bu] at hBi
  have g'1 := (jn @h1 @h1d)
  refine aa g'1 ?_
  refine af (by kernel_rfl) (dvps_c _ x y h) ?_
  refine aa g'1 ?_
  refine aj (fun h2 => ?_) (fun h2 => ?_)
  ·have h2d := bsT h2
   have hPI := fc.1 h2d
   have hPb := bu.1 hPI.2
   have hPa := hPI.1
   simp only [ptB, Bool.and_eq_true, br] at hPa
   have g'2 := (jn @h2 (jn @h2d g'1))
   refine aa g'2 ?_
   refine af (by kernel_rfl) (fJ _ t f) ?_
   refine aa g'2 ?_
   refine aj (fun h3 => ?_) (fun h3 => ?_)
   ·have h3d := bsT h3
    have hCm := h3d
    have hCi := h3d
    simp only [cQ, Bool.and_eq_true, bu, br] at hCi
    have g'3 := (jn @h3 (jn @h3d g'2))
    refine aa g'3 ?_
    refine af (by kernel_rfl) (dvps_c _ p q r) ?_
    refine aa g'3 ?_
    refine ai (fun h4 => ?_) (fun h4 => ?_)
    ·have h4d := bsT h4
     have g'4 := (jn @h4 (jn @h4d g'3))
     refine aa g'4 ?_
     exact hQ _ _ (ae (.inl rfl) hbel (x := .bool false) (ag Tryz.results15) rfl ⟨by simp only [eL, h1d, h2d, h3d, h4d, h1, h2, h3, h4, Bool.true_and, Bool.and_true, Bool.false_and, Bool.and_false, Bool.true_or, Bool.false_or, Bool.or_false, cond_true, cond_false, beq_self_eq_true], rfl⟩)
    ·have h4d := bsT h4
     have hUI := fc.1 h4d
     have hUb := bu.1 hUI.2
     have hUa := hUI.1
     simp only [ptB, Bool.and_eq_true, br] at hUa
     have g'5 := (jn @h4 (jn @h4d g'3))
     refine aa g'5 ?_
     refine aK (by kernel_rfl) (dturn_c _ (h + t) (by omega)) ?_
     refine aa g'5 ?_
     refine aK (by kernel_rfl) (delta_c _ ((((h + t) % 256).toNat : Nat) : Int) r (by omega) (by omega)) ?_
     refine aa g'5 ?_
     refine aK (by kernel_rfl) (fA _ (delI ((((h + t) % 256).toNat : Nat) : Int) r) tu (by first | decide | omega)) ?_
     refine aa g'5 ?_
     refine ai (fun h5 => ?_) (fun h5 => ?_)
     ·have h5d := bsT h5
      have g'6 := (jn @h5 (jn @h5d g'5))
      refine aa g'6 ?_
      exact hQ _ _ (ae (.inl rfl) hbel (x := .bool false) (ag Tryz.results15) rfl ⟨by simp only [eL, h1d, h2d, h3d, h4d, h5d, h1, h2, h3, h4, h5, Bool.true_and, Bool.and_true, Bool.false_and, Bool.and_false, Bool.true_or, Bool.false_or, Bool.or_false, cond_true, cond_false, beq_self_eq_true], rfl⟩)
     ·have h5d := bsT h5
      have g'7 := (jn @h5 (jn @h5d g'5))
      refine aa g'7 ?_
      refine aj (fun h6 => ?_) (fun h6 => ?_)
      ·have h6d := bsT h6
       have g'8 := (jn @h6 (jn @h6d g'7))
       refine aa g'8 ?_
       refine ai (fun h7 => ?_) (fun h7 => ?_)
       ·have h7d := bsT h7
        have h7n := bnT h7
        have hfinC : cQ t 0 = true := by have z := hCm; rw [h7d] at z; exact z
        have g'9 := (jn @h7 (jn @h7n (jn @aU (jn @aT g'8))))
        refine aa g'9 ?_
        refine aj (fun h8 => ?_) (fun h8 => ?_)
        ·have h8d := bsT h8
         have h8n := bnT h8
         have g'10 := (jn @h8 (jn @h8n g'9))
         refine aa g'10 ?_
         exact hQ _ _ (ae (.inl rfl) hbel (x := .bool ((q - y) == 0)) (resTf (jn @aT @aU) Tryz.results15) rfl ⟨by simp only [eL, h1d, h2d, h3d, h4d, h5d, h6d, h7d, hfinC, h8d, h1, h2, h3, h4, h5, h6, h7, h8, h7d, hfinC, h8d, Bool.true_and, Bool.and_true, Bool.false_and, Bool.and_false, Bool.true_or, Bool.false_or, Bool.or_false, cond_true, cond_false, beq_self_eq_true], rfl⟩)
        ·have h8d := bsT h8
         have h8n := bnT h8
         have hfinX : (p - x == 0) = false := beq_eq_false_iff_ne.2 (by omega)
         have g'11 := (jn @h8 (jn @h8n g'9))
         refine aa g'11 ?_
         exact hQ _ _ (ae (.inl rfl) hbel (x := .bool false) (ag Tryz.results15) rfl ⟨by simp only [eL, h1d, h2d, h3d, h4d, h5d, h6d, h7d, hfinC, h8d, hfinX, h1, h2, h3, h4, h5, h6, h7, h8, h7d, hfinC, h8d, hfinX, Bool.true_and, Bool.and_true, Bool.false_and, Bool.and_false, Bool.true_or, Bool.false_or, Bool.or_false, cond_true, cond_false, beq_self_eq_true], rfl⟩)
       ·have h7d := bsT h7
        have h7n := bnT h7
        have g'12 := (jn @h7 (jn @h7n (jn @aU (jn @aT g'8))))
        refine aa g'12 ?_
        have hz0 : (0 - le) + ((0 : Nat) : Int) = 0 - le := by omega
        refine go_loop try_mixed (by kernel_rfl) (fun k F Hx => ∃ j : Nat, j + k = (2 * le + 1).toNat ∧ (∀ n : Nat, n < j → wiC f le sl (p - x) (q - y) r n = false) ∧ F = [(5, .ptr (some (H.length, 0))), (7, .ptr (some (H.length + 1, 0))), (8, .ptr (some (H.length + 2, 0))), (11, .int .i64 (p - x)), (12, .int .i64 (q - y)), (13, .int .i64 ((0 - le) + ((j : Nat) : Int)))] ∧ Hx = H ++ [.cells true 0 [.int .i64 tu, .int .i64 le, .int .i64 sl, .int .i64 ra], .cells true 0 [.int .i64 t, .int .i64 f], .cells true 0 [.int .i64 p, .int .i64 q, .int .i64 r]]) ((2 * le + 1).toNat) ?_ ?_
        ·refine ⟨_, _, _, ⟨0, by omega, fun n h => by omega, rfl, rfl⟩, Abs.byG hbel [] rfl [0, 2, 3] (by decide) ?_⟩
         exact bp (jn @hz0 (jn @Int.natCast_zero (jn @Int.add_zero @Int.ofNat_zero)))
        ·rintro k0 F Hx ⟨j, hm0, hall, rfl, rfl⟩ J0 hJ0
         have hz1 : (0 - le) + ((j + 1 : Nat) : Int) = (0 - le) + ((j : Nat) : Int) + 1 := by omega
         refine aa g'12 ?_
         refine ai (fun h9 => ?_) (fun h9 => ?_)
         ·have h9d := bsT h9
          have hmx : 0 ≤ mxI (f + ((0 - le) + ((j : Nat) : Int))) 0 ∧ mxI (f + ((0 - le) + ((j : Nat) : Int))) 0 ≤ 64 := by unfold mxI; split <;> omega
          have hwb := ke r hmx.1
          have g'13 := (jn @h9 (jn @h9d g'12))
          refine aa g'13 ?_
          refine af (by kernel_rfl) (cm _ r (f + ((0 - le) + ((j : Nat) : Int))) (by omega)) ?_
          refine aa g'13 ?_
          refine af (by kernel_rfl) (fA _ ((p - x) - (cE r (mxI (f + ((0 - le) + ((j : Nat) : Int))) 0))) sl (by first | decide | omega)) ?_
          refine aa g'13 ?_
          refine aj (fun h10 => ?_) (fun h10 => ?_)
          ·have h10d := bsT h10
           have hwa := h10d
           have g'14 := (jn @h10 (jn @h10d g'13))
           refine aa g'14 ?_
           refine af (by kernel_rfl) (fA _ ((q - y) - (cF r (mxI (f + ((0 - le) + ((j : Nat) : Int))) 0))) sl (by first | decide | omega)) ?_
           refine aa g'14 ?_
           refine ai (fun h11 => ?_) (fun h11 => ?_)
           ·have h11d := bsT h11
            have hfinW : wiA f le sl (p - x) (q - y) r = true := wiA_y (j := j) (by omega) (show wiC f le sl (p - x) (q - y) r j = true by unfold wiC; rw [show bZ ((p - x) - (cE r (mxI (f + ((0 - le) + ((j : Nat) : Int))) 0))) sl = true from hwa, show bZ ((q - y) - (cF r (mxI (f + ((0 - le) + ((j : Nat) : Int))) 0))) sl = true from h11d]; rfl)
            have g'15 := (jn @h11 (jn @h11d g'14))
            refine aa g'15 ?_
            exact hQ _ _ (ae (.inl rfl) hbel (x := .bool true) (ag Tryz.results15) rfl ⟨by simp only [eL, h1d, h2d, h3d, h4d, h5d, h6d, h9d, h10d, h11d, h7d, hfinW, h1, h2, h3, h4, h5, h6, h7, h9, h10, h11, h7d, hfinW, Bool.true_and, Bool.and_true, Bool.false_and, Bool.and_false, Bool.true_or, Bool.false_or, Bool.or_false, cond_true, cond_false, beq_self_eq_true], rfl⟩)
           ·have h11d := bsT h11
            have hwc : wiC f le sl (p - x) (q - y) r j = false := by unfold wiC; rw [show bZ ((q - y) - (cF r (mxI (f + ((0 - le) + ((j : Nat) : Int))) 0))) sl = false from h11d, Bool.and_false]
            have g'16 := (jn @h11 (jn @h11d g'14))
            refine aa g'16 ?_
            refine hJ0 _ _ ⟨k0 - 1, by omega, _, _, _, ⟨j + 1, by omega, fun n hn => by
                  rcases Nat.lt_or_ge n j with z | z
                  ·exact hall n z
                  ·rw [show n = j by omega]; exact hwc, rfl, rfl⟩, Abs.byG hbel [] rfl [0, 1, 2] (by decide) ?_⟩
            exact bp @hz1
          ·have h10d := bsT h10
           have hwc : wiC f le sl (p - x) (q - y) r j = false := by unfold wiC; rw [show bZ ((p - x) - (cE r (mxI (f + ((0 - le) + ((j : Nat) : Int))) 0))) sl = false from h10d]; rfl
           have g'17 := (jn @h10 (jn @h10d g'13))
           refine aa g'17 ?_
           refine hJ0 _ _ ⟨k0 - 1, by omega, _, _, _, ⟨j + 1, by omega, fun n hn => by
                 rcases Nat.lt_or_ge n j with z | z
                 ·exact hall n z
                 ·rw [show n = j by omega]; exact hwc, rfl, rfl⟩, Abs.byG hbel [] rfl [0, 1, 2] (by decide) ?_⟩
           exact bp @hz1
         ·have h9d := bsT h9
          have hfinW : wiA f le sl (p - x) (q - y) r = false := wiA_n fun n hn => hall n (by omega)
          have g'18 := (jn @h9 (jn @h9d g'12))
          refine aa g'18 ?_
          exact hQ _ _ (ae (.inl rfl) hbel (x := .bool false) (ag Tryz.results15) rfl ⟨by simp only [eL, h1d, h2d, h3d, h4d, h5d, h6d, h9d, h7d, hfinW, h1, h2, h3, h4, h5, h6, h7, h9, h7d, hfinW, Bool.true_and, Bool.and_true, Bool.false_and, Bool.and_false, Bool.true_or, Bool.false_or, Bool.or_false, cond_true, cond_false, beq_self_eq_true], rfl⟩)
      ·have h6d := bsT h6
       have g'19 := (jn @h6 (jn @h6d g'7))
       refine aa g'19 ?_
       refine aj (fun h12 => ?_) (fun h12 => ?_)
       ·have h12d := bsT h12
        have h12n := bnT h12
        have g'20 := (jn @h12 (jn @h12n (jn @aU (jn @aT g'19))))
        refine aa g'20 ?_
        exact hQ _ _ (ae (.inl rfl) hbel (x := .bool ((q - y) == 0)) (resTf (jn @aT @aU) Tryz.results15) rfl ⟨by simp only [eL, h1d, h2d, h3d, h4d, h5d, h6d, h12d, h1, h2, h3, h4, h5, h6, h12, h12d, Bool.true_and, Bool.and_true, Bool.false_and, Bool.and_false, Bool.true_or, Bool.false_or, Bool.or_false, cond_true, cond_false, beq_self_eq_true], rfl⟩)
       ·have h12d := bsT h12
        have h12n := bnT h12
        have hfinX : (p - x == 0) = false := beq_eq_false_iff_ne.2 (by omega)
        have g'21 := (jn @h12 (jn @h12n (jn @aU (jn @aT g'19))))
        refine aa g'21 ?_
        exact hQ _ _ (ae (.inl rfl) hbel (x := .bool false) (ag Tryz.results15) rfl ⟨by simp only [eL, h1d, h2d, h3d, h4d, h5d, h6d, h12d, hfinX, h1, h2, h3, h4, h5, h6, h12, h12d, hfinX, Bool.true_and, Bool.and_true, Bool.false_and, Bool.and_false, Bool.true_or, Bool.false_or, Bool.or_false, cond_true, cond_false, beq_self_eq_true], rfl⟩)
   ·have h3d := bsT h3
    have g'22 := (jn @h3 (jn @h3d g'2))
    refine aa g'22 ?_
    exact hQ _ _ (ae (.inl rfl) hbel (x := .bool false) (ag Tryz.results15) rfl ⟨by simp only [eL, h1d, h2d, h3d, h1, h2, h3, Bool.true_and, Bool.and_true, Bool.false_and, Bool.and_false, Bool.true_or, Bool.false_or, Bool.or_false, cond_true, cond_false, beq_self_eq_true], rfl⟩)
  ·have h2d := bsT h2
   have g'23 := (jn @h2 (jn @h2d g'1))
   refine aa g'23 ?_
   exact hQ _ _ (ae (.inl rfl) hbel (x := .bool false) (ag Tryz.results15) rfl ⟨by simp only [eL, h1d, h2d, h1, h2, Bool.true_and, Bool.and_true, Bool.false_and, Bool.and_false, Bool.true_or, Bool.false_or, Bool.or_false, cond_true, cond_false, beq_self_eq_true], rfl⟩)
 ·have h1d := bsT h1
  have g'24 := (jn @h1 @h1d)
  refine aa g'24 ?_
  exact hQ _ _ (ae (.inl rfl) hbel (x := .bool false) (ag Tryz.results15) rfl ⟨by simp only [eL, h1d, h1, Bool.true_and, Bool.and_true, Bool.false_and, Bool.and_false, Bool.true_or, Bool.false_or, Bool.or_false, cond_true, cond_false, beq_self_eq_true], rfl⟩)
open Go.RowKit
theorem rvb_c (H : ac) (m : Int) (z : Int) : ACalls Tryz.prog 81 [.agg [.int .i64 m, .int .i64 z]] H (fun v H' => v = .bool (df m z) ∧ H' = H) := by
 refine AcT true Tryz.func81 ?_; intro hbel Q hQ
 refine aY ?_
 refine af (by kernel_rfl) (jg _ m 0 255) ?_
 refine aY ?_
 refine aj (fun h1 => ?_) (fun h1 => ?_)
 ·have h1d := bsT h1
  have g'1 := (jn @h1 @h1d)
  refine aa g'1 ?_
  refine af (by kernel_rfl) (jg _ z (-1) 1024) ?_
  refine aa g'1 ?_
  exact hQ _ _ (ae (.inl rfl) hbel (x := .bool (btw z (-1) 1024)) (ag Tryz.results81) rfl ⟨by first | (simp [df, h1d]; done) | (simp [df, btw, h1d]; done), rfl⟩)
 ·have h1d := bsT h1
  have g'2 := (jn @h1 @h1d)
  refine aa g'2 ?_
  exact hQ _ _ (ae (.inl rfl) hbel (x := .bool false) (ag Tryz.results81) rfl ⟨by first | (simp [df, h1d]; done) | (simp [df, btw, h1d]; done), rfl⟩)
theorem plb_c (H : ac) (W : Int) (Hh : Int) (pp : AV) (xs : List Int) (x : Int) (y : Int) (h : Int) (m : Int) (z : Int) (g : Int) (hpp : Sl H 1 pp xs.length (ints .u8 xs)) : ACalls Tryz.prog 51 [.agg [.int .i64 W, .int .i64 Hh, pp], .agg [.int .i64 x, .int .i64 y, .int .i64 h], .agg [.int .i64 m, .int .i64 z], .int .i64 g] H (fun v H' => v = .bool (plB W Hh xs x y h g (m, z)) ∧ H' = H) := by
 obtain ⟨bpp, opp, cpp, rfl, hbpp⟩ := hpp
 have hblpp := getElem?_lt hbpp
 have hb0pp := fun l => aw (l := l) hbpp
 refine AcT true Tryz.func51 ?_; intro hbel Q hQ
 have g'3 := (jn @hbpp @hb0pp)
 refine aa g'3 ?_
 refine af (by kernel_rfl) (rpst_c _ W Hh _ xs x y h ⟨_, _, _, rfl, by first | exact hb0pp _ | exact hbpp⟩) ?_
 refine aa g'3 ?_
 refine aj (fun h1 => ?_) (fun h1 => ?_)
 ·have h1d := bsT h1
  have hG := h1d
  have hip : inpB W Hh xs x y = true := by have q := hG; unfold stdB at q; rw [Bool.and_eq_true] at q; exact q.1
  have hxy := (iD.1 hip).2
  have hVV := bM.1 (iD.1 hip).1
  have hw1 := hVV.w1
  have hh1 := hVV.h1
  have g'4 := (jn @h1 (jn @h1d g'3))
  refine aa g'4 ?_
  refine af (by kernel_rfl) (rvb_c _ m z) ?_
  refine aa g'4 ?_
  refine aj (fun h2 => ?_) (fun h2 => ?_)
  ·have h2d := bsT h2
   have hbm := h2d
   have hbb := e6.1 h2d
   have g'5 := (jn @h2 (jn @h2d g'4))
   refine aa g'5 ?_
   refine af (by kernel_rfl) (jg _ g 1 32) ?_
   refine aa g'5 ?_
   refine ai (fun h3 => ?_) (fun h3 => ?_)
   ·have h3d := bsT h3
    have g'6 := (jn @h3 (jn @h3d g'5))
    refine aa g'6 ?_
    exact hQ _ _ (ae (.inl rfl) hbel (x := .bool false) (ag Tryz.results51) rfl ⟨by simp only [plB, plC, dm, h1d, h2d, h3d, h1, h2, h3, Bool.true_and, Bool.and_true, Bool.false_and, Bool.and_false, if_true, if_false, Bool.not_true, Bool.not_false], rfl⟩)
   ·have h3d := bsT h3
    have hgg := bu.1 h3d
    have g'7 := (jn @h3 (jn @h3d g'5))
    refine aa g'7 ?_
    refine ai (fun h4 => ?_) (fun h4 => ?_)
    ·have h4d := bsT h4
     have h4n := bnT h4
     have hfinB : df m (-1) = true := by have q := hbm; rw [h4d] at q; exact q
     have g'8 := (jn @h4 (jn @h4n (jn @aU (jn @aT g'7))))
     refine aa g'8 ?_
     refine af (by kernel_rfl) (look_c _ W Hh _ xs x y h m (1024 - g) ⟨_, _, _, rfl, by first | exact hb0pp _ | exact hbpp⟩ hip (by omega)) ?_
     refine aa g'8 ?_
     exact hQ _ _ (ae (.inl rfl) hbel (x := .bool (!((lkS W Hh xs x y h m (1024 - g)).isSome))) (ag Tryz.results51) rfl ⟨by simp only [plB, plC, dm, h1d, h2d, h3d, h4d, hfinB, h1, h2, h3, h4, h4d, hfinB, Bool.true_and, Bool.and_true, Bool.false_and, Bool.and_false, if_true, if_false, Bool.not_true, Bool.not_false], rfl⟩)
    ·have h4d := bsT h4
     have h4n := bnT h4
     have g'9 := (jn @h4 (jn @h4n (jn @aU (jn @aT g'7))))
     refine aa g'9 ?_
     refine af (by kernel_rfl) (look_c _ W Hh _ xs x y h m (z + g) ⟨_, _, _, rfl, by first | exact hb0pp _ | exact hbpp⟩ hip (by omega)) ?_
     refine aa g'9 ?_
     refine aj (fun h5 => ?_) (fun h5 => ?_)
     ·have h5d := bsT h5
      obtain ⟨bb, hbb2⟩ := Option.isSome_iff_exists.1 h5d
      have hbd0 := lk_bd (by omega) (by omega) (by omega) hbb2
      have hmb := bS (a := z - g) (b := lkD W Hh xs x y h m (z + g)) (A := 1056) (B := 67108864) (by omega) (by omega)
      have g'10 := (jn @h5 (jn @h5d g'9))
      refine aa g'10 ?_
      exact hQ _ _ (ae (.inl rfl) hbel (x := .bool (decide (((z - g) * (lkD W Hh xs x y h m (z + g))) ≤ (lkN W Hh xs x y h m (z + g))))) (ag Tryz.results51) rfl ⟨by simp only [plB, plC, dm, h1d, h2d, h3d, h5d, h4d, h1, h2, h3, h4, h5, h4d, Bool.true_and, Bool.and_true, Bool.false_and, Bool.and_false, if_true, if_false, Bool.not_true, Bool.not_false], rfl⟩)
     ·have h5d := bsT h5
      have g'11 := (jn @h5 (jn @h5d g'9))
      refine aa g'11 ?_
      exact hQ _ _ (ae (.inl rfl) hbel (x := .bool false) (ag Tryz.results51) rfl ⟨by simp only [plB, plC, dm, h1d, h2d, h3d, h5d, h4d, h1, h2, h3, h4, h5, h4d, Bool.true_and, Bool.and_true, Bool.false_and, Bool.and_false, if_true, if_false, Bool.not_true, Bool.not_false], rfl⟩)
  ·have h2d := bsT h2
   have g'12 := (jn @h2 (jn @h2d g'4))
   refine aa g'12 ?_
   exact hQ _ _ (ae (.inl rfl) hbel (x := .bool false) (ag Tryz.results51) rfl ⟨by simp only [plB, plC, dm, h1d, h2d, h1, h2, Bool.true_and, Bool.and_true, Bool.false_and, Bool.and_false, if_true, if_false, Bool.not_true, Bool.not_false], rfl⟩)
 ·have h1d := bsT h1
  have g'13 := (jn @h1 (jn @h1d g'3))
  refine aa g'13 ?_
  exact hQ _ _ (ae (.inl rfl) hbel (x := .bool false) (ag Tryz.results51) rfl ⟨by simp only [plB, plC, dm, h1d, h1, Bool.true_and, Bool.and_true, Bool.false_and, Bool.and_false, if_true, if_false, Bool.not_true, Bool.not_false], rfl⟩)
theorem pla_c (H : ac) (W : Int) (Hh : Int) (pp : AV) (xs : List Int) (x : Int) (y : Int) (h : Int) (q : AV) (sc : List (Int × Int)) (g : Int) (hpp : Sl H 1 pp xs.length (ints .u8 xs)) (hq : Sl H 2 q sc.length (prs sc)) (hl : sc.length ≤ 1000000000) : ACalls Tryz.prog 16 [.agg [.int .i64 W, .int .i64 Hh, pp], .agg [.int .i64 x, .int .i64 y, .int .i64 h], q, .int .i64 g] H (fun v H' => v = .bool (plL W Hh xs x y h g sc) ∧ H' = H) := by
 obtain ⟨bpp, opp, cpp, rfl, hbpp⟩ := hpp
 have hblpp := getElem?_lt hbpp
 have hb0pp := fun l => aw (l := l) hbpp
 obtain ⟨bq, oq, cq, rfl, hbq⟩ := hq
 have hblq := getElem?_lt hbq
 have hb0q := fun l => aw (l := l) hbq
 refine AcT true Tryz.func16 ?_; intro hbel Q hQ
 have g'14 := (jn @hbpp (jn @hb0pp (jn @hbq @hb0q)))
 refine aa g'14 ?_
 refine go_loop try_mixed (by kernel_rfl) (fun k F Hx => ∃ i : Nat, i + k = sc.length ∧ (∀ j : Nat, j < i → plB W Hh xs x y h g (g1 sc j, g2 sc j) = true) ∧ F = [(2, .sl (some (bq, 0)) sc.length cq), (3, .int .i64 g), (4, .ptr (some (H.length, 0))), (5, .ptr (some (H.length + 1, 0))), (11, .sl (some (bq, 0)) sc.length cq), (12, .int .i64 ((sc.length : Nat) : Int)), (13, .int .i64 ((i : Nat) : Int))] ∧ Hx = H ++ [.cells true 0 [.int .i64 W, .int .i64 Hh, .sl (some (bpp, 0)) xs.length cpp], .cells true 0 [.int .i64 x, .int .i64 y, .int .i64 h]]) (sc.length) ?_ ?_
 ·refine ⟨_, _, _, ⟨0, by omega, fun j h => by omega, rfl, rfl⟩, Abs.byG hbel [] rfl [0, 1] (by decide) ?_⟩
  exact be
 ·rintro k0 F Hx ⟨i, hm0, hall, rfl, rfl⟩ J0 hJ0
  refine aa g'14 ?_
  refine ai (fun h1 => ?_) (fun h1 => ?_)
  ·have h1d := bsT h1
   have hlt : i < sc.length := by omega
   have q2 := cI (l := sc) (j := i) (by omega)
   have g'15 := (jn @h1 (jn @h1d (jn @q2 g'14)))
   refine aa g'15 ?_
   refine af (by kernel_rfl) (plb_c _ W Hh _ xs x y h (g1 sc i) (g2 sc i) g ⟨_, _, _, rfl, by first | exact hb0pp _ | exact hbpp⟩) ?_
   refine aa g'15 ?_
   refine ai (fun h3 => ?_) (fun h3 => ?_)
   ·have h3d := bsT h3
    have hfinP := plL_n hlt h3d
    have g'16 := (jn @h3 (jn @h3d g'15))
    refine aa g'16 ?_
    exact hQ _ _ (ae (.inl rfl) hbel (x := .bool false) (ag Tryz.results16) rfl ⟨by first | (rw [hfinP]; done) | (rw [hfinP]; rfl), rfl⟩)
   ·have h3d := bsT h3
    have hpi := h3d
    have g'17 := (jn @h3 (jn @h3d g'15))
    refine aa g'17 ?_
    refine hJ0 _ _ ⟨k0 - 1, by omega, _, _, _, ⟨i + 1, by omega, fun j hj => by
          rcases Nat.lt_or_ge j i with q | q
          ·exact hall j q
          ·rw [show j = i by omega]; exact hpi, rfl, rfl⟩, Abs.byG hbel [] rfl [0, 1] (by decide) ?_⟩
    exact be
  ·have h1d := bsT h1
   obtain rfl : i = sc.length := by omega
   have hfinP := plL_y hall
   have g'18 := (jn @h1 (jn @h1d g'14))
   refine aa g'18 ?_
   exact hQ _ _ (ae (.inl rfl) hbel (x := .bool (decide (((sc.length : Nat) : Int) ≤ 32))) (ag Tryz.results16) rfl ⟨by first | (rw [hfinP]; done) | (rw [hfinP]; rfl), rfl⟩)
open Go.RowKit
theorem hhas_c (H : ac) (f : Int) (c : Int) (h : Int) : ACalls Tryz.prog 68 [.agg [.int .i64 f, .int .i64 c], .int .i64 h] H (fun v H' => v = .bool (hsgB f c h) ∧ H' = H) := by
 refine AcT true Tryz.func68 ?_; intro hbel Q hQ
 refine aY ?_
 refine aK (by kernel_rfl) (iB _ f c) ?_
 refine aY ?_
 refine aj (fun h1 => ?_) (fun h1 => ?_)
 ·have h1d := bsT h1
  have g'1 := (jn @h1 @h1d)
  refine aa g'1 ?_
  refine aK (by kernel_rfl) (iw _ (IntKind.i64.wrap (h - f))) ?_
  refine aa g'1 ?_
  exact hQ _ _ (ae (.inl rfl) hbel (x := .bool (decide (((((IntKind.i64.wrap (h - f)) % 256).toNat : Nat) : Int) < c))) (ag Tryz.results68) rfl ⟨by first | (simp [hsgB, h1d]; done) | (unfold hsgB; simp [h1d]; done), rfl⟩)
 ·have h1d := bsT h1
  have g'2 := (jn @h1 @h1d)
  refine aa g'2 ?_
  exact hQ _ _ (ae (.inl rfl) hbel (x := .bool false) (ag Tryz.results68) rfl ⟨by first | (simp [hsgB, h1d]; done) | (unfold hsgB; simp [h1d]; done), rfl⟩)
theorem bhas_c (H : ac) (x0 : Int) (y0 : Int) (x1 : Int) (y1 : Int) (f : Int) (c : Int) (px : Int) (py : Int) (ph : Int) : ACalls Tryz.prog 38 [.agg [.int .i64 x0, .int .i64 y0, .int .i64 x1, .int .i64 y1, .int .i64 f, .int .i64 c], .agg [.int .i64 px, .int .i64 py, .int .i64 ph]] H (fun v H' => v = .bool (hbB px py ph (x0, y0, x1, y1, f, c)) ∧ H' = H) := by
 refine AcT true Tryz.func38 ?_; intro hbel Q hQ
 refine aY ?_
 refine aK (by kernel_rfl) (eO _ x0 y0 x1 y1 f c) ?_
 refine aY ?_
 refine aj (fun h1 => ?_) (fun h1 => ?_)
 ·have h1d := bsT h1
  have g'3 := (jn @h1 @h1d)
  refine aa g'3 ?_
  refine aj (fun h2 => ?_) (fun h2 => ?_)
  ·have h2d := bsT h2
   have g'4 := (jn @h2 (jn @h2d g'3))
   refine aa g'4 ?_
   refine aj (fun h3 => ?_) (fun h3 => ?_)
   ·have h3d := bsT h3
    have g'5 := (jn @h3 (jn @h3d g'4))
    refine aa g'5 ?_
    refine aj (fun h4 => ?_) (fun h4 => ?_)
    ·have h4d := bsT h4
     have g'6 := (jn @h4 (jn @h4d g'5))
     refine aa g'6 ?_
     refine aj (fun h5 => ?_) (fun h5 => ?_)
     ·have h5d := bsT h5
      have g'7 := (jn @h5 (jn @h5d g'6))
      refine aa g'7 ?_
      refine aK (by kernel_rfl) (fi _ x0 y0 x1 y1 f c) ?_
      refine aa g'7 ?_
      refine aK (by kernel_rfl) (hhas_c _ f c ph) ?_
      refine aa g'7 ?_
      exact hQ _ _ (ae (.inl rfl) hbel (x := .bool (hsgB f c ph)) (ag Tryz.results38) rfl ⟨by first | (simp [hbB, h1d, h2d, h3d, h4d, h5d]; done) | (unfold hbB; simp [h1d, h2d, h3d, h4d, h5d]; done) | (unfold hbB; simp [h1d, h2d, h3d, h4d, h5d]; omega), rfl⟩)
     ·have h5d := bsT h5
      have g'8 := (jn @h5 (jn @h5d g'6))
      refine aa g'8 ?_
      exact hQ _ _ (ae (.inl rfl) hbel (x := .bool false) (ag Tryz.results38) rfl ⟨by first | (simp [hbB, h1d, h2d, h3d, h4d, h5d]; done) | (unfold hbB; simp [h1d, h2d, h3d, h4d, h5d]; done) | (unfold hbB; simp [h1d, h2d, h3d, h4d, h5d]; omega), rfl⟩)
    ·have h4d := bsT h4
     have g'9 := (jn @h4 (jn @h4d g'5))
     refine aa g'9 ?_
     exact hQ _ _ (ae (.inl rfl) hbel (x := .bool false) (ag Tryz.results38) rfl ⟨by first | (simp [hbB, h1d, h2d, h3d, h4d]; done) | (unfold hbB; simp [h1d, h2d, h3d, h4d]; done) | (unfold hbB; simp [h1d, h2d, h3d, h4d]; omega), rfl⟩)
   ·have h3d := bsT h3
    have g'10 := (jn @h3 (jn @h3d g'4))
    refine aa g'10 ?_
    exact hQ _ _ (ae (.inl rfl) hbel (x := .bool false) (ag Tryz.results38) rfl ⟨by first | (simp [hbB, h1d, h2d, h3d]; done) | (unfold hbB; simp [h1d, h2d, h3d]; done) | (unfold hbB; simp [h1d, h2d, h3d]; omega), rfl⟩)
  ·have h2d := bsT h2
   have g'11 := (jn @h2 (jn @h2d g'3))
   refine aa g'11 ?_
   exact hQ _ _ (ae (.inl rfl) hbel (x := .bool false) (ag Tryz.results38) rfl ⟨by first | (simp [hbB, h1d, h2d]; done) | (unfold hbB; simp [h1d, h2d]; done) | (unfold hbB; simp [h1d, h2d]; omega), rfl⟩)
 ·have h1d := bsT h1
  have g'12 := (jn @h1 @h1d)
  refine aa g'12 ?_
  exact hQ _ _ (ae (.inl rfl) hbel (x := .bool false) (ag Tryz.results38) rfl ⟨by first | (simp [hbB, h1d]; done) | (unfold hbB; simp [h1d]; done) | (unfold hbB; simp [h1d]; omega), rfl⟩)
theorem bcov1_c (H : ac) (x0 : Int) (y0 : Int) (x1 : Int) (y1 : Int) (f : Int) (c : Int) (px : Int) (py : Int) (ph : Int) (bz : Nat) (hz : ∃ o, H[bz]? = some (.cells o 0 [.int .i64 px, .int .i64 py, .int .i64 ph])) : ACalls Tryz.prog 37 [.agg [.int .i64 x0, .int .i64 y0, .int .i64 x1, .int .i64 y1, .int .i64 f, .int .i64 c], .ptr (some (bz, 0))] H (fun v H' => v = .bool (hbB px py ph (x0, y0, x1, y1, f, c)) ∧ H' = H) := by
 obtain ⟨oz, hbz⟩ := hz
 have hblz := getElem?_lt hbz
 have hb0z := fun l => aw (l := l) hbz
 refine AcT true Tryz.func37 ?_; intro hbel Q hQ
 have g'13 := (jn @hbz @hb0z)
 refine aa g'13 ?_
 refine af (by kernel_rfl) (bhas_c _ x0 y0 x1 y1 f c px py ph) ?_
 refine aa g'13 ?_
 exact hQ _ _ (ae (.inl rfl) hbel (x := .bool (hbB px py ph (x0, y0, x1, y1, f, c))) (ag Tryz.results37) rfl ⟨rfl, rfl⟩)
theorem bcov_c (H : ac) (s : AV) (l : List T6) (px : Int) (py : Int) (ph : Int) (hs : Sl H 6 s l.length (r6 l)) (hl : l.length ≤ 1000000000) : ACalls Tryz.prog 11 [s, .agg [.int .i64 px, .int .i64 py, .int .i64 ph]] H (fun v H' => v = .bool (covB l px py ph) ∧ H' = H) := by
 obtain ⟨bs, os, cs, rfl, hbs⟩ := hs
 have hbls := getElem?_lt hbs
 have hb0s := fun l => aw (l := l) hbs
 refine AcT true Tryz.func11 ?_; intro hbel Q hQ
 have g'14 := (jn @hbs @hb0s)
 refine aa g'14 ?_
 refine af (by kernel_rfl) (jb _ _ l ⟨_, _, _, rfl, by first | exact hb0s _ | exact hbs⟩ (by omega) _ [.ptr (some (H.length, 0))] (by kernel_rfl) (by simp [AV.bels, AV.bel]) (hbB px py ph) (fun j hj => bcov1_c _ _ _ _ _ _ _ px py ph _ ⟨_, by first | (rw [ap]; rfl) | (rw [al]; rfl)⟩)) ?_
 refine aa g'14 ?_
 exact hQ _ _ (ae (.inl rfl) hbel (x := .bool (l.any (hbB px py ph))) (ag Tryz.results11) rfl ⟨rfl, rfl⟩)
theorem nar_c (H : ac) (s : AV) (l : List T6) (hs : Sl H 6 s l.length (r6 l)) (hl : l.length ≤ 9223372036854775807) : ACalls Tryz.prog 7 [s] H (fun v H' => v = .bool (narB l) ∧ H' = H) := by
 obtain ⟨bs, os, cs, rfl, hbs⟩ := hs
 have hbls := getElem?_lt hbs
 have hb0s := fun l => aw (l := l) hbs
 refine AcT true Tryz.func7 ?_; intro hbel Q hQ
 have g'15 := (jn @hbs @hb0s)
 refine aa g'15 ?_
 refine go_loop try_mixed (by kernel_rfl) (fun k F Hx => ∃ i : Nat, i + k = l.length ∧ (∀ j : Nat, j < i → ¬ 6 < g66 l j) ∧ F = [(0, .sl (some (bs, 0)) l.length cs), (3, .int .i64 ((i : Nat) : Int))] ∧ H = Hx) (l.length) ?_ ?_
 ·refine ⟨_, _, _, ⟨0, by omega, (fun j h => by omega), rfl, rfl⟩, Abs.by0 hbel ?_⟩
  exact be
 ·rintro k0 F Hx ⟨i, hm0, hal, rfl, rfl⟩ J0 hJ0
  refine aa g'15 ?_
  refine ai (fun h1 => ?_) (fun h1 => ?_)
  ·have h1d := bsT h1
   have hlt : i < l.length := by omega
   have q2 := r6_at5 (l := l) (j := i) (by omega)
   have g'16 := (jn @h1 (jn @h1d (jn @bV (jn @q2 g'15))))
   refine aa g'16 ?_
   refine ai (fun h3 => ?_) (fun h3 => ?_)
   ·have h3d := bsT h3
    have hfinN := nar_f hlt h3d
    have g'17 := (jn @h3 (jn @h3d g'16))
    refine aa g'17 ?_
    exact hQ _ _ (aF (.inl rfl) hbel (x := .bool false) (ag Tryz.results7) rfl ⟨by first | (rw [hfinN]; done) | (rw [hfinN]; rfl), rfl⟩)
   ·have h3d := bsT h3
    have hn6 := h3d
    have g'18 := (jn @h3 (jn @h3d g'16))
    refine aa g'18 ?_
    refine hJ0 _ _ ⟨k0 - 1, by omega, _, _, _, ⟨i + 1, by omega, fun j hj => by
          rcases Nat.lt_or_ge j i with h | h
          ·exact hal j h
          ·rw [show j = i by omega]; omega, rfl, rfl⟩, Abs.by0 hbel ?_⟩
    exact be
  ·have h1d := bsT h1
   obtain rfl : i = l.length := by omega
   have hfinN := nar_e hal
   have g'19 := (jn @h1 (jn @h1d g'15))
   refine aa g'19 ?_
   exact hQ _ _ (aF (.inl rfl) hbel (x := .bool (decide (((l.length : Nat) : Int) ≤ 3))) (ag Tryz.results7) rfl ⟨by first | (rw [hfinN]; done) | (rw [hfinN]; rfl), rfl⟩)
theorem below_c (H : ac) (W : Int) (Hh : Int) (kk : AV) (ks : List Int) (W2 : Int) (Hh2 : Int) (pp : AV) (xs : List Int) (hkk : Sl H 1 kk ks.length (ints .u8 ks)) (hpp : Sl H 1 pp xs.length (ints .u8 xs)) (hVk : bW W Hh ks = true) (hVx : bW W2 Hh2 xs = true) (he1 : W = W2) (he2 : Hh = Hh2) (hbe : d5 ks xs) : ACalls Tryz.prog 21 [.agg [.int .i64 W, .int .i64 Hh, kk], .agg [.int .i64 W2, .int .i64 Hh2, pp]] H (fun v H' => v = .bool true ∧ H' = H) := by
 obtain ⟨bkk, okk, ckk, rfl, hbkk⟩ := hkk
 have hblkk := getElem?_lt hbkk
 have hb0kk := fun l => aw (l := l) hbkk
 obtain ⟨bpp, opp, cpp, rfl, hbpp⟩ := hpp
 have hblpp := getElem?_lt hbpp
 have hb0pp := fun l => aw (l := l) hbpp
 have hba : (W != W2) = false := by rw [he1]; simp
 have hbb : (Hh != Hh2) = false := by rw [he2]; simp
 have hlk := hbe.1
 have hVV := bM.1 hVk
 have hx6 : ks.length ≤ 1000000 := by have h4 := hVV.len; have := Int.mul_le_mul hVV.w1 hVV.h1 (by have := hVV.h0; omega) (by decide); omega
 refine AcT true Tryz.func21 ?_; intro hbel Q hQ
 have g'20 := (jn @hbkk (jn @hb0kk (jn @hbpp (jn @hb0pp (jn @hVk (jn @hVx (jn @hba @hbb)))))))
 refine aa g'20 ?_
 refine af (by kernel_rfl) (gb _ W Hh _ ks (.inr ⟨_, _, _, rfl, by first | exact hb0kk _ | exact hbkk⟩)) ?_
 refine aa g'20 ?_
 refine af (by kernel_rfl) (gb _ W2 Hh2 _ xs (.inr ⟨_, _, _, rfl, by first | exact hb0pp _ | exact hbpp⟩)) ?_
 refine aa g'20 ?_
 refine go_loop try_mixed (by kernel_rfl) (fun k F Hx => ∃ i : Nat, i + k = ks.length ∧ F = [(3, .ptr (some (H.length, 0))), (30, .sl (some (bkk, 0)) ks.length ckk), (31, .int .i64 ((ks.length : Nat) : Int)), (32, .int .i64 ((i : Nat) : Int))] ∧ Hx = H ++ [.cells true 0 [.int .i64 W2, .int .i64 Hh2, .sl (some (bpp, 0)) xs.length cpp]]) (ks.length) ?_ ?_
 ·refine ⟨_, _, _, ⟨0, by omega, rfl, rfl⟩, Abs.byG hbel [] rfl [1] (by decide) ?_⟩
  exact be
 ·rintro k0 F Hx ⟨i, hm0, rfl, rfl⟩ J0 hJ0
  refine aa g'20 ?_
  refine ai (fun h1 => ?_) (fun h1 => ?_)
  ·have h1d := bsT h1
   have hlt : i < ks.length := by omega
   have q2 := cV (k := .u8) (xs := ks) (j := i) (by omega)
   have g'21 := (jn @h1 (jn @h1d (jn @q2 g'20)))
   refine aa g'21 ?_
   refine aj (fun h3 => ?_) (fun h3 => ?_)
   ·have h3d := bsT h3
    have h3n := bnT h3
    have hne : ¬ gi ks i = 0 := by first | exact h3d | simpa using h3d
    have q4 := cV (k := .u8) (xs := xs) (j := i) (by omega)
    have g'22 := (jn @h3 (jn @h3n (jn @aU (jn @aT (jn @q4 g'21)))))
    refine aa g'22 ?_
    refine ai (fun h5 => ?_) (fun h5 => ?_)
    ·have h5d := bsT h5
     have h5n := bnT h5
     exact absurd ((hbe.2 i).resolve_left hne).symm (by first | exact h5d | simpa using h5d)
    ·have h5d := bsT h5
     have h5n := bnT h5
     have g'23 := (jn @h5 (jn @h5n g'22))
     refine aa g'23 ?_
     refine hJ0 _ _ ⟨k0 - 1, by omega, _, _, _, ⟨i + 1, by omega, rfl, rfl⟩, Abs.byG hbel [] rfl [0] (by decide) ?_⟩
     exact be
   ·have h3d := bsT h3
    have h3n := bnT h3
    have g'24 := (jn @h3 (jn @h3n (jn @aU (jn @aT g'21))))
    refine aa g'24 ?_
    refine hJ0 _ _ ⟨k0 - 1, by omega, _, _, _, ⟨i + 1, by omega, rfl, rfl⟩, Abs.byG hbel [] rfl [0] (by decide) ?_⟩
    exact be
  ·have h1d := bsT h1
   have g'25 := (jn @h1 (jn @h1d g'20))
   refine aa g'25 ?_
   exact hQ _ _ (ae (.inl rfl) hbel (x := .bool true) (ag Tryz.results21) rfl ⟨rfl, rfl⟩)
open Go.RowKit
def vlC (vl : List Int) (i : Nat) : Bool := (IntKind.u8.wrap ((BitVec.ofInt IntKind.u8.bits (Int.fdiv (gi vl (i / 8)) (2 ^ (min (i % 8) 8))) &&& BitVec.ofInt IntKind.u8.bits 1).toNat : Nat)) != 0
def vlK (xs vl : List Int) : Nat → List Int
 | 0 => xs
 | i + 1 => if (decide (((i : Nat) : Int) < IntKind.i64.wrap (8 * ((vl.length : Nat) : Int))) && vlC vl i) = true then (vlK xs vl i).set i 0 else vlK xs vl i
def vlP (xs vl : List Int) : List Int := vlK xs vl xs.length
theorem nA (xs vl : List Int) : ∀ i : Nat, i ≤ xs.length → d5 (vlK xs vl i) xs
 | 0, _ => ⟨rfl, fun i => .inr rfl⟩
 | i + 1, hi => by
  have ih := nA xs vl i (by omega)
  unfold vlK
  split
  ·refine ⟨by rw [List.length_set]; exact ih.1, fun j => ?_⟩
   rw [no (by rw [ih.1]; omega)]
   split
   ·exact .inl rfl
   ·exact ih.2 j
  ·exact ih
theorem vlP_bel (xs vl : List Int) : d5 (vlP xs vl) xs := nA xs vl _ (Nat.le_refl _)
theorem vl_idx {vl : List Int} {i : Nat} (h : ((i : Nat) : Int) < IntKind.i64.wrap (8 * ((vl.length : Nat) : Int))) (hi : i < 64) : i / 8 < vl.length := by
 rcases Nat.lt_or_ge vl.length 8 with k | k
 ·rw [hZ (by omega) (by omega)] at h; omega
 ·omega
theorem vlK_o {xs vl : List Int} {n : Nat} (h : ¬ ((n : Nat) : Int) < IntKind.i64.wrap (8 * ((vl.length : Nat) : Int))) : vlK xs vl (n + 1) = vlK xs vl n := if_neg (by rw [decide_eq_false h]; simp)
theorem vlK_out {xs vl : List Int} {i : Nat} (h : ¬ ((i : Nat) : Int) < IntKind.i64.wrap (8 * ((vl.length : Nat) : Int))) : ∀ {j : Nat}, vlK xs vl (i + j) = vlK xs vl i
 | 0 => rfl
 | j + 1 => (vlK_o (n := i + j) (by omega)).trans (vlK_out h)
theorem vlK_t {xs vl : List Int} {i : Nat} (h : ((i : Nat) : Int) < IntKind.i64.wrap (8 * ((vl.length : Nat) : Int))) (k : vlC vl i = true) : vlK xs vl (i + 1) = (vlK xs vl i).set i 0 := if_pos (by rw [decide_eq_true h, k]; rfl)
theorem vlK_f {xs vl : List Int} {i : Nat} (k : vlC vl i = false) : vlK xs vl (i + 1) = vlK xs vl i := if_neg (by rw [k]; simp)
theorem iH (a : Nat) : Int.tmod (a : Int) 8 = ((a % 8 : Nat) : Int) := rfl
theorem gE (a : Nat) : Int.tdiv (a : Int) 8 = ((a / 8 : Nat) : Int) := rfl
open Go.RowKit
theorem lV {k : IntKind} {l : List Int} : (ints k l).take l.length = ints k l ∧ (ints k l).take (l.length * 1) = ints k l := ⟨List.take_of_length_le (by rw [ck]; omega), List.take_of_length_le (by rw [ck]; omega)⟩
section
variable {W Hh : Int} {xs : List Int} {l : List T6} {sc : List (Int × Int)} {g : Int}
end
set_option linter.unusedSimpArgs false
set_option linter.unusedVariables false
open Go.RowKit
set_option maxHeartbeats 4000000
set_option maxRecDepth 100000
theorem veil_c (H : ac) (W : Int) (Hh : Int) (pp : AV) (xs : List Int) (v : AV) (vls : List Int) (hpp : Sl H 1 pp xs.length (ints .u8 xs)) (hv : Sl H 1 v vls.length (ints .u8 vls)) (hx0 : 0 < xs.length) (hx6 : xs.length ≤ 64) (hv6 : vls.length ≤ 9223372036854775807) : ACalls Tryz.prog 14 [.agg [.int .i64 W, .int .i64 Hh, pp], v] H (fun v H' => v = .agg [.int .i64 W, .int .i64 Hh, .sl (some (H.length, 0)) ((vlP xs vls).length) none] ∧ H' = H ++ [.cells true 1 (ints .u8 (vlP xs vls))]) := by
 obtain ⟨bpp, opp, cpp, rfl, hbpp⟩ := hpp
 have hblpp := getElem?_lt hbpp
 have hb0pp := fun l => aw (l := l) hbpp
 obtain ⟨bv, ov, cv, rfl, hbv⟩ := hv
 have hblv := getElem?_lt hbv
 have hb0v := fun l => aw (l := l) hbv
 have hsfz : (xs.length == 0) = false := beq_eq_false_iff_ne.2 (by omega)
 have hsfd : decide (0 < xs.length) = true := decide_eq_true hx0
 (refine bT Tryz.func14 _ rfl (Nat.le_of_ble_eq_true (by kernel_rfl)) rfl ?_; intro hbel Q hQ hQ' c hc; unfold Tryz.f14 at hc; simp only [Option.some.injEq] at hc; subst hc; clear hQ')
 refine i6 false try_mixed (by kernel_rfl) (fun F Hx => look F 1 = .sl (some (bv, 0)) vls.length cv ∧ look F 2 = .ptr (some (H.length, 0)) ∧ look F 4 = .ptr (some (H.length + 1, 0)) ∧ Hx = H ++ [.cells true 0 [.int .i64 W, .int .i64 Hh, .sl (some (bpp, 0)) xs.length cpp], .cells true 0 [.int .i64 0, .int .i64 0, .sl none 0 (some 0)]]) ?_ ?_
 ·skip
  have g'1 := (jn @hbpp (jn @hb0pp (jn @hbv (jn @hb0v (jn @iH (jn @gE (jn @hsfz @hsfd)))))))
  refine aa g'1 ?_
  refine aR ?_
  exact absT
 rintro F Hx ⟨f1, f2, f3, rfl⟩
 refine cn false try_mixed [[0, 1, 2, 3, 4, 5, 6, 7, 8, 9, 10], [0, 1, 2, 3, 4, 5, 6, 9, 7, 8, 10], [0, 1, 2, 3, 5, 6, 9, 4, 7, 8, 10]] (by kernel_rfl) (fun F2 H2 => F2 = [(1, .sl (some (bv, 0)) vls.length cv), (4, .ptr (some (H.length, 0))), (5, .ptr (some (H.length + 2, 0)))] ∧ H2 = H ++ [.cells true 0 [.int .i64 0, .int .i64 0, .sl none 0 (some 0)], .cells true 1 (ints .u8 xs), .cells true 0 [.int .i64 W, .int .i64 Hh, .sl (some (H.length + 1, 0)) xs.length none]]) ?_ ?_
 ·refine aG ?_ (aG ?_ (aG ?_ (cl))) <;> intro J hJ
  ·skip
   have g'2 := (jn @hbpp (jn @hb0pp (jn @hbv (jn @hb0v (jn @f1 (jn @f2 (jn @f3 (jn @ck (jn @cH (jn @lV (jn @iH (jn @gE (jn @hsfz @hsfd)))))))))))))
   refine aA g'2 ?_
   refine aR (hJ _ _ ⟨_, _, _, ⟨rfl, rfl⟩, Abs.byG hbel [] rfl [1, 3, 4] (by decide) ?_⟩)
   exact aM (jn @f1 (jn @f2 @f3))
  ·skip
   have g'3 := (jn @hbpp (jn @hb0pp (jn @hbv (jn @hb0v (jn @f1 (jn @f2 (jn @f3 (jn @ck (jn @cH (jn @lV (jn @iH (jn @gE (jn @hsfz @hsfd)))))))))))))
   refine aA g'3 ?_
   refine aR (hJ _ _ ⟨_, _, _, ⟨rfl, rfl⟩, Abs.byG hbel [] rfl [1, 4, 3] (by decide) ?_⟩)
   exact aM (jn @f1 (jn @f2 @f3))
  ·skip
   have g'4 := (jn @hbpp (jn @hb0pp (jn @hbv (jn @hb0v (jn @f1 (jn @f2 (jn @f3 (jn @ck (jn @cH (jn @lV (jn @iH (jn @gE (jn @hsfz @hsfd)))))))))))))
   refine aA g'4 ?_
   refine aR (hJ _ _ ⟨_, _, _, ⟨rfl, rfl⟩, Abs.byG hbel [] rfl [1, 4, 2] (by decide) ?_⟩)
   exact aM (jn @f1 (jn @f2 @f3))
 rintro F2 H2 ⟨rfl, rfl⟩
 refine aL false try_mixed (by kernel_rfl) ?_
 have g'5 := (jn @hbpp (jn @hb0pp (jn @hbv (jn @hb0v (jn @ck (jn @cH (jn @iH (jn @gE (jn @hsfz @hsfd)))))))))
 refine aa g'5 ?_
 refine go_loop try_mixed (by kernel_rfl) (fun k F Hx => ∃ i : Nat, i + k = xs.length ∧ F = [(1, .sl (some (bv, 0)) vls.length cv), (4, .ptr (some (H.length, 0))), (5, .ptr (some (H.length + 2, 0))), (6, .int .i64 ((i : Nat) : Int))] ∧ Hx = H ++ [.cells true 0 [.int .i64 0, .int .i64 0, .sl none 0 (some 0)], .cells true 1 (ints .u8 (vlK xs vls i)), .cells true 0 [.int .i64 W, .int .i64 Hh, .sl (some (H.length + 1, 0)) ((vlK xs vls i).length) none]]) (xs.length) ?_ ?_
 ·refine ⟨_, _, _, ⟨0, by omega, rfl, rfl⟩, Abs.byG hbel [] rfl [0, 1, 2] (by decide) ?_⟩
  exact aM @vlK.eq_1
 ·rintro k0 F Hx ⟨i, hm0, rfl, rfl⟩ J0 hJ0
  have hvl := (nA xs vls i (by omega)).1
  refine aa g'5 ?_
  refine aj (fun h4 => ?_) (fun h4 => ?_)
  ·have h4d := bsT h4
   have hlt : i < xs.length := by omega
   have g'6 := (jn @h4 (jn @h4d g'5))
   refine aa g'6 ?_
   refine ai (fun h5 => ?_) (fun h5 => ?_)
   ·have h5d := bsT h5
    have hb8 := h5d
    have hi8 := vl_idx hb8 (by omega)
    have q6 := cV (k := .u8) (xs := vls) (j := i / 8) (by omega)
    have g'7 := (jn @h5 (jn @h5d (jn @q6 g'6)))
    refine aa g'7 ?_
    refine ai (fun h7 => ?_) (fun h7 => ?_)
    ·have h7d := bsT h7
     have h7n := bnT h7
     have hst := vlK_t (xs := xs) hb8 (show vlC vls i = true from h7)
     have g'8 := (jn @h7 (jn @h7n (jn @aU (jn @aT (jn @iO (jn @List.length_set.{0} g'7))))))
     refine aa g'8 ?_
     refine hJ0 _ _ ⟨k0 - 1, by omega, _, _, _, ⟨i + 1, by omega, rfl, rfl⟩, Abs.byG hbel [] rfl [0, 1, 2] (by decide) ?_⟩
     exact aM (jn @hst @List.length_set.{0})
    ·have h7d := bsT h7
     have h7n := bnT h7
     have hst := vlK_f (xs := xs) (show vlC vls i = false from h7)
     have g'9 := (jn @h7 (jn @h7n (jn @aU (jn @aT g'7))))
     refine aa g'9 ?_
     refine hJ0 _ _ ⟨k0 - 1, by omega, _, _, _, ⟨i + 1, by omega, rfl, rfl⟩, Abs.byG hbel [] rfl [0, 1, 2] (by decide) ?_⟩
     exact aM (jn @hst @List.length_set.{0})
   ·have h5d := bsT h5
    have hfinV : vlP xs vls = vlK xs vls i := by
     have q := vlK_out (xs := xs) (j := xs.length - i) h5d
     rwa [show i + (xs.length - i) = xs.length by omega] at q
    have g'10 := (jn @h5 (jn @h5d g'6))
    refine aa g'10 ?_
    refine hQ _ _ (bB (.inl rfl) hbel (x1 := .agg [.int .i64 W, .int .i64 Hh, .sl (some (H.length + 1, 0)) ((vlK xs vls i).length) none]) (l2 := [.cells true 1 (ints .u8 (vlK xs vls i))]) (.agg [.int .i64 W, .int .i64 Hh, .sl (some (H.length, 0)) ((vlK xs vls i).length) none]) (ag Tryz.results14) [] rfl [1] (by decide) ⟨by first | (rw [hfinV]; done) | (rw [hfinV]; rfl), by first | (rw [hfinV]; done) | (rw [hfinV]; rfl)⟩ ?_)
    exact be
  ·have h4d := bsT h4
   have hfinV : vlP xs vls = vlK xs vls i := by unfold vlP; rw [show i = xs.length by omega]
   have g'11 := (jn @h4 (jn @h4d g'5))
   refine aa g'11 ?_
   refine hQ _ _ (bB (.inl rfl) hbel (x1 := .agg [.int .i64 W, .int .i64 Hh, .sl (some (H.length + 1, 0)) ((vlK xs vls i).length) none]) (l2 := [.cells true 1 (ints .u8 (vlK xs vls i))]) (.agg [.int .i64 W, .int .i64 Hh, .sl (some (H.length, 0)) ((vlK xs vls i).length) none]) (ag Tryz.results14) [] rfl [1] (by decide) ⟨by first | (rw [hfinV]; done) | (rw [hfinV]; rfl), by first | (rw [hfinV]; done) | (rw [hfinV]; rfl)⟩ ?_)
   exact be
open Go.RowKit
theorem bld_nz {W Hh : Int} {xs : List Int} (h : gj W Hh xs = true) (h0 : ∀ z ∈ xs, 0 ≤ z) : ∀ v ∈ xs, 1 ≤ v ∧ v ≤ 2 := fun v hv => by
 unfold gj at h
 rw [Bool.and_eq_true, Bool.not_eq_true', List.any_eq_false] at h
 have h1 := h.2 v hv
 have h2 := (bM.1 h.1).le v hv
 have h3 := h0 v hv
 have : ¬ v = 0 := by simpa using h1
 omega
open Go.RowKit
theorem kW {P : Program} {N n : Nat} {Q : Exit → Fr → ac → Prop} {a b : Code} {F : Fr} {H : ac} (q : Bool) (hm : P.follows .mixedOrders = true) (hc : dg N q a = true) (I : Fr → ac → Prop)
  (h1 : ∀ J : Fr → ac → Prop, (∀ F' H', (∃ σ F2 H2, I F2 H2 ∧ Abs n σ F' H' F2 H2) → J F' H') → AGo P N n q Q [.code a, .inv J] F H) (h2 : ∀ F2 H2, I F2 H2 → AW P N n b Q F2 H2) : AW P N n (.seq a b) Q F H := by
 have k := h1 (fun F' H' => ∃ σ F2 H2, I F2 H2 ∧ Abs n σ F' H' F2 H2) (fun _ _ h => h)
 refine io (AW.mono (gt (N := N) hm a hc _ F H k) fun e F' H' hq => ?_)
 cases e with
 | normal =>
  obtain ⟨σ, F2, H2, hi, ab⟩ := hq
  exact AW_abs ab (h2 F2 H2 hi)
 | _ => exact hq
open Go.RowKit
theorem lmvY (H : ac) (W : Int) (Hh : Int) (pp : AV) (xs : List Int) (s : AV) (l : List T6) (tu : Int) (le : Int) (sl : Int) (ra : Int) (lost : Bool) (bz : Nat) (t : Int) (g : Int) (still : Bool) (hpp : Sl H 1 pp xs.length (ints .u8 xs)) (hs : Sl H 6 s l.length (r6 l)) (hz : H[bz]? = some (.cells true 0 [.int .i64 W, .int .i64 Hh, pp, s, .int .i64 tu, .int .i64 le, .int .i64 sl, .int .i64 ra, .bool lost])) (hS : bP l = true) (hl0 : 0 < l.length) (hC : cQ t g = true) (hB : cJ tu le sl ra = true) (hA : imA l t (stF still g) tu le sl = true) (hlo : lost = false) : ACalls Tryz.prog 17 [.ptr (some (bz, 0)), .agg [.int .i64 t, .int .i64 g], .bool still] H (fun v H' => v = .int .i64 0 ∧ H' = H.set bz (.cells true 0 [.int .i64 W, .int .i64 Hh, pp, .sl (some (H.length, 0)) ((imS l t (stF still g) tu le sl l.length).length) none, .int .i64 tu, .int .i64 le, .int .i64 sl, .int .i64 ra, .bool false]) ++ [.cells true 6 (r6 (imS l t (stF still g) tu le sl l.length))]) := by
 subst hlo; exact lmv_y H W Hh pp xs s l tu le sl ra bz t g still hpp hs hz hS hl0 hC hB hA
theorem lmvN (H : ac) (W : Int) (Hh : Int) (pp : AV) (xs : List Int) (s : AV) (l : List T6) (tu : Int) (le : Int) (sl : Int) (ra : Int) (lost : Bool) (bz : Nat) (t : Int) (g : Int) (still : Bool) (hpp : Sl H 1 pp xs.length (ints .u8 xs)) (hs : Sl H 6 s l.length (r6 l)) (hz : ∃ o, H[bz]? = some (.cells o 0 [.int .i64 W, .int .i64 Hh, pp, s, .int .i64 tu, .int .i64 le, .int .i64 sl, .int .i64 ra, .bool lost])) (hS : bP l = true) (hl0 : 0 < l.length) (hC : cQ t g = true) (hB : cJ tu le sl ra = true) (hA : imA l t (stF still g) tu le sl = false) (hlo : lost = false) : ACalls Tryz.prog 17 [.ptr (some (bz, 0)), .agg [.int .i64 t, .int .i64 g], .bool still] H (fun v H' => v = .int .i64 2 ∧ H' = H) := by
 subst hlo; exact lmv_n H W Hh pp xs s l tu le sl ra bz t g still hpp hs hz hS hl0 hC hB hA
theorem lmvS (H : ac) (W : Int) (Hh : Int) (pp : AV) (xs : List Int) (s : AV) (l : List T6) (tu : Int) (le : Int) (sl : Int) (ra : Int) (lost : Bool) (bz : Nat) (t : Int) (g : Int) (still : Bool) (hpp : Sl H 1 pp xs.length (ints .u8 xs)) (hs : Sl H 6 s l.length (r6 l)) (hz : ∃ o, H[bz]? = some (.cells o 0 [.int .i64 W, .int .i64 Hh, pp, s, .int .i64 tu, .int .i64 le, .int .i64 sl, .int .i64 ra, .bool lost])) (hC : cQ t g = true) (hlo : lost = true) : ACalls Tryz.prog 17 [.ptr (some (bz, 0)), .agg [.int .i64 t, .int .i64 g], .bool still] H (fun v H' => v = .int .i64 9 ∧ H' = H) := by
 subst hlo; exact lmv_s H W Hh pp xs s l tu le sl ra bz t g still hpp hs hz hC
theorem lseS (H : ac) (W : Int) (Hh : Int) (pp : AV) (xs : List Int) (s : AV) (l : List T6) (tu : Int) (le : Int) (sl : Int) (ra : Int) (lost : Bool) (bz : Nat) (q : AV) (sc : List (Int × Int)) (hpp : Sl H 1 pp xs.length (ints .u8 xs)) (hs : Sl H 6 s l.length (r6 l)) (hz : ∃ o, H[bz]? = some (.cells o 0 [.int .i64 W, .int .i64 Hh, pp, s, .int .i64 tu, .int .i64 le, .int .i64 sl, .int .i64 ra, .bool lost])) (hq : Sl H 2 q sc.length (prs sc)) (hsl : sc.length ≤ 1000000000) (hsB : ct sc = true) (hlo : lost = true) : ACalls Tryz.prog 18 [.ptr (some (bz, 0)), q] H (fun v H' => v = .int .i64 9 ∧ H' = H) := by
 subst hlo; exact lse_s H W Hh pp xs s l tu le sl ra bz q sc hpp hs hz hq hsl hsB
theorem lseE (H : ac) (W : Int) (Hh : Int) (pp : AV) (xs : List Int) (s : AV) (l : List T6) (tu : Int) (le : Int) (sl : Int) (ra : Int) (lost : Bool) (bz : Nat) (q : AV) (sc : List (Int × Int)) (hpp : Sl H 1 pp xs.length (ints .u8 xs)) (hs : Sl H 6 s l.length (r6 l)) (hz : H[bz]? = some (.cells true 0 [.int .i64 W, .int .i64 Hh, pp, s, .int .i64 tu, .int .i64 le, .int .i64 sl, .int .i64 ra, .bool lost])) (hq : Sl H 2 q sc.length (prs sc)) (hV : bW W Hh xs = true) (hS : bP l = true) (hl0 : 0 < l.length) (hsB : ct sc = true) (hg : 1 ≤ ra ∧ ra ≤ 32) (hRn : (bE W Hh xs l sc ra 32).length = 0) (hlo : lost = false) : ACalls Tryz.prog 18 [.ptr (some (bz, 0)), q] H (fun v H' => v = .int .i64 12 ∧ H' = H.set bz (.cells true 0 [.int .i64 W, .int .i64 Hh, pp, s, .int .i64 tu, .int .i64 le, .int .i64 sl, .int .i64 ra, .bool true])) := by
 subst hlo; exact lse_e H W Hh pp xs s l tu le sl ra bz q sc hpp hs hz hq hV hS hl0 hsB hg hRn
theorem lseL (H : ac) (W : Int) (Hh : Int) (pp : AV) (xs : List Int) (s : AV) (l : List T6) (tu : Int) (le : Int) (sl : Int) (ra : Int) (lost : Bool) (bz : Nat) (q : AV) (sc : List (Int × Int)) (hpp : Sl H 1 pp xs.length (ints .u8 xs)) (hs : Sl H 6 s l.length (r6 l)) (hz : H[bz]? = some (.cells true 0 [.int .i64 W, .int .i64 Hh, pp, s, .int .i64 tu, .int .i64 le, .int .i64 sl, .int .i64 ra, .bool lost])) (hq : Sl H 2 q sc.length (prs sc)) (hV : bW W Hh xs = true) (hS : bP l = true) (hl0 : 0 < l.length) (hsB : ct sc = true) (hg : 1 ≤ ra ∧ ra ≤ 32) (hR0 : 0 < (bE W Hh xs l sc ra 32).length) (ho : lnO W Hh xs (cpL (bE W Hh xs l sc ra 32)) sc ra = none) (hlo : lost = false) : ACalls Tryz.prog 18 [.ptr (some (bz, 0)), q] H (fun v H' => v = .int .i64 11 ∧ H' = H.set bz (.cells true 0 [.int .i64 W, .int .i64 Hh, pp, s, .int .i64 tu, .int .i64 le, .int .i64 sl, .int .i64 ra, .bool true])) := by
 subst hlo; exact lse_l H W Hh pp xs s l tu le sl ra bz q sc hpp hs hz hq hV hS hl0 hsB hg hR0 ho
theorem lseY (H : ac) (W : Int) (Hh : Int) (pp : AV) (xs : List Int) (s : AV) (l : List T6) (tu : Int) (le : Int) (sl : Int) (ra : Int) (lost : Bool) (bz : Nat) (q : AV) (sc : List (Int × Int)) (hpp : Sl H 1 pp xs.length (ints .u8 xs)) (hs : Sl H 6 s l.length (r6 l)) (hz : H[bz]? = some (.cells true 0 [.int .i64 W, .int .i64 Hh, pp, s, .int .i64 tu, .int .i64 le, .int .i64 sl, .int .i64 ra, .bool lost])) (hq : Sl H 2 q sc.length (prs sc)) (hV : bW W Hh xs = true) (hS : bP l = true) (hl0 : 0 < l.length) (hsB : ct sc = true) (hg : 1 ≤ ra ∧ ra ≤ 32) (hR0 : 0 < (bE W Hh xs l sc ra 32).length) (o : List Int) (ho : lnO W Hh xs (cpL (bE W Hh xs l sc ra 32)) sc ra = some o) (ho0 : 0 < o.length) (hlo : lost = false) : ACalls Tryz.prog 18 [.ptr (some (bz, 0)), q] H (fun v H' => v = .int .i64 0 ∧ H' = H.set bz (.cells true 0 [.int .i64 W, .int .i64 Hh, .sl (some (H.length, 0)) o.length none, .sl (some (H.length + 1, 0)) ((cpL (bE W Hh xs l sc ra 32)).length) none, .int .i64 tu, .int .i64 le, .int .i64 sl, .int .i64 ra, .bool false]) ++ [.cells true 1 (ints .u8 o), .cells true 6 (r6 (cpL (bE W Hh xs l sc ra 32)))]) := by
 subst hlo; exact lse_y H W Hh pp xs s l tu le sl ra bz q sc hpp hs hz hq hV hS hl0 hsB hg hR0 o ho ho0
theorem lwt_c (H : ac) (W : Int) (Hh : Int) (pp : AV) (xs : List Int) (tu : Int) (le : Int) (sl : Int) (ra : Int) (ax : Int) (ay : Int) (ah : Int) (s : AV) (l : List T6) (v : AV) (vls : List Int) (ev : AV) (evs : List Ev) (hpp : Sl H 1 pp xs.length (ints .u8 xs)) (hs : Sl H 6 s l.length (r6 l)) (hv : Sl H 1 v vls.length (ints .u8 vls)) (hev : Sl H 8 ev evs.length (evR evs)) (hp0 : ∀ z ∈ xs, 0 ≤ z) (hvl : vls.length ≤ 9223372036854775807) (hll : l.length ≤ 9223372036854775807) (hel : evs.length ≤ 9223372036854775807) (hvo : evOk H evs) : ACalls Tryz.prog 3 [.agg [.int .i64 W, .int .i64 Hh, pp, .int .i64 tu, .int .i64 le, .int .i64 sl, .int .i64 ra, .int .i64 ax, .int .i64 ay, .int .i64 ah], .agg [s, v], ev] H (fun v H' => v = .bool true ∧ H' = H) := by
 obtain ⟨bpp, opp, cpp, rfl, hbpp⟩ := hpp
 have hblpp := getElem?_lt hbpp
 have hb0pp := fun l => aw (l := l) hbpp
 obtain ⟨bs, os, cs, rfl, hbs⟩ := hs
 have hbls := getElem?_lt hbs
 have hb0s := fun l => aw (l := l) hbs
 obtain ⟨bv, ov, cv, rfl, hbv⟩ := hv
 have hblv := getElem?_lt hbv
 have hb0v := fun l => aw (l := l) hbv
 obtain ⟨bev, oev, cev, rfl, hbev⟩ := hev
 have hblev := getElem?_lt hbev
 have hb0ev := fun l => aw (l := l) hbev
 refine AcL false Tryz.func3 ?_; intro hbel Q hQ
 have g'1 := (jn @hbpp (jn @hb0pp (jn @hbs (jn @hb0s (jn @hbv (jn @hb0v (jn @hbev (jn @hb0ev @Nat.add_assoc))))))))
 refine aa g'1 ?_
 refine af (by kernel_rfl) (law_c _) ?_
 refine aa g'1 ?_
 refine aj (fun h1 => ?_) (fun h1 => ?_)
 ·have h1d := bsT h1
  have hx49 : xs.length ≤ 49 := by omega
  have g'2 := (jn @h1 (jn @h1d g'1))
  refine aa g'2 ?_
  refine aj (fun h2 => ?_) (fun h2 => ?_)
  ·have h2d := bsT h2
   have g'3 := (jn @h2 (jn @h2d g'2))
   refine aa g'3 ?_
   refine af (by kernel_rfl) (nar_c _ _ l ⟨_, _, _, rfl, by first | exact hb0s _ | exact hbs⟩ (by omega)) ?_
   refine aa g'3 ?_
   refine ai (fun h3 => ?_) (fun h3 => ?_)
   ·have h3d := bsT h3
    have g'4 := (jn @h3 (jn @h3d g'3))
    refine aa g'4 ?_
    refine af (by kernel_rfl) (law_c _) ?_
    refine aa g'4 ?_
    exact hQ _ _ (ae (.inl rfl) hbel (x := .bool true) (ag Tryz.results3) rfl ⟨by first | rfl | (rw [hfinR]; rfl), rfl⟩)
   ·have h3d := bsT h3
    have hl3 := narB_len h3d
    have g'5 := (jn @h3 (jn @h3d g'3))
    refine aa g'5 ?_
    refine af (by kernel_rfl) (bld_c _ W Hh _ xs ⟨_, _, _, rfl, by first | exact hb0pp _ | exact hbpp⟩) ?_
    refine aa g'5 ?_
    refine aj (fun h4 => ?_) (fun h4 => ?_)
    ·have h4d := bsT h4
     have hBl := h4d
     have hV : bW W Hh xs = true := by have hh := hBl; unfold gj at hh; rw [Bool.and_eq_true] at hh; exact hh.1
     have hVV := bM.1 hV
     have hw0 := hVV.w0
     have hh0 := hVV.h0
     have hw1 := hVV.w1
     have hh1 := hVV.h1
     have hnz := bld_nz hBl hp0
     have hx0 : 0 < xs.length := by have := (hVV.idx (show inB W Hh 0 0 = true from di.2 (by omega))).2.2.2.2.1; omega
     have hbl0 := vlP_bel xs vls
     have hVk := bel_vld hbl0 hV
     have g'6 := (jn @h4 (jn @h4d g'5))
     refine aa g'6 ?_
     refine af (by kernel_rfl) (bbnd_c _ tu le sl ra) ?_
     refine aa g'6 ?_
     refine aj (fun h5 => ?_) (fun h5 => ?_)
     ·have h5d := bsT h5
      have hB := h5d
      have hbi := hB
      simp only [cJ, Bool.and_eq_true, bu] at hbi
      have hg : 1 ≤ ra ∧ ra ≤ 32 := by omega
      have g'7 := (jn @h5 (jn @h5d g'6))
      refine aa g'7 ?_
      refine af (by kernel_rfl) (bset_c _ _ l ⟨_, _, _, rfl, by first | exact hb0s _ | exact hbs⟩ (by omega)) ?_
      refine aa g'7 ?_
      refine aj (fun h6 => ?_) (fun h6 => ?_)
      ·have h6d := bsT h6
       have hS := h6d
       have g'8 := (jn @h6 (jn @h6d g'7))
       refine aa g'8 ?_
       refine af (by kernel_rfl) (bcov_c _ _ l ax ay ah ⟨_, _, _, rfl, by first | exact hb0s _ | exact hbs⟩ (by omega)) ?_
       refine aa g'8 ?_
       refine aj (fun h7 => ?_) (fun h7 => ?_)
       ·have h7d := bsT h7
        have hcov := h7d
        have g'9 := (jn @h7 (jn @h7d g'8))
        refine aa g'9 ?_
        refine af (by kernel_rfl) (bpose_c _ ax ay ah) ?_
        refine aa g'9 ?_
        refine ai (fun h8 => ?_) (fun h8 => ?_)
        ·have h8d := bsT h8
         have g'10 := (jn @h8 (jn @h8d g'9))
         refine aa g'10 ?_
         exact hQ _ _ (ae (.inl rfl) hbel (x := .bool true) (ag Tryz.results3) rfl ⟨by first | rfl | (rw [hfinR]; rfl), rfl⟩)
        ·have h8d := bsT h8
         have hP := h8d
         have hbt := bu.1 (fc.1 hP).2
         have hcv0 := cov_in hbt hcov
         have hl0 : 0 < l.length := by obtain ⟨b, hb, -⟩ := hcv0; exact List.length_pos_of_mem hb
         have hLs : lsB l = true := lsB_iff.2 ⟨hl0, hS⟩
         have g'11 := (jn @h8 (jn @h8d g'9))
         refine aa g'11 ?_
         refine cg (by kernel_rfl) (by simp) (veil_c _ W Hh _ xs _ vls ⟨_, _, _, rfl, by first | exact hb0pp _ | exact hbpp⟩ ⟨_, _, _, rfl, by first | exact hb0v _ | exact hbv⟩ hx0 (by omega) (by omega)) ?_
         refine aa g'11 ?_
         refine cg (by kernel_rfl) (by simp) (lnew_y _ W Hh _ (vlP xs vls) _ l tu le sl ra ⟨_, _, _, by first | rfl | (rw [List.length_append]; done) | (rw [List.length_append]; rfl), by first | rfl | (rw [ap]; rfl) | (rw [al]; rfl) | (rw [ap, am]; rfl) | (rw [al, am]; rfl)⟩ ⟨_, _, _, rfl, by first | exact hb0s _ | exact hbs⟩ (by assumption) (by assumption) (by assumption)) ?_
         refine aa g'11 ?_
         refine go_loopA (fun k F Hx => ∃ i : Nat, ∃ ks : List Int, ∃ Q : List T6, ∃ lo : Bool, ∃ ri : Bool, ∃ cx : Int, ∃ cy : Int, ∃ ch : Int, i + k = evs.length ∧ bW W Hh ks = true ∧ bP Q = true ∧ 0 < Q.length ∧ (ri = true → lo = false ∧ d5 ks xs ∧ ∃ b ∈ Q, InP b cx cy ch) ∧ F = [(2, .sl (some (bev, 0)) evs.length cev), (3, .ptr (some (H.length, 0))), (7, .ptr (some (H.length + 3, 0))), (9, .ptr (some (H.length + 4, 0))), (10, .bool ri), (11, .int .i64 ((i : Nat) : Int))] ∧ Hx = H ++ [.cells true 0 [.int .i64 W, .int .i64 Hh, .sl (some (bpp, 0)) xs.length cpp, .int .i64 tu, .int .i64 le, .int .i64 sl, .int .i64 ra, .int .i64 ax, .int .i64 ay, .int .i64 ah], .cells true 1 (ints .u8 ks), .cells true 6 (r6 Q), .cells true 0 [.int .i64 W, .int .i64 Hh, .sl (some (H.length + 1, 0)) ks.length none, .sl (some (H.length + 2, 0)) Q.length none, .int .i64 tu, .int .i64 le, .int .i64 sl, .int .i64 ra, .bool lo], .cells true 0 [.int .i64 cx, .int .i64 cy, .int .i64 ch]]) (evs.length) ?_ ?_
         ·refine ⟨_, _, _, ⟨0, (vlP xs vls), l, false, true, ax, ay, ah, by omega, hVk, hS, hl0, (fun _ => ⟨rfl, hbl0, hcv0⟩), rfl, rfl⟩, Abs.byG hbel [] rfl [0, 3, 4, 5, 6] (by decide) ?_⟩
          exact aM (jn @bi (jn @bj (jn @bA @bt)))
         ·rintro k0 F Hx ⟨i, ks, Q, lo, ri, cx, cy, ch, hm0, hkV, hQS, hQ0, hri, rfl, rfl⟩ Q1 hJ0 hr1 he1
          have hQ1 := fun F H' h => hr1 F H' (hQ F H' h)
          have hQ16 := (bU.1 hQS).1
          have hQv := (bU.1 hQS).2
          have hk0 : 0 < ks.length := by have := ((bM.1 hkV).idx (show inB W Hh 0 0 = true from di.2 (by omega))).2.2.2.2.1; omega
          refine aQ fun Q2 hn2 hr2 he2 => ?_
          have hQ2 := fun F H' h => hr2 F H' (hQ1 F H' h)
          refine aL false try_mixed (by kernel_rfl) ?_
          have g'12 := (jn @ck (jn @cH (jn @bV (jn @c9 g'11))))
          refine aa g'12 ?_
          refine ai (fun h9 => ?_) (fun h9 => ?_)
          ·have h9d := bsT h9
           have hlt : i < evs.length := by omega
           obtain ⟨bq, oq, cq, hsq, hbq⟩ := hvo.at hlt
           have hblq := getElem?_lt hbq
           have hb0q := fun l' => aw (l := l') hbq
           have hscl := hvo.len hlt
           have g'13 := (jn @h9 (jn @h9d g'12))
           refine aa g'13 ?_
           refine hn2 _ _ ?_
           refine aQ fun Q3 hn3 hr3 he3 => ?_
           have hQ3 := fun F H' h => hr3 F H' (hQ1 F H' h)
           refine dX fun Q4 hn4 hr4 he4 hb4 => ?_
           have hQ4 := fun F H' h => hr4 F H' (hQ3 F H' h)
           refine aQ fun Q5 hn5 hr5 he5 => ?_
           have hQ5 := fun F H' h => hr5 F H' (hQ4 F H' h)
           refine aL false try_mixed (by kernel_rfl) ?_
           have q10 := evR_p0 (l := evs) (j := i) (by omega) hsq
           have g'14 := (jn @evR_len (jn @q10 g'13))
           refine aa g'14 ?_
           refine hn5 _ _ ?_
           refine aQ fun Q6 hn6 hr6 he6 => ?_
           have hQ6 := fun F H' h => hr6 F H' (hQ4 F H' h)
           refine aL false try_mixed (by kernel_rfl) ?_
           refine aa g'14 ?_
           refine ai (fun h11 => ?_) (fun h11 => ?_)
           ·have h11d := bsT h11
            have g'15 := (jn @h11 (jn @h11d g'14))
            refine aa g'15 ?_
            exact hQ6 _ _ (ae (.inl rfl) hbel (x := .bool true) (ag Tryz.results3) rfl ⟨by first | rfl | (rw [hfinR]; rfl), rfl⟩)
           ·have h11d := bsT h11
            have g'16 := (jn @h11 (jn @h11d g'14))
            refine aa g'16 ?_
            refine hn6 _ _ ?_
            refine aQ fun Q7 hn7 hr7 he7 => ?_
            have hQ7 := fun F H' h => hr7 F H' (hQ4 F H' h)
            refine aL false try_mixed (by kernel_rfl) ?_
            have q12 := evR_p5 (l := evs) (j := i) (by omega)
            have g'17 := (jn @q12 g'16)
            refine aa g'17 ?_
            refine hn7 _ _ ?_
            refine kW false try_mixed (by kernel_rfl) (fun F2 H2 => ∃ inn : Bool, (inn = true → (0 ≤ ((evG evs i).x) ∧ ((evG evs i).x) ≤ 64 * W) ∧ 0 ≤ ((evG evs i).y) ∧ ((evG evs i).y) ≤ 64 * Hh) ∧ F2 = [(2, .sl (some (bev, 0)) evs.length cev), (3, .ptr (some (H.length, 0))), (7, .ptr (some (H.length + 3, 0))), (9, .ptr (some (H.length + 4, 0))), (10, .bool ri), (11, .int .i64 ((i : Nat) : Int)), (12, .ptr (some (H.length + 5, 0))), (13, .ptr (some (H.length + 6, 0))), (14, .bool inn)] ∧ H2 = H ++ [.cells true 0 [.int .i64 W, .int .i64 Hh, .sl (some (bpp, 0)) xs.length cpp, .int .i64 tu, .int .i64 le, .int .i64 sl, .int .i64 ra, .int .i64 ax, .int .i64 ay, .int .i64 ah], .cells true 1 (ints .u8 ks), .cells true 6 (r6 Q), .cells true 0 [.int .i64 W, .int .i64 Hh, .sl (some (H.length + 1, 0)) ks.length none, .sl (some (H.length + 2, 0)) Q.length none, .int .i64 tu, .int .i64 le, .int .i64 sl, .int .i64 ra, .bool lo], .cells true 0 [.int .i64 cx, .int .i64 cy, .int .i64 ch], .cells true 0 [.int .i64 ((evG evs i).k), .int .i64 ((evG evs i).t), .int .i64 ((evG evs i).g), .bool ((evG evs i).st), .sl (some (bq, 0)) ((evG evs i).sc.length) cq], .cells true 0 [.int .i64 ((evG evs i).x), .int .i64 ((evG evs i).y), .int .i64 ((evG evs i).h)]]) ?_ ?_
            ·intro J hJ
             refine aa g'17 ?_
             refine aj (fun h13 => ?_) (fun h13 => ?_)
             ·have h13d := bsT h13
              have g'18 := (jn @h13 (jn @h13d g'17))
              refine aa g'18 ?_
              refine aj (fun h14 => ?_) (fun h14 => ?_)
              ·have h14d := bsT h14
               have g'19 := (jn @h14 (jn @h14d g'18))
               refine aa g'19 ?_
               refine aj (fun h15 => ?_) (fun h15 => ?_)
               ·have h15d := bsT h15
                have g'20 := (jn @h15 (jn @h15d g'19))
                refine aa g'20 ?_
                refine aR (hJ _ _ ⟨_, _, _, ⟨(decide (((evG evs i).y) ≤ (Hh * 64))), (fun q => by first | omega | (have q' := of_decide_eq_true q; omega)), rfl, rfl⟩, Abs.byG hbel [] rfl [0, 1, 2, 3, 4, 5, 6] (by decide) ?_⟩)
                exact aM (jn @bi (jn @bj (jn @bA @bt)))
               ·have h15d := bsT h15
                have g'21 := (jn @h15 (jn @h15d g'19))
                refine aa g'21 ?_
                refine aR (hJ _ _ ⟨_, _, _, ⟨false, (fun q => absurd q (by decide)), rfl, rfl⟩, Abs.byG hbel [] rfl [0, 1, 2, 3, 4, 5, 6] (by decide) ?_⟩)
                exact aM (jn @bi (jn @bj (jn @bA @bt)))
              ·have h14d := bsT h14
               have g'22 := (jn @h14 (jn @h14d g'18))
               refine aa g'22 ?_
               refine aR (hJ _ _ ⟨_, _, _, ⟨false, (fun q => absurd q (by decide)), rfl, rfl⟩, Abs.byG hbel [] rfl [0, 1, 2, 3, 4, 5, 6] (by decide) ?_⟩)
               exact aM (jn @bi (jn @bj (jn @bA @bt)))
             ·have h13d := bsT h13
              have g'23 := (jn @h13 (jn @h13d g'17))
              refine aa g'23 ?_
              refine aR (hJ _ _ ⟨_, _, _, ⟨false, (fun q => absurd q (by decide)), rfl, rfl⟩, Abs.byG hbel [] rfl [0, 1, 2, 3, 4, 5, 6] (by decide) ?_⟩)
              exact aM (jn @bi (jn @bj (jn @bA @bt)))
            rintro F2 H2 ⟨inn, pin, rfl, rfl⟩
            refine kW false try_mixed (by kernel_rfl) (fun F2 H2 => ∃ rr : Bool, (rr = true → ri = true ∧ inn = true ∧ eL tu le sl ra cx cy ch ((evG evs i).t) ((evG evs i).g) ((evG evs i).x) ((evG evs i).y) ((evG evs i).h) ((evG evs i).st) = true ∧ plL W Hh xs ((evG evs i).x) ((evG evs i).y) ((evG evs i).h) ra ((evG evs i).sc) = true) ∧ F2 = [(2, .sl (some (bev, 0)) evs.length cev), (3, .ptr (some (H.length, 0))), (7, .ptr (some (H.length + 3, 0))), (9, .ptr (some (H.length + 4, 0))), (10, .bool rr), (11, .int .i64 ((i : Nat) : Int)), (12, .ptr (some (H.length + 5, 0))), (13, .ptr (some (H.length + 6, 0)))] ∧ H2 = H ++ [.cells true 0 [.int .i64 W, .int .i64 Hh, .sl (some (bpp, 0)) xs.length cpp, .int .i64 tu, .int .i64 le, .int .i64 sl, .int .i64 ra, .int .i64 ax, .int .i64 ay, .int .i64 ah], .cells true 1 (ints .u8 ks), .cells true 6 (r6 Q), .cells true 0 [.int .i64 W, .int .i64 Hh, .sl (some (H.length + 1, 0)) ks.length none, .sl (some (H.length + 2, 0)) Q.length none, .int .i64 tu, .int .i64 le, .int .i64 sl, .int .i64 ra, .bool lo], .cells true 0 [.int .i64 cx, .int .i64 cy, .int .i64 ch], .cells true 0 [.int .i64 ((evG evs i).k), .int .i64 ((evG evs i).t), .int .i64 ((evG evs i).g), .bool ((evG evs i).st), .sl (some (bq, 0)) ((evG evs i).sc.length) cq], .cells true 0 [.int .i64 ((evG evs i).x), .int .i64 ((evG evs i).y), .int .i64 ((evG evs i).h)]]) ?_ ?_
            ·intro J hJ
             refine aa g'17 ?_
             refine aj (fun h16 => ?_) (fun h16 => ?_)
             ·have h16d := bsT h16
              have hriT := h16d
              have g'24 := (jn @h16 (jn @h16d g'17))
              refine aa g'24 ?_
              refine aj (fun h17 => ?_) (fun h17 => ?_)
              ·have h17d := bsT h17
               have hinnT := h17d
               have g'25 := (jn @h17 (jn @h17d g'24))
               refine aa g'25 ?_
               refine af (by kernel_rfl) (wth_c _ tu le sl ra cx cy ch ((evG evs i).t) ((evG evs i).g) ((evG evs i).x) ((evG evs i).y) ((evG evs i).h) ((evG evs i).st)) ?_
               refine aa g'25 ?_
               refine aj (fun h18 => ?_) (fun h18 => ?_)
               ·have h18d := bsT h18
                have hwT := h18d
                have g'26 := (jn @h18 (jn @h18d g'25))
                refine aa g'26 ?_
                refine af (by kernel_rfl) (pla_c _ W Hh _ xs ((evG evs i).x) ((evG evs i).y) ((evG evs i).h) _ ((evG evs i).sc) ra ⟨_, _, _, rfl, by first | exact hb0pp _ | exact hbpp⟩ ⟨_, _, _, rfl, by first | exact hb0q _ | exact hbq⟩ (by omega)) ?_
                refine aa g'26 ?_
                refine aR (hJ _ _ ⟨_, _, _, ⟨(plL W Hh xs ((evG evs i).x) ((evG evs i).y) ((evG evs i).h) ra ((evG evs i).sc)), (fun q => ⟨hriT, hinnT, hwT, q⟩), rfl, rfl⟩, Abs.byG hbel [] rfl [0, 1, 2, 3, 4, 5, 6] (by decide) ?_⟩)
                exact aM (jn @bi (jn @bj (jn @bA @bt)))
               ·have h18d := bsT h18
                have g'27 := (jn @h18 (jn @h18d g'25))
                refine aa g'27 ?_
                refine aR (hJ _ _ ⟨_, _, _, ⟨false, (fun q => absurd q (by decide)), rfl, rfl⟩, Abs.byG hbel [] rfl [0, 1, 2, 3, 4, 5, 6] (by decide) ?_⟩)
                exact aM (jn @bi (jn @bj (jn @bA @bt)))
              ·have h17d := bsT h17
               have g'28 := (jn @h17 (jn @h17d g'24))
               refine aa g'28 ?_
               refine aR (hJ _ _ ⟨_, _, _, ⟨false, (fun q => absurd q (by decide)), rfl, rfl⟩, Abs.byG hbel [] rfl [0, 1, 2, 3, 4, 5, 6] (by decide) ?_⟩)
               exact aM (jn @bi (jn @bj (jn @bA @bt)))
             ·have h16d := bsT h16
              have g'29 := (jn @h16 (jn @h16d g'17))
              refine aa g'29 ?_
              refine aR (hJ _ _ ⟨_, _, _, ⟨false, (fun q => absurd q (by decide)), rfl, rfl⟩, Abs.byG hbel [] rfl [0, 1, 2, 3, 4, 5, 6] (by decide) ?_⟩)
              exact aM (jn @bi (jn @bj (jn @bA @bt)))
            rintro F2 H2 ⟨rr, hrr, rfl, rfl⟩
            refine kW false try_mixed (by kernel_rfl) (fun F2 H2 => ∃ mv : Int, ∃ Q1 : List T6, ((mv = 1 ∨ mv = 2) ∨ (bP Q1 = true ∧ 0 < Q1.length ∧ ((lo = true ∧ mv = 9) ∨ (lo = false ∧ mv = 0)) ∧ (rr = true → ∃ b ∈ Q1, InP b ((evG evs i).x) ((evG evs i).y) ((evG evs i).h)))) ∧ F2 = [(2, .sl (some (bev, 0)) evs.length cev), (3, .ptr (some (H.length, 0))), (7, .ptr (some (H.length + 3, 0))), (9, .ptr (some (H.length + 4, 0))), (10, .bool rr), (11, .int .i64 ((i : Nat) : Int)), (12, .ptr (some (H.length + 5, 0))), (13, .ptr (some (H.length + 6, 0))), (15, .int .i64 mv)] ∧ H2 = H ++ [.cells true 0 [.int .i64 W, .int .i64 Hh, .sl (some (bpp, 0)) xs.length cpp, .int .i64 tu, .int .i64 le, .int .i64 sl, .int .i64 ra, .int .i64 ax, .int .i64 ay, .int .i64 ah], .cells true 1 (ints .u8 ks), .cells true 6 (r6 Q1), .cells true 0 [.int .i64 W, .int .i64 Hh, .sl (some (H.length + 1, 0)) ks.length none, .sl (some (H.length + 2, 0)) Q1.length none, .int .i64 tu, .int .i64 le, .int .i64 sl, .int .i64 ra, .bool lo], .cells true 0 [.int .i64 cx, .int .i64 cy, .int .i64 ch], .cells true 0 [.int .i64 ((evG evs i).k), .int .i64 ((evG evs i).t), .int .i64 ((evG evs i).g), .bool ((evG evs i).st), .sl (some (bq, 0)) ((evG evs i).sc.length) cq], .cells true 0 [.int .i64 ((evG evs i).x), .int .i64 ((evG evs i).y), .int .i64 ((evG evs i).h)]]) ?_ ?_
            ·intro J hJ
             refine aa g'17 ?_
             rcases Bool.eq_false_or_eq_true (cQ ((evG evs i).t) ((evG evs i).g)) with h19 | h19
             ·have h19d := h19
              have hC := h19d
              have hC2 := kS ((evG evs i).st) hC
              simp only [cQ, Bool.and_eq_true, bu] at hC2
              rcases Bool.eq_false_or_eq_true (lo) with h20 | h20
              ·have h20d := h20
               have hloT := h20d
               have hfinR : ri = false := by
                cases hq : ri with
                | false => rfl
                | true => exact absurd ((hri hq).1.symm.trans hloT) (by decide)
               refine af (by kernel_rfl) (lmvS _ W Hh (.sl (some (H.length + 1, 0)) ks.length none) ks (.sl (some (H.length + 2, 0)) Q.length none) Q tu le sl ra lo _ ((evG evs i).t) ((evG evs i).g) ((evG evs i).st) ⟨_, _, _, by first | rfl | (rw [List.length_append]; done) | (rw [List.length_append]; rfl), by first | rfl | (rw [ap]; rfl) | (rw [al]; rfl) | (rw [ap, am]; rfl) | (rw [al, am]; rfl)⟩ ⟨_, _, _, by first | rfl | (rw [List.length_append]; done) | (rw [List.length_append]; rfl), by first | rfl | (rw [ap]; rfl) | (rw [al]; rfl) | (rw [ap, am]; rfl) | (rw [al, am]; rfl)⟩ ⟨_, by first | rfl | (rw [ap]; rfl) | (rw [al]; rfl) | (rw [al])⟩ (by assumption) (by assumption)) ?_
               have g'30 := (jn @h19 (jn @h19d (jn @h20 (jn @h20d g'17))))
               refine aa g'30 ?_
               refine aR (hJ _ _ ⟨_, _, _, ⟨9, Q, (.inr ⟨hQS, hQ0, .inl ⟨hloT, rfl⟩, fun q => absurd ((hri (hrr q).1).1.symm.trans hloT) (by decide)⟩), rfl, rfl⟩, Abs.byG hbel [] rfl [0, 1, 2, 3, 4, 5, 6] (by decide) ?_⟩)
               exact aM (jn @hloT (jn @bi (jn @bj (jn @bA @bt))))
              ·have h20d := h20
               have hloF := h20d
               rcases Bool.eq_false_or_eq_true (imA Q ((evG evs i).t) (stF ((evG evs i).st) ((evG evs i).g)) tu le sl) with h21 | h21
               ·have h21d := h21
                have hSi : bP (imS Q ((evG evs i).t) (stF ((evG evs i).st) ((evG evs i).g)) tu le sl Q.length) = true := bU.2 ⟨by rw [dI]; exact hQ16, imS_ok hQv (by omega) (by omega) (by omega) (by omega) h21d⟩
                have h0i : 0 < (imS Q ((evG evs i).t) (stF ((evG evs i).st) ((evG evs i).g)) tu le sl Q.length).length := by rw [dI]; exact hQ0
                refine af (by kernel_rfl) (lmvY _ W Hh (.sl (some (H.length + 1, 0)) ks.length none) ks (.sl (some (H.length + 2, 0)) Q.length none) Q tu le sl ra lo _ ((evG evs i).t) ((evG evs i).g) ((evG evs i).st) ⟨_, _, _, by first | rfl | (rw [List.length_append]; done) | (rw [List.length_append]; rfl), by first | rfl | (rw [ap]; rfl) | (rw [al]; rfl) | (rw [ap, am]; rfl) | (rw [al, am]; rfl)⟩ ⟨_, _, _, by first | rfl | (rw [List.length_append]; done) | (rw [List.length_append]; rfl), by first | rfl | (rw [ap]; rfl) | (rw [al]; rfl) | (rw [ap, am]; rfl) | (rw [al, am]; rfl)⟩ (by first | rfl | (rw [ap]; rfl) | (rw [al]; rfl) | (rw [al])) (by assumption) (by assumption) (by assumption) (by assumption) (by assumption) (by assumption)) ?_
                have g'31 := (jn @h19 (jn @h19d (jn @h20 (jn @h20d (jn @h21 (jn @h21d g'17))))))
                refine aa g'31 ?_
                refine aR (hJ _ _ ⟨_, _, _, ⟨0, (imS Q ((evG evs i).t) (stF ((evG evs i).st) ((evG evs i).g)) tu le sl Q.length), (.inr ⟨hSi, h0i, .inr ⟨hloF, rfl⟩, fun q => wth_set hQv (hri (hrr q).1).2.2 (hrr q).2.2.1⟩), rfl, rfl⟩, Abs.byG hbel [] rfl [0, 1, 7, 3, 4, 5, 6] (by decide) ?_⟩)
                exact aM (jn @hloF (jn @bi (jn @bj (jn @bA @bt))))
               ·have h21d := h21
                refine af (by kernel_rfl) (lmvN _ W Hh (.sl (some (H.length + 1, 0)) ks.length none) ks (.sl (some (H.length + 2, 0)) Q.length none) Q tu le sl ra lo _ ((evG evs i).t) ((evG evs i).g) ((evG evs i).st) ⟨_, _, _, by first | rfl | (rw [List.length_append]; done) | (rw [List.length_append]; rfl), by first | rfl | (rw [ap]; rfl) | (rw [al]; rfl) | (rw [ap, am]; rfl) | (rw [al, am]; rfl)⟩ ⟨_, _, _, by first | rfl | (rw [List.length_append]; done) | (rw [List.length_append]; rfl), by first | rfl | (rw [ap]; rfl) | (rw [al]; rfl) | (rw [ap, am]; rfl) | (rw [al, am]; rfl)⟩ ⟨_, by first | rfl | (rw [ap]; rfl) | (rw [al]; rfl) | (rw [al])⟩ (by assumption) (by assumption) (by assumption) (by assumption) (by assumption) (by assumption)) ?_
                have g'32 := (jn @h19 (jn @h19d (jn @h20 (jn @h20d (jn @h21 (jn @h21d g'17))))))
                refine aa g'32 ?_
                refine aR (hJ _ _ ⟨_, _, _, ⟨2, Q, (.inl (.inr rfl)), rfl, rfl⟩, Abs.byG hbel [] rfl [0, 1, 2, 3, 4, 5, 6] (by decide) ?_⟩)
                exact aM (jn @hloF (jn @bi (jn @bj (jn @bA @bt))))
             ·have h19d := h19
              refine af (by kernel_rfl) (lmv_a _ W Hh (.sl (some (H.length + 1, 0)) ks.length none) ks (.sl (some (H.length + 2, 0)) Q.length none) Q tu le sl ra lo _ ((evG evs i).t) ((evG evs i).g) ((evG evs i).st) ⟨_, _, _, by first | rfl | (rw [List.length_append]; done) | (rw [List.length_append]; rfl), by first | rfl | (rw [ap]; rfl) | (rw [al]; rfl) | (rw [ap, am]; rfl) | (rw [al, am]; rfl)⟩ ⟨_, _, _, by first | rfl | (rw [List.length_append]; done) | (rw [List.length_append]; rfl), by first | rfl | (rw [ap]; rfl) | (rw [al]; rfl) | (rw [ap, am]; rfl) | (rw [al, am]; rfl)⟩ ⟨_, by first | rfl | (rw [ap]; rfl) | (rw [al]; rfl) | (rw [al])⟩ (by assumption)) ?_
              have g'33 := (jn @h19 (jn @h19d g'17))
              refine aa g'33 ?_
              refine aR (hJ _ _ ⟨_, _, _, ⟨1, Q, (.inl (.inl rfl)), rfl, rfl⟩, Abs.byG hbel [] rfl [0, 1, 2, 3, 4, 5, 6] (by decide) ?_⟩)
              exact aM (jn @bi (jn @bj (jn @bA @bt)))
            rintro F2 H2 ⟨mv, Q1, pmv, rfl, rfl⟩
            refine aQ fun Q8 hn8 hr8 he8 => ?_
            have hQ8 := fun F H' h => hr8 F H' (hQ4 F H' h)
            refine aL false try_mixed (by kernel_rfl) ?_
            refine aa g'17 ?_
            refine aj (fun h22 => ?_) (fun h22 => ?_)
            ·have h22d := bsT h22
             have h22n := bnT h22
             have g'34 := (jn @h22 (jn @h22n (jn @aU (jn @aT g'17))))
             refine aa g'34 ?_
             refine ai (fun h23 => ?_) (fun h23 => ?_)
             ·have h23d := bsT h23
              have h23n := bnT h23
              have g'35 := (jn @h23 (jn @h23n g'34))
              refine aa g'35 ?_
              exact hQ8 _ _ (ae (.inl rfl) hbel (x := .bool true) (ag Tryz.results3) rfl ⟨by first | rfl | (rw [hfinR]; rfl), rfl⟩)
             ·have h23d := bsT h23
              have h23n := bnT h23
              obtain ⟨hS1, h01, hlm, hc1⟩ := pmv.resolve_left (by omega)
              have hmv : rr = true → mv = 0 := fun q => by
               rcases hlm with ⟨e, -⟩ | ⟨-, e⟩
               ·exact absurd ((hri (hrr q).1).1.symm.trans e) (by decide)
               ·exact e
              have hst := fun (q : rr = true) => lost_step (ks := ks) (Q := Q1) hV hnz (hri (hrr q).1).2.1 (pin (hrr q).2.1).1 (pin (hrr q).2.1).2 (wth_h (hrr q).2.2.1) hg (plL_ok (hrr q).2.2.2).1 (plL_ok (hrr q).2.2.2).2 hS1 (hc1 q)
              have g'36 := (jn @h23 (jn @h23n g'34))
              refine aa g'36 ?_
              refine hn8 _ _ ?_
              refine kW false try_mixed (by kernel_rfl) (fun F2 H2 => ∃ sv : Int, ∃ ks2 : List Int, ∃ Q2 : List T6, ∃ lo2 : Bool, (bW W Hh ks2 = true ∧ bP Q2 = true ∧ 0 < Q2.length ∧ (rr = true → sv = 0 ∧ lo2 = false ∧ mv = 0 ∧ d5 ks2 xs ∧ ∃ b ∈ Q2, InP b ((evG evs i).x) ((evG evs i).y) ((evG evs i).h))) ∧ F2 = [(2, .sl (some (bev, 0)) evs.length cev), (3, .ptr (some (H.length, 0))), (7, .ptr (some (H.length + 3, 0))), (9, .ptr (some (H.length + 4, 0))), (10, .bool rr), (11, .int .i64 ((i : Nat) : Int)), (13, .ptr (some (H.length + 5, 0))), (15, .int .i64 mv), (16, .int .i64 sv)] ∧ H2 = H ++ [.cells true 0 [.int .i64 W, .int .i64 Hh, .sl (some (bpp, 0)) xs.length cpp, .int .i64 tu, .int .i64 le, .int .i64 sl, .int .i64 ra, .int .i64 ax, .int .i64 ay, .int .i64 ah], .cells true 1 (ints .u8 ks2), .cells true 6 (r6 Q2), .cells true 0 [.int .i64 W, .int .i64 Hh, .sl (some (H.length + 1, 0)) ks2.length none, .sl (some (H.length + 2, 0)) Q2.length none, .int .i64 tu, .int .i64 le, .int .i64 sl, .int .i64 ra, .bool lo2], .cells true 0 [.int .i64 cx, .int .i64 cy, .int .i64 ch], .cells true 0 [.int .i64 ((evG evs i).x), .int .i64 ((evG evs i).y), .int .i64 ((evG evs i).h)]]) ?_ ?_
              ·intro J hJ
               refine aa g'36 ?_
               rcases Bool.eq_false_or_eq_true (ct ((evG evs i).sc)) with h24 | h24
               ·have h24d := h24
                rcases Bool.eq_false_or_eq_true (lo) with h25 | h25
                ·have h25d := h25
                 have hloT := h25d
                 have hfinR : ri = false := by
                  cases hq : ri with
                  | false => rfl
                  | true => exact absurd ((hri hq).1.symm.trans hloT) (by decide)
                 refine af (by kernel_rfl) (lseS _ W Hh (.sl (some (H.length + 1, 0)) ks.length none) ks (.sl (some (H.length + 2, 0)) Q1.length none) Q1 tu le sl ra lo _ _ ((evG evs i).sc) ⟨_, _, _, by first | rfl | (rw [List.length_append]; done) | (rw [List.length_append]; rfl), by first | rfl | (rw [ap]; rfl) | (rw [al]; rfl) | (rw [ap, am]; rfl) | (rw [al, am]; rfl)⟩ ⟨_, _, _, by first | rfl | (rw [List.length_append]; done) | (rw [List.length_append]; rfl), by first | rfl | (rw [ap]; rfl) | (rw [al]; rfl) | (rw [ap, am]; rfl) | (rw [al, am]; rfl)⟩ ⟨_, by first | rfl | (rw [ap]; rfl) | (rw [al]; rfl) | (rw [al])⟩ ⟨_, _, _, rfl, by first | exact hb0q _ | exact hbq⟩ (by omega) (by assumption) (by assumption)) ?_
                 have g'37 := (jn @h24 (jn @h24d (jn @h25 (jn @h25d g'36))))
                 refine aa g'37 ?_
                 refine aR (hJ _ _ ⟨_, _, _, ⟨9, ks, Q1, lo, (⟨hkV, hS1, h01, fun q => absurd ((hri (hrr q).1).1.symm.trans hloT) (by decide)⟩), rfl, rfl⟩, Abs.byG hbel [] rfl [0, 1, 2, 3, 4, 6] (by decide) ?_⟩)
                 exact aM (jn @hloT (jn @bi (jn @bj (jn @bA @bt))))
                ·have h25d := h25
                 have hloF := h25d
                 rcases Bool.eq_false_or_eq_true (decide (0 < (bE W Hh ks Q1 ((evG evs i).sc) ra 32).length)) with h26 | h26
                 ·have h26d := h26
                  have hR0 : 0 < (bE W Hh ks Q1 ((evG evs i).sc) ra 32).length := of_decide_eq_true h26d
                  have hok : (∀ b ∈ bE W Hh ks Q1 ((evG evs i).sc) ra 32, bD b = true) ∧ (bE W Hh ks Q1 ((evG evs i).sc) ra 32).length ≤ Q1.length + 32 + ([] : List T6).length := gD (xs := ks) (s := (evG evs i).sc) (g := ra) ⟨hw0, hw1⟩ ⟨hh0, hh1⟩ (Q1.length + 2 * 32) Q1 32 [] rfl (bU.1 hS1).2 (fun b hb => by cases hb)
                  have hcp := mZ hR0 hok.1
                  rcases Bool.eq_false_or_eq_true ((lnO W Hh ks (cpL (bE W Hh ks Q1 ((evG evs i).sc) ra 32)) ((evG evs i).sc) ra).isSome) with h27 | h27
                  ·have h27d := h27
                   obtain ⟨oo, hoo⟩ := Option.isSome_iff_exists.1 h27d
                   have hov := ln_v hkV hoo
                   have ho0 : 0 < oo.length := by rw [hov.2]; exact hk0
                   refine af (by kernel_rfl) (lseY _ W Hh (.sl (some (H.length + 1, 0)) ks.length none) ks (.sl (some (H.length + 2, 0)) Q1.length none) Q1 tu le sl ra lo _ _ ((evG evs i).sc) ⟨_, _, _, by first | rfl | (rw [List.length_append]; done) | (rw [List.length_append]; rfl), by first | rfl | (rw [ap]; rfl) | (rw [al]; rfl) | (rw [ap, am]; rfl) | (rw [al, am]; rfl)⟩ ⟨_, _, _, by first | rfl | (rw [List.length_append]; done) | (rw [List.length_append]; rfl), by first | rfl | (rw [ap]; rfl) | (rw [al]; rfl) | (rw [ap, am]; rfl) | (rw [al, am]; rfl)⟩ (by first | rfl | (rw [ap]; rfl) | (rw [al]; rfl) | (rw [al])) ⟨_, _, _, rfl, by first | exact hb0q _ | exact hbq⟩ (by assumption) (by assumption) (by assumption) (by assumption) (by assumption) (by assumption) oo hoo ho0 (by assumption)) ?_
                   have g'38 := (jn @h24 (jn @h24d (jn @h25 (jn @h25d (jn @h26 (jn @h26d (jn @h27 (jn @h27d g'36))))))))
                   refine aa g'38 ?_
                   refine aR (hJ _ _ ⟨_, _, _, ⟨0, oo, (cpL (bE W Hh ks Q1 ((evG evs i).sc) ra 32)), false, (⟨hov.1, hcp.1, hcp.2, fun q => ⟨rfl, rfl, hmv q, by
                        obtain ⟨-, -, o, ho, hb⟩ := hst q
                        rw [hoo] at ho; cases ho; exact hb, (hst q).2.1⟩⟩), rfl, rfl⟩, Abs.byG hbel [] rfl [0, 7, 8, 3, 4, 6] (by decide) ?_⟩)
                   exact aM (jn @hloF (jn @bi (jn @bj (jn @bA @bt))))
                  ·have h27d := h27
                   have hon := Option.not_isSome_iff_eq_none.1 (by rw [h27d]; decide)
                   refine af (by kernel_rfl) (lseL _ W Hh (.sl (some (H.length + 1, 0)) ks.length none) ks (.sl (some (H.length + 2, 0)) Q1.length none) Q1 tu le sl ra lo _ _ ((evG evs i).sc) ⟨_, _, _, by first | rfl | (rw [List.length_append]; done) | (rw [List.length_append]; rfl), by first | rfl | (rw [ap]; rfl) | (rw [al]; rfl) | (rw [ap, am]; rfl) | (rw [al, am]; rfl)⟩ ⟨_, _, _, by first | rfl | (rw [List.length_append]; done) | (rw [List.length_append]; rfl), by first | rfl | (rw [ap]; rfl) | (rw [al]; rfl) | (rw [ap, am]; rfl) | (rw [al, am]; rfl)⟩ (by first | rfl | (rw [ap]; rfl) | (rw [al]; rfl) | (rw [al])) ⟨_, _, _, rfl, by first | exact hb0q _ | exact hbq⟩ (by assumption) (by assumption) (by assumption) (by assumption) (by assumption) (by assumption) (by assumption) (by assumption)) ?_
                   have g'39 := (jn @h24 (jn @h24d (jn @h25 (jn @h25d (jn @h26 (jn @h26d (jn @h27 (jn @h27d g'36))))))))
                   refine aa g'39 ?_
                   refine aR (hJ _ _ ⟨_, _, _, ⟨11, ks, Q1, true, (⟨hkV, hS1, h01, fun q => by
                        obtain ⟨-, -, o, ho, -⟩ := hst q
                        rw [hon] at ho; cases ho⟩), rfl, rfl⟩, Abs.byG hbel [] rfl [0, 1, 2, 3, 4, 6] (by decide) ?_⟩)
                   exact aM (jn @hloF (jn @bi (jn @bj (jn @bA @bt))))
                 ·have h26d := h26
                  have hRn : (bE W Hh ks Q1 ((evG evs i).sc) ra 32).length = 0 := by have := of_decide_eq_false h26d; omega
                  refine af (by kernel_rfl) (lseE _ W Hh (.sl (some (H.length + 1, 0)) ks.length none) ks (.sl (some (H.length + 2, 0)) Q1.length none) Q1 tu le sl ra lo _ _ ((evG evs i).sc) ⟨_, _, _, by first | rfl | (rw [List.length_append]; done) | (rw [List.length_append]; rfl), by first | rfl | (rw [ap]; rfl) | (rw [al]; rfl) | (rw [ap, am]; rfl) | (rw [al, am]; rfl)⟩ ⟨_, _, _, by first | rfl | (rw [List.length_append]; done) | (rw [List.length_append]; rfl), by first | rfl | (rw [ap]; rfl) | (rw [al]; rfl) | (rw [ap, am]; rfl) | (rw [al, am]; rfl)⟩ (by first | rfl | (rw [ap]; rfl) | (rw [al]; rfl) | (rw [al])) ⟨_, _, _, rfl, by first | exact hb0q _ | exact hbq⟩ (by assumption) (by assumption) (by assumption) (by assumption) (by assumption) (by assumption) (by assumption)) ?_
                  have g'40 := (jn @h24 (jn @h24d (jn @h25 (jn @h25d (jn @h26 (jn @h26d g'36))))))
                  refine aa g'40 ?_
                  refine aR (hJ _ _ ⟨_, _, _, ⟨12, ks, Q1, true, (⟨hkV, hS1, h01, fun q => absurd (hst q).1 (by omega)⟩), rfl, rfl⟩, Abs.byG hbel [] rfl [0, 1, 2, 3, 4, 6] (by decide) ?_⟩)
                  exact aM (jn @hloF (jn @bi (jn @bj (jn @bA @bt))))
               ·have h24d := h24
                have hscF := h24d
                refine af (by kernel_rfl) (lse_a _ W Hh (.sl (some (H.length + 1, 0)) ks.length none) ks (.sl (some (H.length + 2, 0)) Q1.length none) Q1 tu le sl ra lo _ _ ((evG evs i).sc) ⟨_, _, _, by first | rfl | (rw [List.length_append]; done) | (rw [List.length_append]; rfl), by first | rfl | (rw [ap]; rfl) | (rw [al]; rfl) | (rw [ap, am]; rfl) | (rw [al, am]; rfl)⟩ ⟨_, _, _, by first | rfl | (rw [List.length_append]; done) | (rw [List.length_append]; rfl), by first | rfl | (rw [ap]; rfl) | (rw [al]; rfl) | (rw [ap, am]; rfl) | (rw [al, am]; rfl)⟩ ⟨_, by first | rfl | (rw [ap]; rfl) | (rw [al]; rfl) | (rw [al])⟩ ⟨_, _, _, rfl, by first | exact hb0q _ | exact hbq⟩ (by omega) (by assumption)) ?_
                have g'41 := (jn @h24 (jn @h24d g'36))
                refine aa g'41 ?_
                refine aR (hJ _ _ ⟨_, _, _, ⟨1, ks, Q1, lo, (⟨hkV, hS1, h01, fun q => absurd ((plL_ok (hrr q).2.2.2).1.symm.trans hscF) (by decide)⟩), rfl, rfl⟩, Abs.byG hbel [] rfl [0, 1, 2, 3, 4, 6] (by decide) ?_⟩)
                exact aM (jn @bi (jn @bj (jn @bA @bt)))
              rintro F2 H2 ⟨sv, ks2, Q2, lo2, psv, rfl, rfl⟩
              obtain ⟨hkV2, hS2, h02, hrp⟩ := psv
              have hS216 := (bU.1 hS2).1
              have hk2l := (bM.1 hkV2).len
              have hwh6 := iL (a := W) (b := Hh) (by omega) hw1 (by omega) hh1
              have hk20 : 0 < ks2.length := by have := ((bM.1 hkV2).idx (show inB W Hh 0 0 = true from di.2 (by omega))).2.2.2.2.1; omega
              refine aL false try_mixed (by kernel_rfl) ?_
              refine aa g'36 ?_
              refine aj (fun h28 => ?_) (fun h28 => ?_)
              ·have h28d := bsT h28
               obtain ⟨hsv, hlo2, hmv0, hbl2, hcv2⟩ := hrp h28d
               have hrrT := hrr h28d
               have hrr1 := h28d
               have g'42 := (jn @h28 (jn @h28d g'36))
               refine aa g'42 ?_
               refine aj (fun h29 => ?_) (fun h29 => ?_)
               ·have h29d := bsT h29
                have h29n := bnT h29
                have g'43 := (jn @h29 (jn @h29n g'42))
                refine aa g'43 ?_
                refine aj (fun h30 => ?_) (fun h30 => ?_)
                ·have h30d := bsT h30
                 have h30n := bnT h30
                 have g'44 := (jn @h30 (jn @h30n g'43))
                 refine aa g'44 ?_
                 refine aK (by kernel_rfl) (nz _ W Hh (.sl (some (H.length + 1, 0)) ks2.length none) ks2 (.sl (some (H.length + 2, 0)) Q2.length none) Q2 tu le sl ra lo2 _ ⟨_, _, _, by first | rfl | (rw [List.length_append]; done) | (rw [List.length_append]; rfl), by first | rfl | (rw [ap]; rfl) | (rw [al]; rfl) | (rw [ap, am]; rfl) | (rw [al, am]; rfl)⟩ ⟨_, _, _, by first | rfl | (rw [List.length_append]; done) | (rw [List.length_append]; rfl), by first | rfl | (rw [ap]; rfl) | (rw [al]; rfl) | (rw [ap, am]; rfl) | (rw [al, am]; rfl)⟩ ⟨_, by first | rfl | (rw [ap]; rfl) | (rw [al]; rfl) | (rw [al])⟩) ?_
                 refine aa g'44 ?_
                 refine aj (fun h31 => ?_) (fun h31 => ?_)
                 ·have h31d := bsT h31
                  have g'45 := (jn @h31 (jn @h31d g'44))
                  refine aa g'45 ?_
                  refine cg (by kernel_rfl) (by simp) (lset_c _ W Hh (.sl (some (H.length + 1, 0)) ks2.length none) ks2 (.sl (some (H.length + 2, 0)) Q2.length none) Q2 tu le sl ra false _ ⟨_, _, _, by first | rfl | (rw [List.length_append]; done) | (rw [List.length_append]; rfl), by first | rfl | (rw [ap]; rfl) | (rw [al]; rfl) | (rw [ap, am]; rfl) | (rw [al, am]; rfl)⟩ ⟨_, _, _, by first | rfl | (rw [List.length_append]; done) | (rw [List.length_append]; rfl), by first | rfl | (rw [ap]; rfl) | (rw [al]; rfl) | (rw [ap, am]; rfl) | (rw [al, am]; rfl)⟩ ⟨_, by first | rfl | (rw [ap]; rfl) | (rw [al]; rfl) | (rw [al])⟩ (by omega) (by assumption)) ?_
                  refine aa g'45 ?_
                  refine aK (by kernel_rfl) (bcov_c _ _ Q2 ((evG evs i).x) ((evG evs i).y) ((evG evs i).h) ⟨_, _, _, by first | rfl | (rw [List.length_append]; done) | (rw [List.length_append]; rfl), by first | rfl | (rw [ap]; rfl) | (rw [al]; rfl) | (rw [ap, am]; rfl) | (rw [al, am]; rfl)⟩ (by omega)) ?_
                  refine aa g'45 ?_
                  refine aj (fun h32 => ?_) (fun h32 => ?_)
                  ·have h32d := bsT h32
                   have g'46 := (jn @h32 (jn @h32d g'45))
                   refine aa g'46 ?_
                   refine cg (by kernel_rfl) (by simp) (lplan_c _ W Hh (.sl (some (H.length + 1, 0)) ks2.length none) ks2 (.sl (some (H.length + 2, 0)) Q2.length none) Q2 tu le sl ra false _ ⟨_, _, _, by first | rfl | (rw [List.length_append]; done) | (rw [List.length_append]; rfl), by first | rfl | (rw [ap]; rfl) | (rw [al]; rfl) | (rw [ap, am]; rfl) | (rw [al, am]; rfl)⟩ ⟨_, _, _, by first | rfl | (rw [List.length_append]; done) | (rw [List.length_append]; rfl), by first | rfl | (rw [ap]; rfl) | (rw [al]; rfl) | (rw [ap, am]; rfl) | (rw [al, am]; rfl)⟩ ⟨_, by first | rfl | (rw [ap]; rfl) | (rw [al]; rfl) | (rw [al])⟩ (by omega) (by omega)) ?_
                   refine aa g'46 ?_
                   refine aK (by kernel_rfl) (below_c _ W Hh _ ks2 W Hh _ xs ⟨_, _, _, by first | rfl | (rw [List.length_append]; done) | (rw [List.length_append]; rfl), by first | rfl | (rw [ap]; rfl) | (rw [al]; rfl) | (rw [ap, am]; rfl) | (rw [al, am]; rfl)⟩ ⟨_, _, _, rfl, by first | exact hb0pp _ | exact hbpp⟩ (by assumption) (by assumption) rfl rfl (by assumption)) ?_
                   refine aa g'46 ?_
                   refine hn4 _ _ ?_
                   refine hn3 _ _ ?_
                   refine aL false try_mixed (by kernel_rfl) ?_
                   refine aa g'46 ?_
                   refine hJ0 _ _ ⟨k0 - 1, by omega, _, _, _, ⟨i + 1, ks2, Q2, lo2, rr, (evG evs i).x, (evG evs i).y, (evG evs i).h, by omega, hkV2, hS2, h02, (fun q => ⟨(hrp q).2.1, (hrp q).2.2.2.1, (hrp q).2.2.2.2⟩), rfl, rfl⟩, Abs.byG hbel [] rfl [0, 1, 2, 3, 4] (by decide) ?_⟩
                   exact aM (jn @hlo2 (jn @hrr1 (jn @bi (jn @bj (jn @bA @bt)))))
                  ·have h32d := bsT h32
                   exact absurd ((in_cov (wth_h hrrT.2.2.1) (bU.1 hS2).2 hcv2).1.symm.trans h32d) (by decide)
                 ·have h31d := bsT h31
                  exact absurd (hlo2.symm.trans h31d) (by decide)
                ·have h30d := bsT h30
                 have h30n := bnT h30
                 exact absurd hsv (by first | exact h30d | omega)
               ·have h29d := bsT h29
                have h29n := bnT h29
                exact absurd hmv0 (by first | exact h29d | omega)
              ·have h28d := bsT h28
               have hrr0 := h28d
               have g'47 := (jn @h28 (jn @h28d g'36))
               refine aa g'47 ?_
               refine hn4 _ _ ?_
               refine hn3 _ _ ?_
               refine aL false try_mixed (by kernel_rfl) ?_
               refine aa g'47 ?_
               refine hJ0 _ _ ⟨k0 - 1, by omega, _, _, _, ⟨i + 1, ks2, Q2, lo2, rr, (evG evs i).x, (evG evs i).y, (evG evs i).h, by omega, hkV2, hS2, h02, (fun q => ⟨(hrp q).2.1, (hrp q).2.2.2.1, (hrp q).2.2.2.2⟩), rfl, rfl⟩, Abs.byG hbel [] rfl [0, 1, 2, 3, 4] (by decide) ?_⟩
               exact aM (jn @hrr0 (jn @bi (jn @bj (jn @bA @bt))))
            ·have h22d := bsT h22
             have h22n := bnT h22
             have g'48 := (jn @h22 (jn @h22n (jn @aU (jn @aT g'17))))
             refine aa g'48 ?_
             exact hQ8 _ _ (ae (.inl rfl) hbel (x := .bool true) (ag Tryz.results3) rfl ⟨by first | rfl | (rw [hfinR]; rfl), rfl⟩)
          ·have h9d := bsT h9
           have g'49 := (jn @h9 (jn @h9d g'12))
           refine aa g'49 ?_
           refine he2 _ _ _ ?_
           refine he1 _ _ _ ?_
           refine aa g'49 ?_
           refine af (by kernel_rfl) (nz _ W Hh (.sl (some (H.length + 1, 0)) ks.length none) ks (.sl (some (H.length + 2, 0)) Q.length none) Q tu le sl ra lo _ ⟨_, _, _, by first | rfl | (rw [List.length_append]; done) | (rw [List.length_append]; rfl), by first | rfl | (rw [ap]; rfl) | (rw [al]; rfl) | (rw [ap, am]; rfl) | (rw [al, am]; rfl)⟩ ⟨_, _, _, by first | rfl | (rw [List.length_append]; done) | (rw [List.length_append]; rfl), by first | rfl | (rw [ap]; rfl) | (rw [al]; rfl) | (rw [ap, am]; rfl) | (rw [al, am]; rfl)⟩ ⟨_, by first | rfl | (rw [ap]; rfl) | (rw [al]; rfl) | (rw [al])⟩) ?_
           refine aa g'49 ?_
           refine aj (fun h33 => ?_) (fun h33 => ?_)
           ·have h33d := bsT h33
            have hloT := h33d
            have hfinR : ri = false := by
             cases hq : ri with
             | false => rfl
             | true => exact absurd ((hri hq).1.symm.trans hloT) (by decide)
            have g'50 := (jn @h33 (jn @h33d g'49))
            refine aa g'50 ?_
            exact hQ _ _ (ae (.inl rfl) hbel (x := .bool (!(ri))) (ag Tryz.results3) rfl ⟨by first | rfl | (rw [hfinR]; rfl), rfl⟩)
           ·have h33d := bsT h33
            have hloF := h33d
            have g'51 := (jn @h33 (jn @h33d g'49))
            refine aa g'51 ?_
            exact hQ _ _ (ae (.inl rfl) hbel (x := .bool true) (ag Tryz.results3) rfl ⟨by first | rfl | (rw [hfinR]; rfl), rfl⟩)
       ·have h7d := bsT h7
        have g'52 := (jn @h7 (jn @h7d g'8))
        refine aa g'52 ?_
        exact hQ _ _ (ae (.inl rfl) hbel (x := .bool true) (ag Tryz.results3) rfl ⟨by first | rfl | (rw [hfinR]; rfl), rfl⟩)
      ·have h6d := bsT h6
       have g'53 := (jn @h6 (jn @h6d g'7))
       refine aa g'53 ?_
       exact hQ _ _ (ae (.inl rfl) hbel (x := .bool true) (ag Tryz.results3) rfl ⟨by first | rfl | (rw [hfinR]; rfl), rfl⟩)
     ·have h5d := bsT h5
      have g'54 := (jn @h5 (jn @h5d g'6))
      refine aa g'54 ?_
      exact hQ _ _ (ae (.inl rfl) hbel (x := .bool true) (ag Tryz.results3) rfl ⟨by first | rfl | (rw [hfinR]; rfl), rfl⟩)
    ·have h4d := bsT h4
     have g'55 := (jn @h4 (jn @h4d g'5))
     refine aa g'55 ?_
     exact hQ _ _ (ae (.inl rfl) hbel (x := .bool true) (ag Tryz.results3) rfl ⟨by first | rfl | (rw [hfinR]; rfl), rfl⟩)
  ·have h2d := bsT h2
   have g'56 := (jn @h2 (jn @h2d g'2))
   refine aa g'56 ?_
   refine af (by kernel_rfl) (law_c _) ?_
   refine aa g'56 ?_
   exact hQ _ _ (ae (.inl rfl) hbel (x := .bool true) (ag Tryz.results3) rfl ⟨by first | rfl | (rw [hfinR]; rfl), rfl⟩)
 ·have h1d := bsT h1
  have g'57 := (jn @h1 (jn @h1d g'1))
  refine aa g'57 ?_
  refine af (by kernel_rfl) (law_c _) ?_
  refine aa g'57 ?_
  exact hQ _ _ (ae (.inl rfl) hbel (x := .bool true) (ag Tryz.results3) rfl ⟨by first | rfl | (rw [hfinR]; rfl), rfl⟩)
end Go.Proofs.YtojbkljfioegkaaGreat
