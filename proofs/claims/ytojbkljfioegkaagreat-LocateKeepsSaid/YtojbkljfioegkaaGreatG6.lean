/- Proved: the law LocateKeeps returns true on every input, and its arguments read afterwards as before. Conditions: none beyond the given row's. -/
import Derived.Test.YtojbkljfioegkaaGreatG5
import Derived.Test.YtojbkljfioegkaaGreatG2
namespace Go.Proofs.YtojbkljfioegkaaGreat
set_option linter.unusedSimpArgs false
set_option linter.unusedVariables false
open Go.RowKit
set_option maxHeartbeats 4000000
set_option maxRecDepth 100000
theorem rem_n2 (a : Nat) : Int.tmod (a : Int) 2 = ((a % 2 : Nat) : Int) := rfl
theorem rem_n4 (a : Nat) : Int.tmod (a : Int) 4 = ((a % 4 : Nat) : Int) := rfl
def bdM (n : Nat) : Nat := (((n : Nat) : Int) % 12).toNat
theorem bd_ok (n : Nat) : cK (((bdM n % 2 : Nat) : Int)) (((bdM n % 3 : Nat) : Int)) (((bdM n % 4 : Nat) : Int)) (1 + ((bdM n : Nat) : Int)) = true := by
 have h : bdM n < 12 := by unfold bdM; omega
 simp only [cK, Bool.and_eq_true, bM]
 omega
theorem bds_c (H : ac) (n : Nat) (hn : n ≤ 9223372036854775807) : ACalls Tryz.prog 27 [.int .i64 ((n : Nat) : Int)] H (fun v H' => v = .agg [.int .i64 ((bdM n % 2 : Nat) : Int), .int .i64 ((bdM n % 3 : Nat) : Int), .int .i64 ((bdM n % 4 : Nat) : Int), .int .i64 (1 + ((bdM n : Nat) : Int))] ∧ H' = H) := by
 refine AcT true Tryz.func27 ?_; intro hbel Q hQ
 have g'1 := (jn @rem_n2 (jn @rem_n3 @rem_n4))
 refine aa g'1 ?_
 refine aj (by kernel_rfl) (bmod_c _ ((n : Nat) : Int) 12 (by omega) (by omega)) ?_
 refine aa g'1 ?_
 exact hQ _ _ (ai (.inl rfl) hbel (x := .agg [.int .i64 ((((((n : Nat) : Int) % 12).toNat) % 2 : Nat) : Int), .int .i64 ((((((n : Nat) : Int) % 12).toNat) % 3 : Nat) : Int), .int .i64 ((((((n : Nat) : Int) % 12).toNat) % 4 : Nat) : Int), .int .i64 (1 + (((((n : Nat) : Int) % 12).toNat : Nat) : Int))]) (av Tryz.results27) rfl ⟨rfl, rfl⟩)
theorem bel25_c (H : ac) (W : Int) (Hh : Int) (kk : AV) (ks : List Int) (W2 : Int) (H2 : Int) (oo : AV) (os : List Int) (hkk : Sl H 1 kk ks.length (ints .u8 ks)) (hoo : Sl H 1 oo os.length (ints .u8 os)) (he1 : W = W2) (he2 : Hh = H2) (hk : kpP ks os) (hx : ks.length ≤ 1000000) : ACalls Tryz.prog 28 [.agg [.int .i64 W, .int .i64 Hh, kk], .agg [.int .i64 W2, .int .i64 H2, oo]] H (fun v H' => v = .bool true ∧ H' = H) := by
 obtain ⟨bkk, okk, ckk, rfl, hbkk⟩ := hkk
 have hblkk := getElem?_lt hbkk
 have hb0kk := fun l => aD (l := l) hbkk
 obtain ⟨boo, ooo, coo, rfl, hboo⟩ := hoo
 have hbloo := getElem?_lt hboo
 have hb0oo := fun l => aD (l := l) hboo
 have hba : (W != W2) = false := by rw [he1]; simp
 have hbb : (Hh != H2) = false := by rw [he2]; simp
 have hkl := hk.1
 refine AcT true Tryz.func28 ?_; intro hbel Q hQ
 have g'2 := (jn @hbkk (jn @hb0kk (jn @hboo (jn @hb0oo (jn @hba @hbb)))))
 refine aa g'2 ?_
 refine aq (fun h1 => ?_) (fun h1 => ?_)
 ·have h1d := bsT h1
  have h1n := bnT h1
  omega
 ·have h1d := bsT h1
  have h1n := bnT h1
  have g'3 := (jn @h1 (jn @h1n (jn @aT (jn @aS g'2))))
  refine aa g'3 ?_
  refine go_loop try_mixed (by kernel_rfl) (fun k F Hx => ∃ i : Nat, i + k = os.length ∧ F = [(2, .ptr (some (H.length, 0))), (3, .ptr (some (H.length + 1, 0))), (5, .int .i64 ((i : Nat) : Int))] ∧ Hx = H ++ [.cells true 0 [.int .i64 W, .int .i64 Hh, .sl (some (bkk, 0)) ks.length ckk], .cells true 0 [.int .i64 W2, .int .i64 H2, .sl (some (boo, 0)) os.length coo]]) (os.length) ?_ ?_
  ·refine ⟨_, _, _, ⟨0, by omega, rfl, rfl⟩, Abs.byG hbel [] rfl [0, 1] (by decide) ?_⟩
   exact bj
  ·rintro k0 F Hx ⟨i, hm0, rfl, rfl⟩ J0 hJ0
   refine aa g'3 ?_
   refine aq (fun h2 => ?_) (fun h2 => ?_)
   ·have h2d := bsT h2
    have hlt : i < os.length := by omega
    have q3 := c7 (k := .u8) (xs := ks) (j := i) (by omega)
    have g'4 := (jn @h2 (jn @h2d (jn @q3 g'3)))
    refine aa g'4 ?_
    refine az (fun h4 => ?_) (fun h4 => ?_)
    ·have h4d := bsT h4
     have h4n := bnT h4
     have hz : ¬ gi ks i = 0 := by first | exact h4d | simpa using h4d
     have q5 := c7 (k := .u8) (xs := ks) (j := i) (by omega)
     have q6 := c7 (k := .u8) (xs := os) (j := i) (by omega)
     have g'5 := (jn @h4 (jn @h4n (jn @q5 (jn @q6 g'4))))
     refine aa g'5 ?_
     refine aq (fun h7 => ?_) (fun h7 => ?_)
     ·have h7d := bsT h7
      have h7n := bnT h7
      exact absurd (hk.2 i (by omega) hz) (by first | exact h7d | simpa using h7d)
     ·have h7d := bsT h7
      have h7n := bnT h7
      have g'6 := (jn @h7 (jn @h7n g'5))
      refine aa g'6 ?_
      refine hJ0 _ _ ⟨k0 - 1, by omega, _, _, _, ⟨i + 1, by omega, rfl, rfl⟩, Abs.byG hbel [] rfl [0, 1] (by decide) ?_⟩
      exact bj
    ·have h4d := bsT h4
     have h4n := bnT h4
     have g'7 := (jn @h4 (jn @h4n g'4))
     refine aa g'7 ?_
     refine hJ0 _ _ ⟨k0 - 1, by omega, _, _, _, ⟨i + 1, by omega, rfl, rfl⟩, Abs.byG hbel [] rfl [0, 1] (by decide) ?_⟩
     exact bj
   ·have h2d := bsT h2
    have g'8 := (jn @h2 (jn @h2d g'3))
    refine aa g'8 ?_
    exact hQ _ _ (ai (.inl rfl) hbel (x := .bool true) (av Tryz.results28) rfl ⟨rfl, rfl⟩)
theorem bxs_c (H : ac) (s : AV) (l : List T6) (q : AV) (hs : Sl H 6 s l.length (r6 l)) (hq : Sl H 6 q l.length (r6 l)) (hl : l.length ≤ 1000000000) : ACalls Tryz.prog 29 [s, q] H (fun v H' => v = .bool true ∧ H' = H) := by
 obtain ⟨bs, os, cs, rfl, hbs⟩ := hs
 have hbls := getElem?_lt hbs
 have hb0s := fun l => aD (l := l) hbs
 obtain ⟨bq, oq, cq, rfl, hbq⟩ := hq
 have hblq := getElem?_lt hbq
 have hb0q := fun l => aD (l := l) hbq
 refine AcT true Tryz.func29 ?_; intro hbel Q hQ
 have g'9 := (jn @hbs (jn @hb0s (jn @hbq @hb0q)))
 refine aa g'9 ?_
 refine go_loop try_mixed (by kernel_rfl) (fun k F Hx => ∃ i : Nat, i + k = l.length ∧ F = [(0, .sl (some (bs, 0)) l.length cs), (1, .sl (some (bq, 0)) l.length cq), (5, .int .i64 ((i : Nat) : Int))] ∧ H = Hx) (l.length) ?_ ?_
 ·refine ⟨_, _, _, ⟨0, by omega, rfl, rfl⟩, Abs.by0 hbel ?_⟩
  exact bj
 ·rintro k0 F Hx ⟨i, hm0, rfl, rfl⟩ J0 hJ0
  refine aa g'9 ?_
  refine aq (fun h1 => ?_) (fun h1 => ?_)
  ·have h1d := bsT h1
   have hlt : i < l.length := by omega
   have q2 := cE (l := l) (j := i) (by omega)
   have q3 := cE (l := l) (j := i) (by omega)
   have g'10 := (jn @h1 (jn @h1d (jn @aL (jn @q2 (jn @q3 g'9)))))
   refine aa g'10 ?_
   refine hJ0 _ _ ⟨k0 - 1, by omega, _, _, _, ⟨i + 1, by omega, rfl, rfl⟩, Abs.by0 hbel ?_⟩
   exact bj
  ·have h1d := bsT h1
   have g'11 := (jn @h1 (jn @h1d g'9))
   refine aa g'11 ?_
   exact hQ _ _ (aE (.inl rfl) hbel (x := .bool true) (av Tryz.results29) rfl ⟨rfl, rfl⟩)
theorem bxs_e (H : ac) (s : AV) (l : List T6) (q : AV) (m : List T6) (he : l = m) (hs : Sl H 6 s l.length (r6 l)) (hq : Sl H 6 q m.length (r6 m)) (hl : l.length ≤ 1000000000) : ACalls Tryz.prog 29 [s, q] H (fun v H' => v = .bool true ∧ H' = H) := by
 subst he; exact bxs_c H s l q hs hq hl
theorem lcl_n (H : ac)  : ACalls Tryz.prog 60 [.ptr none] H (fun v H' => v = .ptr none ∧ H' = H) := by
 (refine bK Tryz.func60 _ rfl (Nat.le_of_ble_eq_true (by kernel_rfl)) rfl ?_; intro hbel Q hQ hQ' c hc; unfold Tryz.f60 at hc; simp only [Option.some.injEq] at hc; subst hc; clear hQ')
 refine aO fun Q1 hn1 hr1 he1 => ?_
 have hQ1 := fun F H' h => hr1 F H' (hQ F H' h)
 refine aI false try_mixed (by kernel_rfl) ?_
 simp -implicitDefEqProofs (disch := omega) only [Option.isNone_none.{0}, ar, ak, al, au, simprocAttr, ax, ay, Function.comp_apply, one1, lenV, af, am, ap, aop, AV.ofValue, AV.ofCell, AV.cells, AV.flat, AV.one, arep, aB, aw]
 repeat refine And.intro (by omega) ?_
 refine hn1 _ _ ?_
 refine aO fun Q2 hn2 hr2 he2 => ?_
 have hQ2 := fun F H' h => hr2 F H' (hQ F H' h)
 refine aI false try_mixed (by kernel_rfl) ?_
 simp -implicitDefEqProofs (disch := omega) only [Option.isNone_none.{0}, ar, ak, al, au, simprocAttr, ax, ay, Function.comp_apply, one1, lenV, af, am, ap, aop, AV.ofValue, AV.ofCell, AV.cells, AV.flat, AV.one, arep, aB, aw]
 repeat refine And.intro (by omega) ?_
 exact hQ2 _ _ (aE (.inl rfl) hbel (x := .ptr none) (av Tryz.results60) rfl ⟨rfl, rfl⟩)
theorem lls_n (H : ac)  : ACalls Tryz.prog 19 [.ptr none] H (fun v H' => v = .bool false ∧ H' = H) := by
 refine AcT true Tryz.func19 ?_; intro hbel Q hQ
 simp -implicitDefEqProofs (disch := omega) only [Option.isNone_none.{0}, ar, ak, al, au, simprocAttr, ax, ay, Function.comp_apply, one1, lenV, af, am, ap, aop, AV.ofValue, AV.ofCell, AV.cells, AV.flat, AV.one, arep, aB, aw]
 repeat refine And.intro (by omega) ?_
 exact hQ _ _ (aE (.inl rfl) hbel (x := .bool false) (av Tryz.results19) rfl ⟨rfl, rfl⟩)
theorem lst_n (H : ac)  : ACalls Tryz.prog 20 [.ptr none] H (fun v H' => v = .sl none 0 (some 0) ∧ H' = H) := by
 refine AcT true Tryz.func20 ?_; intro hbel Q hQ
 simp -implicitDefEqProofs (disch := omega) only [Option.isNone_none.{0}, ar, ak, al, au, simprocAttr, ax, ay, Function.comp_apply, one1, lenV, af, am, ap, aop, AV.ofValue, AV.ofCell, AV.cells, AV.flat, AV.one, arep, aB, aw]
 repeat refine And.intro (by omega) ?_
 exact hQ _ _ (aE (.inl rfl) hbel (x := .sl none 0 (some 0)) (av Tryz.results20) rfl ⟨rfl, rfl⟩)
theorem lvl_n (H : ac)  : ACalls Tryz.prog 32 [.ptr none] H (fun v H' => v = .int .i64 0 ∧ H' = H) := by
 refine AcT true Tryz.func32 ?_; intro hbel Q hQ
 simp -implicitDefEqProofs (disch := omega) only [Option.isNone_none.{0}, ar, ak, al, au, simprocAttr, ax, ay, Function.comp_apply, one1, lenV, af, am, ap, aop, AV.ofValue, AV.ofCell, AV.cells, AV.flat, AV.one, arep, aB, aw]
 repeat refine And.intro (by omega) ?_
 refine aj (by kernel_rfl) (lst_n _) ?_
 simp -implicitDefEqProofs (disch := omega) only [Option.isNone_none.{0}, ar, ak, al, au, simprocAttr, ax, ay, Function.comp_apply, one1, lenV, af, am, ap, aop, AV.ofValue, AV.ofCell, AV.cells, AV.flat, AV.one, arep, aB, aw]
 repeat refine And.intro (by omega) ?_
 refine go_loop try_mixed (by kernel_rfl) (fun k F Hx => ∃ z : Unit, k = 0 ∧ F = [(3, .int .i64 0), (7, .sl none 0 (some 0)), (8, .int .i64 0), (9, .int .i64 0)] ∧ H = Hx) (0) ?_ ?_
 ·refine ⟨_, _, _, ⟨(), by omega, rfl, rfl⟩, Abs.by0 hbel ?_⟩
  exact bj
 ·rintro k0 F Hx ⟨z, hm0, rfl, rfl⟩ J0 hJ0
  simp -implicitDefEqProofs (disch := omega) only [Option.isNone_none.{0}, ar, ak, al, au, simprocAttr, ax, ay, Function.comp_apply, one1, lenV, af, am, ap, aop, AV.ofValue, AV.ofCell, AV.cells, AV.flat, AV.one, arep, aB, aw]
  repeat refine And.intro (by omega) ?_
  exact hQ _ _ (aE (.inl rfl) hbel (x := .int .i64 0) (av Tryz.results32) rfl ⟨rfl, rfl⟩)
theorem lse_n (H : ac)   : ACalls Tryz.prog 18 [.ptr none, .sl none 0 (some 0)] H (fun v H' => v = .int .i64 1 ∧ H' = H) := by
 (refine bK Tryz.func18 _ rfl (Nat.le_of_ble_eq_true (by kernel_rfl)) rfl ?_; intro hbel Q hQ hQ' c hc; unfold Tryz.f18 at hc; simp only [Option.some.injEq] at hc; subst hc; clear hQ')
 refine aO fun Q3 hn3 hr3 he3 => ?_
 have hQ3 := fun F H' h => hr3 F H' (hQ F H' h)
 refine aI true try_mixed (by kernel_rfl) ?_
 simp -implicitDefEqProofs (disch := omega) only [Option.isNone_none.{0}, ar, ak, al, au, simprocAttr, ax, ay, Function.comp_apply, one1, lenV, af, am, ap, aop, AV.ofValue, AV.ofCell, AV.cells, AV.flat, AV.one, arep, aB, aw]
 repeat refine And.intro (by omega) ?_
 refine hn3 _ _ ?_
 refine aO fun Q4 hn4 hr4 he4 => ?_
 have hQ4 := fun F H' h => hr4 F H' (hQ F H' h)
 refine aI true try_mixed (by kernel_rfl) ?_
 simp -implicitDefEqProofs (disch := omega) only [Option.isNone_none.{0}, ar, ak, al, au, simprocAttr, ax, ay, Function.comp_apply, one1, lenV, af, am, ap, aop, AV.ofValue, AV.ofCell, AV.cells, AV.flat, AV.one, arep, aB, aw]
 repeat refine And.intro (by omega) ?_
 exact hQ4 _ _ (aE (.inl rfl) hbel (x := .int .i64 1) (av Tryz.results18) rfl ⟨rfl, rfl⟩)
open Go.RowKit
theorem lb_mv (H : ac) (pp s : AV) (bz : Nat) (hpp : Sl H 1 pp 4 (ints .u8 [1, 1, 1, 2])) (hs : Sl H 6 s laL.length (r6 laL)) (hz : H[bz]? = some (.cells true 0 [.int .i64 4, .int .i64 1, pp, s, .int .i64 0, .int .i64 0, .int .i64 0, .int .i64 4, .bool false])) : ACalls Tryz.prog 17 [.ptr (some (bz, 0)), .agg [.int .i64 0, .int .i64 10], .bool false] H (fun v H' => v = .int .i64 0 ∧ H' = H.set bz (.cells true 0 [.int .i64 4, .int .i64 1, pp, .sl (some (H.length, 0)) laM.length none, .int .i64 0, .int .i64 0, .int .i64 0, .int .i64 4, .bool false]) ++ [.cells true 6 (r6 laM)]) := by
 have k := lmv_y H 4 1 pp [1, 1, 1, 2] s laL 0 0 0 4 bz 0 10 false hpp hs hz la_s2 (by decide) lb_c1 la_b lb_im
 rw [lb_is] at k
 exact k
theorem lb_see (H : ac) (pp s q : AV) (bz : Nat) (hpp : Sl H 1 pp 4 (ints .u8 [1, 1, 1, 2])) (hs : Sl H 6 s laM.length (r6 laM)) (hz : H[bz]? = some (.cells true 0 [.int .i64 4, .int .i64 1, pp, s, .int .i64 0, .int .i64 0, .int .i64 0, .int .i64 4, .bool false])) (hq : Sl H 2 q 1 (prs [(0, 3)])) : ACalls Tryz.prog 18 [.ptr (some (bz, 0)), q] H (fun v H' => v = .int .i64 12 ∧ H' = H.set bz (.cells true 0 [.int .i64 4, .int .i64 1, pp, s, .int .i64 0, .int .i64 0, .int .i64 0, .int .i64 4, .bool true])) :=
 lse_e H 4 1 pp [1, 1, 1, 2] s laM 0 0 0 4 bz q [(0, 3)] hpp hs hz hq la_v2 lb_s (by decide) la_c2 (by decide) (by rw [lb_r]; rfl)
theorem lb_mv2 (H : ac) (pp s : AV) (bz : Nat) (hpp : Sl H 1 pp 4 (ints .u8 [1, 1, 1, 2])) (hs : Sl H 6 s laM.length (r6 laM)) (hz : ∃ o, H[bz]? = some (.cells o 0 [.int .i64 4, .int .i64 1, pp, s, .int .i64 0, .int .i64 0, .int .i64 0, .int .i64 4, .bool true])) : ACalls Tryz.prog 17 [.ptr (some (bz, 0)), .agg [.int .i64 0, .int .i64 0], .bool false] H (fun v H' => v = .int .i64 9 ∧ H' = H) :=
 lmv_s H 4 1 pp [1, 1, 1, 2] s laM 0 0 0 4 bz 0 0 false hpp hs hz lb_c2
theorem lb_box (H : ac) (pp s : AV) (bz : Nat) (hpp : Sl H 1 pp 4 (ints .u8 [1, 1, 1, 2])) (hs : Sl H 6 s laM.length (r6 laM)) (hz : ∃ o, H[bz]? = some (.cells o 0 [.int .i64 4, .int .i64 1, pp, s, .int .i64 0, .int .i64 0, .int .i64 0, .int .i64 4, .bool false])) : ACalls Tryz.prog 61 [.ptr (some (bz, 0))] H (fun v H' => v = .tup [.agg [.int .i64 42, .int .i64 32, .int .i64 50, .int .i64 32, .int .i64 0, .int .i64 1], .bool true] ∧ H' = H) := by
 have k := lbox_c H 4 1 pp [1, 1, 1, 2] s laM 0 0 0 4 false bz hpp hs hz lb_s (by decide)
 rw [lb_h] at k
 exact k
theorem lb_res (H : ac) (pp s q : AV) (bz : Nat) (hpp : Sl H 1 pp 4 (ints .u8 [1, 1, 1, 2])) (hs : Sl H 6 s laM.length (r6 laM)) (hz : H[bz]? = some (.cells true 0 [.int .i64 4, .int .i64 1, pp, s, .int .i64 0, .int .i64 0, .int .i64 0, .int .i64 4, .bool true])) (hq : Sl H 6 q 1 (r6 [(100, 32, 100, 32, 0, 1)])) : ACalls Tryz.prog 31 [.ptr (some (bz, 0)), q] H (fun v H' => v = .int .i64 0 ∧ H' = H.set bz (.cells true 0 [.int .i64 4, .int .i64 1, pp, .sl (some (H.length, 0)) 1 none, .int .i64 0, .int .i64 0, .int .i64 0, .int .i64 4, .bool false]) ++ [.cells true 6 (r6 [(100, 32, 100, 32, 0, 1)])]) :=
 lrs_y H 4 1 pp [1, 1, 1, 2] s laM 0 0 0 4 true bz q [(100, 32, 100, 32, 0, 1)] hpp hs hz hq lb_m
theorem lb_vol (H : ac) (pp s : AV) (bz : Nat) (hpp : Sl H 1 pp 4 (ints .u8 [1, 1, 1, 2])) (hs : Sl H 6 s 1 (r6 [(100, 32, 100, 32, 0, 1)])) (hz : ∃ o, H[bz]? = some (.cells o 0 [.int .i64 4, .int .i64 1, pp, s, .int .i64 0, .int .i64 0, .int .i64 0, .int .i64 4, .bool false])) : ACalls Tryz.prog 32 [.ptr (some (bz, 0))] H (fun v H' => v = .int .i64 1 ∧ H' = H) := by
 have k := lvol_c H 4 1 pp [1, 1, 1, 2] s [(100, 32, 100, 32, 0, 1)] 0 0 0 4 false bz hpp hs hz (by decide) (by decide)
 rw [lb_v] at k
 exact k
theorem lb_set (H : ac) (pp s : AV) (bz : Nat) (hpp : Sl H 1 pp 4 (ints .u8 [1, 1, 1, 2])) (hs : Sl H 6 s 1 (r6 [(100, 32, 100, 32, 0, 1)])) (hz : ∃ o, H[bz]? = some (.cells o 0 [.int .i64 4, .int .i64 1, pp, s, .int .i64 0, .int .i64 0, .int .i64 0, .int .i64 4, .bool false])) : ACalls Tryz.prog 20 [.ptr (some (bz, 0))] H (fun v H' => v = .sl (some (H.length, 0)) 1 none ∧ H' = H ++ [.cells true 6 (r6 [(100, 32, 100, 32, 0, 1)])]) :=
 i7 H 4 1 pp [1, 1, 1, 2] s [(100, 32, 100, 32, 0, 1)] 0 0 0 4 false bz hpp hs hz (by decide) (by decide)
set_option maxHeartbeats 4000000 in
set_option maxRecDepth 100000 in
theorem kaw_c (H : ac)  : ACalls Tryz.prog 25 [] H (fun v H' => v = .bool true ∧ H' = H) := by
 refine AcT false Tryz.func25 ?_; intro hbel Q hQ
 simp -implicitDefEqProofs (maxSteps := 2000000) (disch := omega) only [bT, List.length_replicate, Option.isNone_some.{0}, Option.isNone_none.{0}, Nat.add_assoc, ar, ak, al, au, simprocAttr, ax, ay, Function.comp_apply, one1, lenV, af, am, ap, aop, AV.ofValue, AV.ofCell, AV.cells, AV.flat, AV.one, arep, aB, aw]
 repeat refine And.intro (by omega) ?_
 refine aj (by kernel_rfl) (lnew_y _ 4 1 _ [0, 0, 0, 0] _ [(32, 32, 40, 32, 0, 1)] 0 0 0 4 ⟨_, _, _, by first | rfl | (rw [List.length_append]; done) | (rw [List.length_append]; rfl), by first | rfl | (rw [ah]; rfl) | (rw [ae]; rfl) | (rw [ah, ag]; rfl) | (rw [ae, ag]; rfl)⟩ ⟨_, _, _, by first | rfl | (rw [List.length_append]; done) | (rw [List.length_append]; rfl), by first | rfl | (rw [ah]; rfl) | (rw [ae]; rfl) | (rw [ah, ag]; rfl) | (rw [ae, ag]; rfl)⟩ la_v la_l la_b) ?_
 simp -implicitDefEqProofs (maxSteps := 2000000) (disch := omega) only [bT, List.length_replicate, Option.isNone_some.{0}, Option.isNone_none.{0}, Nat.add_assoc, ar, ak, al, au, simprocAttr, ax, ay, Function.comp_apply, one1, lenV, af, am, ap, aop, AV.ofValue, AV.ofCell, AV.cells, AV.flat, AV.one, arep, aB, aw]
 repeat refine And.intro (by omega) ?_
 refine aj (by kernel_rfl) (lcl_n _) ?_
 simp -implicitDefEqProofs (maxSteps := 2000000) (disch := omega) only [bT, List.length_replicate, Option.isNone_some.{0}, Option.isNone_none.{0}, Nat.add_assoc, ar, ak, al, au, simprocAttr, ax, ay, Function.comp_apply, one1, lenV, af, am, ap, aop, AV.ofValue, AV.ofCell, AV.cells, AV.flat, AV.one, arep, aB, aw]
 repeat refine And.intro (by omega) ?_
 refine aj (by kernel_rfl) (lls_n _) ?_
 simp -implicitDefEqProofs (maxSteps := 2000000) (disch := omega) only [bT, List.length_replicate, Option.isNone_some.{0}, Option.isNone_none.{0}, Nat.add_assoc, ar, ak, al, au, simprocAttr, ax, ay, Function.comp_apply, one1, lenV, af, am, ap, aop, AV.ofValue, AV.ofCell, AV.cells, AV.flat, AV.one, arep, aB, aw]
 repeat refine And.intro (by omega) ?_
 refine aj (by kernel_rfl) (lvl_n _) ?_
 simp -implicitDefEqProofs (maxSteps := 2000000) (disch := omega) only [bT, List.length_replicate, Option.isNone_some.{0}, Option.isNone_none.{0}, Nat.add_assoc, ar, ak, al, au, simprocAttr, ax, ay, Function.comp_apply, one1, lenV, af, am, ap, aop, AV.ofValue, AV.ofCell, AV.cells, AV.flat, AV.one, arep, aB, aw]
 repeat refine And.intro (by omega) ?_
 refine aj (by kernel_rfl) (lse_n _) ?_
 simp -implicitDefEqProofs (maxSteps := 2000000) (disch := omega) only [bT, List.length_replicate, Option.isNone_some.{0}, Option.isNone_none.{0}, Nat.add_assoc, ar, ak, al, au, simprocAttr, ax, ay, Function.comp_apply, one1, lenV, af, am, ap, aop, AV.ofValue, AV.ofCell, AV.cells, AV.flat, AV.one, arep, aB, aw]
 repeat refine And.intro (by omega) ?_
 refine aj (by kernel_rfl) (la_see1 _ (.sl (some (H.length + 3, 0)) 4 none) (.sl (some (H.length + 4, 0)) 1 none) _ _ ⟨_, _, _, by first | rfl | (rw [List.length_append]; done) | (rw [List.length_append]; rfl), by first | rfl | (rw [ah]; rfl) | (rw [ae]; rfl) | (rw [ah, ag]; rfl) | (rw [ae, ag]; rfl)⟩ ⟨_, _, _, by first | rfl | (rw [List.length_append]; done) | (rw [List.length_append]; rfl), by first | rfl | (rw [ah]; rfl) | (rw [ae]; rfl) | (rw [ah, ag]; rfl) | (rw [ae, ag]; rfl)⟩ (by first | rfl | (rw [ah]; rfl) | (rw [ae]; rfl) | (rw [ae])) ⟨_, _, _, by first | rfl | (rw [List.length_append]; done) | (rw [List.length_append]; rfl), by first | rfl | (rw [ah]; rfl) | (rw [ae]; rfl) | (rw [ah, ag]; rfl) | (rw [ae, ag]; rfl)⟩) ?_
 simp -implicitDefEqProofs (maxSteps := 2000000) (disch := omega) only [bT, List.length_replicate, Option.isNone_some.{0}, Option.isNone_none.{0}, Nat.add_assoc, ar, ak, al, au, simprocAttr, ax, ay, Function.comp_apply, one1, lenV, af, am, ap, aop, AV.ofValue, AV.ofCell, AV.cells, AV.flat, AV.one, arep, aB, aw]
 repeat refine And.intro (by omega) ?_
 refine aj (by kernel_rfl) (gm _ 4 1 (.sl (some (H.length + 7, 0)) 4 none) [1, 1, 1, 2] (.sl (some (H.length + 8, 0)) laL.length none) laL 0 0 0 4 false _ ⟨_, _, _, by first | rfl | (rw [List.length_append]; done) | (rw [List.length_append]; rfl), by first | rfl | (rw [ah]; rfl) | (rw [ae]; rfl) | (rw [ah, ag]; rfl) | (rw [ae, ag]; rfl)⟩ ⟨_, _, _, by first | rfl | (rw [List.length_append]; done) | (rw [List.length_append]; rfl), by first | rfl | (rw [ah]; rfl) | (rw [ae]; rfl) | (rw [ah, ag]; rfl) | (rw [ae, ag]; rfl)⟩ ⟨_, by first | rfl | (rw [ah]; rfl) | (rw [ae]; rfl) | (rw [ae])⟩ (by decide) (by decide)) ?_
 simp -implicitDefEqProofs (maxSteps := 2000000) (disch := omega) only [bT, List.length_replicate, Option.isNone_some.{0}, Option.isNone_none.{0}, Nat.add_assoc, ar, ak, al, au, simprocAttr, ax, ay, Function.comp_apply, one1, lenV, af, am, ap, aop, AV.ofValue, AV.ofCell, AV.cells, AV.flat, AV.one, arep, aB, aw]
 repeat refine And.intro (by omega) ?_
 refine aj (by kernel_rfl) (ky _ 4 1 4 1 [1, 1, 1, 2] [1, 1, 1, 2] _ _ ⟨_, _, _, by first | rfl | (rw [List.length_append]; done) | (rw [List.length_append]; rfl), by first | rfl | (rw [ah]; rfl) | (rw [ae]; rfl) | (rw [ah, ag]; rfl) | (rw [ae, ag]; rfl)⟩ ⟨_, _, _, by first | rfl | (rw [List.length_append]; done) | (rw [List.length_append]; rfl), by first | rfl | (rw [ah]; rfl) | (rw [ae]; rfl) | (rw [ah, ag]; rfl) | (rw [ae, ag]; rfl)⟩ (by first | rfl | assumption) (by first | rfl | assumption) (by first | rfl | assumption)) ?_
 simp -implicitDefEqProofs (maxSteps := 2000000) (disch := omega) only [bT, List.length_replicate, Option.isNone_some.{0}, Option.isNone_none.{0}, Nat.add_assoc, ar, ak, al, au, simprocAttr, ax, ay, Function.comp_apply, one1, lenV, af, am, ap, aop, AV.ofValue, AV.ofCell, AV.cells, AV.flat, AV.one, arep, aB, aw]
 repeat refine And.intro (by omega) ?_
 refine aj (by kernel_rfl) (la_volc _ (.sl (some (H.length + 7, 0)) 4 none) (.sl (some (H.length + 8, 0)) laL.length none) _ ⟨_, _, _, by first | rfl | (rw [List.length_append]; done) | (rw [List.length_append]; rfl), by first | rfl | (rw [ah]; rfl) | (rw [ae]; rfl) | (rw [ah, ag]; rfl) | (rw [ae, ag]; rfl)⟩ ⟨_, _, _, by first | rfl | (rw [List.length_append]; done) | (rw [List.length_append]; rfl), by first | rfl | (rw [ah]; rfl) | (rw [ae]; rfl) | (rw [ah, ag]; rfl) | (rw [ae, ag]; rfl)⟩ ⟨_, by first | rfl | (rw [ah]; rfl) | (rw [ae]; rfl) | (rw [ae])⟩) ?_
 simp -implicitDefEqProofs (maxSteps := 2000000) (disch := omega) only [bT, List.length_replicate, Option.isNone_some.{0}, Option.isNone_none.{0}, Nat.add_assoc, ar, ak, al, au, simprocAttr, ax, ay, Function.comp_apply, one1, lenV, af, am, ap, aop, AV.ofValue, AV.ofCell, AV.cells, AV.flat, AV.one, arep, aB, aw]
 repeat refine And.intro (by omega) ?_
 refine aj (by kernel_rfl) (gl _ 4 1 (.sl (some (H.length + 7, 0)) 4 none) [1, 1, 1, 2] (.sl (some (H.length + 8, 0)) laL.length none) laL 0 0 0 4 false _ ⟨_, _, _, by first | rfl | (rw [List.length_append]; done) | (rw [List.length_append]; rfl), by first | rfl | (rw [ah]; rfl) | (rw [ae]; rfl) | (rw [ah, ag]; rfl) | (rw [ae, ag]; rfl)⟩ ⟨_, _, _, by first | rfl | (rw [List.length_append]; done) | (rw [List.length_append]; rfl), by first | rfl | (rw [ah]; rfl) | (rw [ae]; rfl) | (rw [ah, ag]; rfl) | (rw [ae, ag]; rfl)⟩ ⟨_, by first | rfl | (rw [ah]; rfl) | (rw [ae]; rfl) | (rw [ae])⟩) ?_
 simp -implicitDefEqProofs (maxSteps := 2000000) (disch := omega) only [bT, List.length_replicate, Option.isNone_some.{0}, Option.isNone_none.{0}, Nat.add_assoc, ar, ak, al, au, simprocAttr, ax, ay, Function.comp_apply, one1, lenV, af, am, ap, aop, AV.ofValue, AV.ofCell, AV.cells, AV.flat, AV.one, arep, aB, aw]
 repeat refine And.intro (by omega) ?_
 refine aj (by kernel_rfl) (lb_mv _ (.sl (some (H.length + 7, 0)) 4 none) (.sl (some (H.length + 8, 0)) laL.length none) _ ⟨_, _, _, by first | rfl | (rw [List.length_append]; done) | (rw [List.length_append]; rfl), by first | rfl | (rw [ah]; rfl) | (rw [ae]; rfl) | (rw [ah, ag]; rfl) | (rw [ae, ag]; rfl)⟩ ⟨_, _, _, by first | rfl | (rw [List.length_append]; done) | (rw [List.length_append]; rfl), by first | rfl | (rw [ah]; rfl) | (rw [ae]; rfl) | (rw [ah, ag]; rfl) | (rw [ae, ag]; rfl)⟩ (by first | rfl | (rw [ah]; rfl) | (rw [ae]; rfl) | (rw [ae]))) ?_
 simp -implicitDefEqProofs (maxSteps := 2000000) (disch := omega) only [bT, List.length_replicate, Option.isNone_some.{0}, Option.isNone_none.{0}, Nat.add_assoc, ar, ak, al, au, simprocAttr, ax, ay, Function.comp_apply, one1, lenV, af, am, ap, aop, AV.ofValue, AV.ofCell, AV.cells, AV.flat, AV.one, arep, aB, aw]
 repeat refine And.intro (by omega) ?_
 refine aj (by kernel_rfl) (lb_box _ (.sl (some (H.length + 7, 0)) 4 none) (.sl (some (H.length + 11, 0)) laM.length none) _ ⟨_, _, _, by first | rfl | (rw [List.length_append]; done) | (rw [List.length_append]; rfl), by first | rfl | (rw [ah]; rfl) | (rw [ae]; rfl) | (rw [ah, ag]; rfl) | (rw [ae, ag]; rfl)⟩ ⟨_, _, _, by first | rfl | (rw [List.length_append]; done) | (rw [List.length_append]; rfl), by first | rfl | (rw [ah]; rfl) | (rw [ae]; rfl) | (rw [ah, ag]; rfl) | (rw [ae, ag]; rfl)⟩ ⟨_, by first | rfl | (rw [ah]; rfl) | (rw [ae]; rfl) | (rw [ae])⟩) ?_
 simp -implicitDefEqProofs (maxSteps := 2000000) (disch := omega) only [bT, List.length_replicate, Option.isNone_some.{0}, Option.isNone_none.{0}, Nat.add_assoc, ar, ak, al, au, simprocAttr, ax, ay, Function.comp_apply, one1, lenV, af, am, ap, aop, AV.ofValue, AV.ofCell, AV.cells, AV.flat, AV.one, arep, aB, aw]
 repeat refine And.intro (by omega) ?_
 refine aj (by kernel_rfl) (lb_see _ (.sl (some (H.length + 7, 0)) 4 none) (.sl (some (H.length + 11, 0)) laM.length none) _ _ ⟨_, _, _, by first | rfl | (rw [List.length_append]; done) | (rw [List.length_append]; rfl), by first | rfl | (rw [ah]; rfl) | (rw [ae]; rfl) | (rw [ah, ag]; rfl) | (rw [ae, ag]; rfl)⟩ ⟨_, _, _, by first | rfl | (rw [List.length_append]; done) | (rw [List.length_append]; rfl), by first | rfl | (rw [ah]; rfl) | (rw [ae]; rfl) | (rw [ah, ag]; rfl) | (rw [ae, ag]; rfl)⟩ (by first | rfl | (rw [ah]; rfl) | (rw [ae]; rfl) | (rw [ae])) ⟨_, _, _, by first | rfl | (rw [List.length_append]; done) | (rw [List.length_append]; rfl), by first | rfl | (rw [ah]; rfl) | (rw [ae]; rfl) | (rw [ah, ag]; rfl) | (rw [ae, ag]; rfl)⟩) ?_
 simp -implicitDefEqProofs (maxSteps := 2000000) (disch := omega) only [bT, List.length_replicate, Option.isNone_some.{0}, Option.isNone_none.{0}, Nat.add_assoc, ar, ak, al, au, simprocAttr, ax, ay, Function.comp_apply, one1, lenV, af, am, ap, aop, AV.ofValue, AV.ofCell, AV.cells, AV.flat, AV.one, arep, aB, aw]
 repeat refine And.intro (by omega) ?_
 refine aj (by kernel_rfl) (gl _ 4 1 (.sl (some (H.length + 7, 0)) 4 none) [1, 1, 1, 2] (.sl (some (H.length + 11, 0)) laM.length none) laM 0 0 0 4 true _ ⟨_, _, _, by first | rfl | (rw [List.length_append]; done) | (rw [List.length_append]; rfl), by first | rfl | (rw [ah]; rfl) | (rw [ae]; rfl) | (rw [ah, ag]; rfl) | (rw [ae, ag]; rfl)⟩ ⟨_, _, _, by first | rfl | (rw [List.length_append]; done) | (rw [List.length_append]; rfl), by first | rfl | (rw [ah]; rfl) | (rw [ae]; rfl) | (rw [ah, ag]; rfl) | (rw [ae, ag]; rfl)⟩ ⟨_, by first | rfl | (rw [ah]; rfl) | (rw [ae]; rfl) | (rw [ae])⟩) ?_
 simp -implicitDefEqProofs (maxSteps := 2000000) (disch := omega) only [bT, List.length_replicate, Option.isNone_some.{0}, Option.isNone_none.{0}, Nat.add_assoc, ar, ak, al, au, simprocAttr, ax, ay, Function.comp_apply, one1, lenV, af, am, ap, aop, AV.ofValue, AV.ofCell, AV.cells, AV.flat, AV.one, arep, aB, aw]
 repeat refine And.intro (by omega) ?_
 refine aj (by kernel_rfl) (lb_mv2 _ (.sl (some (H.length + 7, 0)) 4 none) (.sl (some (H.length + 11, 0)) laM.length none) _ ⟨_, _, _, by first | rfl | (rw [List.length_append]; done) | (rw [List.length_append]; rfl), by first | rfl | (rw [ah]; rfl) | (rw [ae]; rfl) | (rw [ah, ag]; rfl) | (rw [ae, ag]; rfl)⟩ ⟨_, _, _, by first | rfl | (rw [List.length_append]; done) | (rw [List.length_append]; rfl), by first | rfl | (rw [ah]; rfl) | (rw [ae]; rfl) | (rw [ah, ag]; rfl) | (rw [ae, ag]; rfl)⟩ ⟨_, by first | rfl | (rw [ah]; rfl) | (rw [ae]; rfl) | (rw [ae])⟩) ?_
 simp -implicitDefEqProofs (maxSteps := 2000000) (disch := omega) only [bT, List.length_replicate, Option.isNone_some.{0}, Option.isNone_none.{0}, Nat.add_assoc, ar, ak, al, au, simprocAttr, ax, ay, Function.comp_apply, one1, lenV, af, am, ap, aop, AV.ofValue, AV.ofCell, AV.cells, AV.flat, AV.one, arep, aB, aw]
 repeat refine And.intro (by omega) ?_
 refine aj (by kernel_rfl) (lb_res _ (.sl (some (H.length + 7, 0)) 4 none) (.sl (some (H.length + 11, 0)) laM.length none) _ _ ⟨_, _, _, by first | rfl | (rw [List.length_append]; done) | (rw [List.length_append]; rfl), by first | rfl | (rw [ah]; rfl) | (rw [ae]; rfl) | (rw [ah, ag]; rfl) | (rw [ae, ag]; rfl)⟩ ⟨_, _, _, by first | rfl | (rw [List.length_append]; done) | (rw [List.length_append]; rfl), by first | rfl | (rw [ah]; rfl) | (rw [ae]; rfl) | (rw [ah, ag]; rfl) | (rw [ae, ag]; rfl)⟩ (by first | rfl | (rw [ah]; rfl) | (rw [ae]; rfl) | (rw [ae])) ⟨_, _, _, by first | rfl | (rw [List.length_append]; done) | (rw [List.length_append]; rfl), by first | rfl | (rw [ah]; rfl) | (rw [ae]; rfl) | (rw [ah, ag]; rfl) | (rw [ae, ag]; rfl)⟩) ?_
 simp -implicitDefEqProofs (maxSteps := 2000000) (disch := omega) only [bT, List.length_replicate, Option.isNone_some.{0}, Option.isNone_none.{0}, Nat.add_assoc, ar, ak, al, au, simprocAttr, ax, ay, Function.comp_apply, one1, lenV, af, am, ap, aop, AV.ofValue, AV.ofCell, AV.cells, AV.flat, AV.one, arep, aB, aw]
 repeat refine And.intro (by omega) ?_
 refine aj (by kernel_rfl) (lb_vol _ (.sl (some (H.length + 7, 0)) 4 none) (.sl (some (H.length + 15, 0)) 1 none) _ ⟨_, _, _, by first | rfl | (rw [List.length_append]; done) | (rw [List.length_append]; rfl), by first | rfl | (rw [ah]; rfl) | (rw [ae]; rfl) | (rw [ah, ag]; rfl) | (rw [ae, ag]; rfl)⟩ ⟨_, _, _, by first | rfl | (rw [List.length_append]; done) | (rw [List.length_append]; rfl), by first | rfl | (rw [ah]; rfl) | (rw [ae]; rfl) | (rw [ah, ag]; rfl) | (rw [ae, ag]; rfl)⟩ ⟨_, by first | rfl | (rw [ah]; rfl) | (rw [ae]; rfl) | (rw [ae])⟩) ?_
 simp -implicitDefEqProofs (maxSteps := 2000000) (disch := omega) only [bT, List.length_replicate, Option.isNone_some.{0}, Option.isNone_none.{0}, Nat.add_assoc, ar, ak, al, au, simprocAttr, ax, ay, Function.comp_apply, one1, lenV, af, am, ap, aop, AV.ofValue, AV.ofCell, AV.cells, AV.flat, AV.one, arep, aB, aw]
 repeat refine And.intro (by omega) ?_
 refine aj (by kernel_rfl) (gl _ 4 1 (.sl (some (H.length + 7, 0)) 4 none) [1, 1, 1, 2] (.sl (some (H.length + 15, 0)) 1 none) [(100, 32, 100, 32, 0, 1)] 0 0 0 4 false _ ⟨_, _, _, by first | rfl | (rw [List.length_append]; done) | (rw [List.length_append]; rfl), by first | rfl | (rw [ah]; rfl) | (rw [ae]; rfl) | (rw [ah, ag]; rfl) | (rw [ae, ag]; rfl)⟩ ⟨_, _, _, by first | rfl | (rw [List.length_append]; done) | (rw [List.length_append]; rfl), by first | rfl | (rw [ah]; rfl) | (rw [ae]; rfl) | (rw [ah, ag]; rfl) | (rw [ae, ag]; rfl)⟩ ⟨_, by first | rfl | (rw [ah]; rfl) | (rw [ae]; rfl) | (rw [ae])⟩) ?_
 simp -implicitDefEqProofs (maxSteps := 2000000) (disch := omega) only [bT, List.length_replicate, Option.isNone_some.{0}, Option.isNone_none.{0}, Nat.add_assoc, ar, ak, al, au, simprocAttr, ax, ay, Function.comp_apply, one1, lenV, af, am, ap, aop, AV.ofValue, AV.ofCell, AV.cells, AV.flat, AV.one, arep, aB, aw]
 repeat refine And.intro (by omega) ?_
 refine aj (by kernel_rfl) (lb_set _ (.sl (some (H.length + 7, 0)) 4 none) (.sl (some (H.length + 15, 0)) 1 none) _ ⟨_, _, _, by first | rfl | (rw [List.length_append]; done) | (rw [List.length_append]; rfl), by first | rfl | (rw [ah]; rfl) | (rw [ae]; rfl) | (rw [ah, ag]; rfl) | (rw [ae, ag]; rfl)⟩ ⟨_, _, _, by first | rfl | (rw [List.length_append]; done) | (rw [List.length_append]; rfl), by first | rfl | (rw [ah]; rfl) | (rw [ae]; rfl) | (rw [ah, ag]; rfl) | (rw [ae, ag]; rfl)⟩ ⟨_, by first | rfl | (rw [ah]; rfl) | (rw [ae]; rfl) | (rw [ae])⟩) ?_
 simp -implicitDefEqProofs (maxSteps := 2000000) (disch := omega) only [bT, List.length_replicate, Option.isNone_some.{0}, Option.isNone_none.{0}, Nat.add_assoc, ar, ak, al, au, simprocAttr, ax, ay, Function.comp_apply, one1, lenV, af, am, ap, aop, AV.ofValue, AV.ofCell, AV.cells, AV.flat, AV.one, arep, aB, aw]
 repeat refine And.intro (by omega) ?_
 exact hQ _ _ (ai (.inl rfl) hbel (x := .bool true) (ret_of Tryz.results25 (by simp -implicitDefEqProofs (maxSteps := 2000000) (disch := omega) only [simprocAttr, ax, ay, Function.comp_apply, one1, lenV, af, am, ap, aop, AV.ofValue, AV.ofCell, AV.cells, AV.flat, AV.one, arep, aB, aH, aw])) rfl ⟨rfl, rfl⟩)
open Go.RowKit
theorem AW_join {P : Program} {N n : Nat} {Q : Exit → Fr → ac → Prop} {a b : Code} {F : Fr} {H : ac} (q : Bool) (hm : P.follows .mixedOrders = true) (hc : cZ N q a = true) (I : Fr → ac → Prop)
  (h1 : ∀ J : Fr → ac → Prop, (∀ F' H', (∃ σ F2 H2, I F2 H2 ∧ Abs n σ F' H' F2 H2) → J F' H') → AGo P N n q Q [.code a, .inv J] F H) (h2 : ∀ F2 H2, I F2 H2 → AW P N n b Q F2 H2) : AW P N n (.seq a b) Q F H := by
 have k := h1 (fun F' H' => ∃ σ F2 H2, I F2 H2 ∧ Abs n σ F' H' F2 H2) (fun _ _ h => h)
 refine fC (AW.mono (fz (N := N) hm a hc _ F H k) fun e F' H' hq => ?_)
 cases e with
 | normal =>
  obtain ⟨σ, F2, H2, hi, ab⟩ := hq
  exact lr ab (h2 F2 H2 hi)
 | _ => exact hq
open Go.RowKit
theorem tZ {P : Program} {N n : Nat} {Q : Exit → Fr → ac → Prop} {id : Nat} {ops : Array Oper} {b : Code} {F : Fr} {H : ac} (q : Bool) (hm : P.follows .mixedOrders = true) (hok : eT q N ops = true) (m : Nat) (hml : m ≤ H.length) (I : Fr → ac → Prop)
  (h1 : ∀ J : Fr → ac → Prop, (∀ F' H', (∃ σ F2 H2, I F2 H2 ∧ Abs n σ F' H' F2 H2) → J F' H') → AGo P N n q Q [.opsD m (ops.toList.map (lightOf (dsts ops))), .inv J] F H) (h2 : ∀ F2 H2, I F2 H2 → AW P N n b Q F2 H2) : AW P N n (.seq (.region id ops true) b) Q F H := by
 have k := h1 (fun F' H' => ∃ σ F2 H2, I F2 H2 ∧ Abs n σ F' H' F2 H2) (fun _ _ h => h)
 have k2 : AOpsDL P q m (ops.toList.map (lightOf (dsts ops))) F H (fun F' H' => ej (fun F' H' => ∃ σ F2 H2, I F2 H2 ∧ Abs n σ F' H' F2 H2) Q .normal F' H') := k
 refine fC (AW.mono (AW_drawM q hm hok hml (fc _ _ _ k2)) fun e F' H' hq => ?_)
 cases e with
 | normal =>
  obtain ⟨σ, F2, H2, hi, ab⟩ := hq
  exact lr ab (h2 F2 H2 hi)
 | _ => exact hq
theorem call_w {P : Program} {N n m : Nat} {Q : Exit → Fr → ac → Prop} {dst : Option Tmp} {os : List LOp} {r : List It} {F : Fr} {H H1 : ac} {f : FuncId} {args : List AV} {x : AV} (hok : dn P f = true) (hl : H.length ≤ H1.length) (hf : ∀ b, b < m → b < H.length → H1[b]? = H[b]?) (h : ACalls P f args H fun y H' => y = x ∧ H' = H1) (k : AGo P N n false Q (.opsD m os :: r) (putF dst x F) H1) : gS P N n false Q (some m) f args dst os r F H :=
 ⟨hok, x, H1, (fun h => by cases h), ⟨hl, hf⟩, h, k⟩
theorem pN {H l L : ac} {b c m : Nat} {x : ABlk} (hc : m ≤ c) (hb : b < m) (hlt : b < (H ++ l).length) : ((H ++ l).set c x ++ L)[b]? = (H ++ l)[b]? := by
 rw [List.getElem?_append_left (by rw [List.length_set]; exact hlt), List.getElem?_set_ne (by omega)]
theorem lI {H l : ac} {b c m : Nat} {x : ABlk} (hc : m ≤ c) (hb : b < m) : ((H ++ l).set c x)[b]? = (H ++ l)[b]? := List.getElem?_set_ne (by omega)
open Go.RowKit
theorem lmvY (H : ac) (W : Int) (Hh : Int) (pp : AV) (xs : List Int) (s : AV) (l : List T6) (tu : Int) (le : Int) (sl : Int) (ra : Int) (lost : Bool) (bz : Nat) (t : Int) (g : Int) (still : Bool) (hpp : Sl H 1 pp xs.length (ints .u8 xs)) (hs : Sl H 6 s l.length (r6 l)) (hz : H[bz]? = some (.cells true 0 [.int .i64 W, .int .i64 Hh, pp, s, .int .i64 tu, .int .i64 le, .int .i64 sl, .int .i64 ra, .bool lost])) (hS : bU l = true) (hl0 : 0 < l.length) (hC : cJ t g = true) (hB : cK tu le sl ra = true) (hA : imA l t (stF still g) tu le sl = true) (hlo : lost = false) : ACalls Tryz.prog 17 [.ptr (some (bz, 0)), .agg [.int .i64 t, .int .i64 g], .bool still] H (fun v H' => v = .int .i64 0 ∧ H' = H.set bz (.cells true 0 [.int .i64 W, .int .i64 Hh, pp, .sl (some (H.length, 0)) ((imS l t (stF still g) tu le sl l.length).length) none, .int .i64 tu, .int .i64 le, .int .i64 sl, .int .i64 ra, .bool false]) ++ [.cells true 6 (r6 (imS l t (stF still g) tu le sl l.length))]) := by
 subst hlo; exact lmv_y H W Hh pp xs s l tu le sl ra bz t g still hpp hs hz hS hl0 hC hB hA
theorem lmvN (H : ac) (W : Int) (Hh : Int) (pp : AV) (xs : List Int) (s : AV) (l : List T6) (tu : Int) (le : Int) (sl : Int) (ra : Int) (lost : Bool) (bz : Nat) (t : Int) (g : Int) (still : Bool) (hpp : Sl H 1 pp xs.length (ints .u8 xs)) (hs : Sl H 6 s l.length (r6 l)) (hz : ∃ o, H[bz]? = some (.cells o 0 [.int .i64 W, .int .i64 Hh, pp, s, .int .i64 tu, .int .i64 le, .int .i64 sl, .int .i64 ra, .bool lost])) (hS : bU l = true) (hl0 : 0 < l.length) (hC : cJ t g = true) (hB : cK tu le sl ra = true) (hA : imA l t (stF still g) tu le sl = false) (hlo : lost = false) : ACalls Tryz.prog 17 [.ptr (some (bz, 0)), .agg [.int .i64 t, .int .i64 g], .bool still] H (fun v H' => v = .int .i64 2 ∧ H' = H) := by
 subst hlo; exact lmv_n H W Hh pp xs s l tu le sl ra bz t g still hpp hs hz hS hl0 hC hB hA
theorem lmvS (H : ac) (W : Int) (Hh : Int) (pp : AV) (xs : List Int) (s : AV) (l : List T6) (tu : Int) (le : Int) (sl : Int) (ra : Int) (lost : Bool) (bz : Nat) (t : Int) (g : Int) (still : Bool) (hpp : Sl H 1 pp xs.length (ints .u8 xs)) (hs : Sl H 6 s l.length (r6 l)) (hz : ∃ o, H[bz]? = some (.cells o 0 [.int .i64 W, .int .i64 Hh, pp, s, .int .i64 tu, .int .i64 le, .int .i64 sl, .int .i64 ra, .bool lost])) (hC : cJ t g = true) (hlo : lost = true) : ACalls Tryz.prog 17 [.ptr (some (bz, 0)), .agg [.int .i64 t, .int .i64 g], .bool still] H (fun v H' => v = .int .i64 9 ∧ H' = H) := by
 subst hlo; exact lmv_s H W Hh pp xs s l tu le sl ra bz t g still hpp hs hz hC
theorem lseS (H : ac) (W : Int) (Hh : Int) (pp : AV) (xs : List Int) (s : AV) (l : List T6) (tu : Int) (le : Int) (sl : Int) (ra : Int) (lost : Bool) (bz : Nat) (q : AV) (sc : List (Int × Int)) (hpp : Sl H 1 pp xs.length (ints .u8 xs)) (hs : Sl H 6 s l.length (r6 l)) (hz : ∃ o, H[bz]? = some (.cells o 0 [.int .i64 W, .int .i64 Hh, pp, s, .int .i64 tu, .int .i64 le, .int .i64 sl, .int .i64 ra, .bool lost])) (hq : Sl H 2 q sc.length (prs sc)) (hsl : sc.length ≤ 1000000000) (hsB : cd sc = true) (hlo : lost = true) : ACalls Tryz.prog 18 [.ptr (some (bz, 0)), q] H (fun v H' => v = .int .i64 9 ∧ H' = H) := by
 subst hlo; exact lse_s H W Hh pp xs s l tu le sl ra bz q sc hpp hs hz hq hsl hsB
theorem lseE (H : ac) (W : Int) (Hh : Int) (pp : AV) (xs : List Int) (s : AV) (l : List T6) (tu : Int) (le : Int) (sl : Int) (ra : Int) (lost : Bool) (bz : Nat) (q : AV) (sc : List (Int × Int)) (hpp : Sl H 1 pp xs.length (ints .u8 xs)) (hs : Sl H 6 s l.length (r6 l)) (hz : H[bz]? = some (.cells true 0 [.int .i64 W, .int .i64 Hh, pp, s, .int .i64 tu, .int .i64 le, .int .i64 sl, .int .i64 ra, .bool lost])) (hq : Sl H 2 q sc.length (prs sc)) (hV : b9 W Hh xs = true) (hS : bU l = true) (hl0 : 0 < l.length) (hsB : cd sc = true) (hg : 1 ≤ ra ∧ ra ≤ 32) (hRn : (bB W Hh xs l sc ra 32).length = 0) (hlo : lost = false) : ACalls Tryz.prog 18 [.ptr (some (bz, 0)), q] H (fun v H' => v = .int .i64 12 ∧ H' = H.set bz (.cells true 0 [.int .i64 W, .int .i64 Hh, pp, s, .int .i64 tu, .int .i64 le, .int .i64 sl, .int .i64 ra, .bool true])) := by
 subst hlo; exact lse_e H W Hh pp xs s l tu le sl ra bz q sc hpp hs hz hq hV hS hl0 hsB hg hRn
theorem lseL (H : ac) (W : Int) (Hh : Int) (pp : AV) (xs : List Int) (s : AV) (l : List T6) (tu : Int) (le : Int) (sl : Int) (ra : Int) (lost : Bool) (bz : Nat) (q : AV) (sc : List (Int × Int)) (hpp : Sl H 1 pp xs.length (ints .u8 xs)) (hs : Sl H 6 s l.length (r6 l)) (hz : H[bz]? = some (.cells true 0 [.int .i64 W, .int .i64 Hh, pp, s, .int .i64 tu, .int .i64 le, .int .i64 sl, .int .i64 ra, .bool lost])) (hq : Sl H 2 q sc.length (prs sc)) (hV : b9 W Hh xs = true) (hS : bU l = true) (hl0 : 0 < l.length) (hsB : cd sc = true) (hg : 1 ≤ ra ∧ ra ≤ 32) (hR0 : 0 < (bB W Hh xs l sc ra 32).length) (ho : lnO W Hh xs (cpL (bB W Hh xs l sc ra 32)) sc ra = none) (hlo : lost = false) : ACalls Tryz.prog 18 [.ptr (some (bz, 0)), q] H (fun v H' => v = .int .i64 11 ∧ H' = H.set bz (.cells true 0 [.int .i64 W, .int .i64 Hh, pp, s, .int .i64 tu, .int .i64 le, .int .i64 sl, .int .i64 ra, .bool true])) := by
 subst hlo; exact lse_l H W Hh pp xs s l tu le sl ra bz q sc hpp hs hz hq hV hS hl0 hsB hg hR0 ho
theorem lseY (H : ac) (W : Int) (Hh : Int) (pp : AV) (xs : List Int) (s : AV) (l : List T6) (tu : Int) (le : Int) (sl : Int) (ra : Int) (lost : Bool) (bz : Nat) (q : AV) (sc : List (Int × Int)) (hpp : Sl H 1 pp xs.length (ints .u8 xs)) (hs : Sl H 6 s l.length (r6 l)) (hz : H[bz]? = some (.cells true 0 [.int .i64 W, .int .i64 Hh, pp, s, .int .i64 tu, .int .i64 le, .int .i64 sl, .int .i64 ra, .bool lost])) (hq : Sl H 2 q sc.length (prs sc)) (hV : b9 W Hh xs = true) (hS : bU l = true) (hl0 : 0 < l.length) (hsB : cd sc = true) (hg : 1 ≤ ra ∧ ra ≤ 32) (hR0 : 0 < (bB W Hh xs l sc ra 32).length) (o : List Int) (ho : lnO W Hh xs (cpL (bB W Hh xs l sc ra 32)) sc ra = some o) (ho0 : 0 < o.length) (hlo : lost = false) : ACalls Tryz.prog 18 [.ptr (some (bz, 0)), q] H (fun v H' => v = .int .i64 0 ∧ H' = H.set bz (.cells true 0 [.int .i64 W, .int .i64 Hh, .sl (some (H.length, 0)) o.length none, .sl (some (H.length + 1, 0)) ((cpL (bB W Hh xs l sc ra 32)).length) none, .int .i64 tu, .int .i64 le, .int .i64 sl, .int .i64 ra, .bool false]) ++ [.cells true 1 (ints .u8 o), .cells true 6 (r6 (cpL (bB W Hh xs l sc ra 32)))]) := by
 subst hlo; exact lse_y H W Hh pp xs s l tu le sl ra bz q sc hpp hs hz hq hV hS hl0 hsB hg hR0 o ho ho0
theorem lkp_c (H : ac) (W : Int) (Hh : Int) (pp : AV) (xs : List Int) (s : AV) (l : List T6) (ev : AV) (evs : List Ev) (hpp : Sl H 1 pp xs.length (ints .u8 xs)) (hs : Sl H 6 s l.length (r6 l)) (hev : Sl H 5 ev evs.length (e5R evs)) (hp0 : ∀ z ∈ xs, 0 ≤ z) (hll : l.length ≤ 9223372036854775807) (hel : evs.length ≤ 9223372036854775807) (hvo : evOk H evs) : ACalls Tryz.prog 5 [.agg [.int .i64 W, .int .i64 Hh, pp], s, ev] H (fun v H' => v = .bool true ∧ H' = H) := by
 obtain ⟨bpp, opp, cpp, rfl, hbpp⟩ := hpp
 have hblpp := getElem?_lt hbpp
 have hb0pp := fun l => aD (l := l) hbpp
 obtain ⟨bs, os, cs, rfl, hbs⟩ := hs
 have hbls := getElem?_lt hbs
 have hb0s := fun l => aD (l := l) hbs
 obtain ⟨bev, oev, cev, rfl, hbev⟩ := hev
 have hblev := getElem?_lt hbev
 have hb0ev := fun l => aD (l := l) hbev
 obtain ⟨tu, le, sl, ra, hcB, hB⟩ : ∃ tu le sl ra : Int, (∀ H : ac, ACalls Tryz.prog 27 [.int .i64 ((l.length : Nat) : Int)] H (fun v H' => v = .agg [.int .i64 tu, .int .i64 le, .int .i64 sl, .int .i64 ra] ∧ H' = H)) ∧ cK tu le sl ra = true := ⟨_, _, _, _, fun H => bds_c H l.length hll, bd_ok _⟩
 have hbi := hB
 simp only [cK, Bool.and_eq_true, bM] at hbi
 have hg : 1 ≤ ra ∧ ra ≤ 32 := by omega
 (refine bK Tryz.func5 _ rfl (Nat.le_of_ble_eq_true (by kernel_rfl)) rfl ?_; intro hbel Q hQ hQ' c hc; unfold Tryz.f5 at hc; simp only [Option.some.injEq] at hc; subst hc; clear hQ')
 refine aO fun Q1 hn1 hr1 he1 => ?_
 have hQ1 := fun F H' h => hr1 F H' (hQ F H' h)
 refine aI false try_mixed (by kernel_rfl) ?_
 simp -implicitDefEqProofs (disch := omega) only [hbpp, hb0pp, hbs, hb0s, hbev, hb0ev, Nat.add_assoc, Option.isNone_some.{0}, Option.isNone_none.{0}, ar, ak, al, au, simprocAttr, ax, ay, Function.comp_apply, one1, lenV, af, am, ap, aop, AV.ofValue, AV.ofCell, AV.cells, AV.flat, AV.one, arep, aB, aw]
 repeat refine And.intro (by omega) ?_
 refine hn1 _ _ ?_
 refine aO fun Q2 hn2 hr2 he2 => ?_
 have hQ2 := fun F H' h => hr2 F H' (hQ F H' h)
 refine aI false try_mixed (by kernel_rfl) ?_
 simp -implicitDefEqProofs (disch := omega) only [hbpp, hb0pp, hbs, hb0s, hbev, hb0ev, Nat.add_assoc, Option.isNone_some.{0}, Option.isNone_none.{0}, ar, ak, al, au, simprocAttr, ax, ay, Function.comp_apply, one1, lenV, af, am, ap, aop, AV.ofValue, AV.ofCell, AV.cells, AV.flat, AV.one, arep, aB, aw]
 repeat refine And.intro (by omega) ?_
 refine aj (by kernel_rfl) (kaw_c _) ?_
 simp -implicitDefEqProofs (disch := omega) only [hbpp, hb0pp, hbs, hb0s, hbev, hb0ev, Nat.add_assoc, Option.isNone_some.{0}, Option.isNone_none.{0}, ar, ak, al, au, simprocAttr, ax, ay, Function.comp_apply, one1, lenV, af, am, ap, aop, AV.ofValue, AV.ofCell, AV.cells, AV.flat, AV.one, arep, aB, aw]
 repeat refine And.intro (by omega) ?_
 refine aj (by kernel_rfl) (few_c _ W Hh _ xs _ l _ evs ⟨_, _, _, rfl, by first | exact hb0pp _ | exact hbpp⟩ ⟨_, _, _, rfl, by first | exact hb0s _ | exact hbs⟩ ⟨_, _, _, rfl, by first | exact hb0ev _ | exact hbev⟩ (by omega) (by omega) (by first | assumption | exact hvo.app _)) ?_
 simp -implicitDefEqProofs (disch := omega) only [hbpp, hb0pp, hbs, hb0s, hbev, hb0ev, Nat.add_assoc, Option.isNone_some.{0}, Option.isNone_none.{0}, ar, ak, al, au, simprocAttr, ax, ay, Function.comp_apply, one1, lenV, af, am, ap, aop, AV.ofValue, AV.ofCell, AV.cells, AV.flat, AV.one, arep, aB, aw]
 repeat refine And.intro (by omega) ?_
 refine aq (fun h1 => ?_) (fun h1 => ?_)
 ·have h1d := bsT h1
  simp -implicitDefEqProofs (disch := omega) only [hbpp, hb0pp, hbs, hb0s, hbev, hb0ev, h1, h1d, Nat.add_assoc, Option.isNone_some.{0}, Option.isNone_none.{0}, ar, ak, al, au, simprocAttr, ax, ay, Function.comp_apply, one1, lenV, af, am, ap, aop, AV.ofValue, AV.ofCell, AV.cells, AV.flat, AV.one, arep, aB, aw]
  repeat refine And.intro (by omega) ?_
  refine aj (by kernel_rfl) (kaw_c _) ?_
  simp -implicitDefEqProofs (disch := omega) only [hbpp, hb0pp, hbs, hb0s, hbev, hb0ev, h1, h1d, Nat.add_assoc, Option.isNone_some.{0}, Option.isNone_none.{0}, ar, ak, al, au, simprocAttr, ax, ay, Function.comp_apply, one1, lenV, af, am, ap, aop, AV.ofValue, AV.ofCell, AV.cells, AV.flat, AV.one, arep, aB, aw]
  repeat refine And.intro (by omega) ?_
  exact hQ2 _ _ (ai (.inl rfl) hbel (x := .bool true) (av Tryz.results5) rfl ⟨by first | rfl | simp, rfl⟩)
 ·have h1d := bsT h1
  obtain ⟨hf1, hf2, hf3, hf4⟩ := fewB_ok h1d
  simp -implicitDefEqProofs (disch := omega) only [hbpp, hb0pp, hbs, hb0s, hbev, hb0ev, h1, h1d, Nat.add_assoc, Option.isNone_some.{0}, Option.isNone_none.{0}, ar, ak, al, au, simprocAttr, ax, ay, Function.comp_apply, one1, lenV, af, am, ap, aop, AV.ofValue, AV.ofCell, AV.cells, AV.flat, AV.one, arep, aB, aw]
  repeat refine And.intro (by omega) ?_
  refine hn2 _ _ ?_
  refine aO fun Q3 hn3 hr3 he3 => ?_
  have hQ3 := fun F H' h => hr3 F H' (hQ F H' h)
  refine aI false try_mixed (by kernel_rfl) ?_
  simp -implicitDefEqProofs (disch := omega) only [hbpp, hb0pp, hbs, hb0s, hbev, hb0ev, h1, h1d, Nat.add_assoc, Option.isNone_some.{0}, Option.isNone_none.{0}, ar, ak, al, au, simprocAttr, ax, ay, Function.comp_apply, one1, lenV, af, am, ap, aop, AV.ofValue, AV.ofCell, AV.cells, AV.flat, AV.one, arep, aB, aw]
  repeat refine And.intro (by omega) ?_
  refine aP (by kernel_rfl) (hcB _) ?_
  simp -implicitDefEqProofs (disch := omega) only [hbpp, hb0pp, hbs, hb0s, hbev, hb0ev, h1, h1d, Nat.add_assoc, Option.isNone_some.{0}, Option.isNone_none.{0}, ar, ak, al, au, simprocAttr, ax, ay, Function.comp_apply, one1, lenV, af, am, ap, aop, AV.ofValue, AV.ofCell, AV.cells, AV.flat, AV.one, arep, aB, aw]
  repeat refine And.intro (by omega) ?_
  rcases Bool.eq_false_or_eq_true (b9 W Hh xs && lsB l && cK tu le sl ra) with h2 | h2
  ·have h2d := h2
   have hVL := h2d
   rw [Bool.and_eq_true, Bool.and_eq_true] at hVL
   have hV := hVL.1.1
   have hL := hVL.1.2
   have hVV := cg.1 hV
   have hw0 := hVV.w0
   have hh0 := hVV.h0
   have hw1 := hVV.w1
   have hh1 := hVV.h1
   have hS := (jD.1 hL).2
   have hl0 := (jD.1 hL).1
   refine bL (by kernel_rfl) (by simp) (lnew_y _ W Hh _ xs _ l tu le sl ra ⟨_, _, _, rfl, by first | exact hb0pp _ | exact hbpp⟩ ⟨_, _, _, rfl, by first | exact hb0s _ | exact hbs⟩ (by assumption) (by assumption) (by assumption)) ?_
   simp -implicitDefEqProofs (disch := omega) only [hbpp, hb0pp, hbs, hb0s, hbev, hb0ev, h1, h1d, h2, h2d, Nat.add_assoc, Option.isNone_some.{0}, Option.isNone_none.{0}, ar, ak, al, au, simprocAttr, ax, ay, Function.comp_apply, one1, lenV, af, am, ap, aop, AV.ofValue, AV.ofCell, AV.cells, AV.flat, AV.one, arep, aB, aw]
   repeat refine And.intro (by omega) ?_
   refine hn3 _ _ ?_
   refine aO fun Q4 hn4 hr4 he4 => ?_
   have hQ4 := fun F H' h => hr4 F H' (hQ F H' h)
   refine aI false try_mixed (by kernel_rfl) ?_
   simp -implicitDefEqProofs (disch := omega) only [hbpp, hb0pp, hbs, hb0s, hbev, hb0ev, h1, h1d, h2, h2d, Nat.add_assoc, Option.isNone_some.{0}, Option.isNone_none.{0}, ar, ak, al, au, simprocAttr, ax, ay, Function.comp_apply, one1, lenV, af, am, ap, aop, AV.ofValue, AV.ofCell, AV.cells, AV.flat, AV.one, arep, aB, aw]
   repeat refine And.intro (by omega) ?_
   refine hn4 _ _ ?_
   refine aO fun Q5 hn5 hr5 he5 => ?_
   have hQ5 := fun F H' h => hr5 F H' (hQ F H' h)
   refine aO fun Q6 hn6 hr6 he6 => ?_
   have hQ6 := fun F H' h => hr6 F H' (hQ5 F H' h)
   refine aI false try_mixed (by kernel_rfl) ?_
   simp -implicitDefEqProofs (disch := omega) only [hbpp, hb0pp, hbs, hb0s, hbev, hb0ev, h1, h1d, h2, h2d, Nat.add_assoc, Option.isNone_some.{0}, Option.isNone_none.{0}, ar, ak, al, au, simprocAttr, ax, ay, Function.comp_apply, one1, lenV, af, am, ap, aop, AV.ofValue, AV.ofCell, AV.cells, AV.flat, AV.one, arep, aB, aw]
   repeat refine And.intro (by omega) ?_
   refine hn6 _ _ ?_
   refine dM fun Q7 hn7 hr7 he7 hb7 => ?_
   have hQ7 := fun F H' h => hr7 F H' (hQ5 F H' h)
   refine ke (fun k F Hx => ∃ i : Nat, ∃ ks : List Int, ∃ Q : List T6, ∃ lo : Bool, i + k = evs.length ∧ b9 W Hh ks = true ∧ (∀ z ∈ ks, 0 ≤ z) ∧ bU Q = true ∧ 0 < Q.length ∧ F = [(1, .sl (some (bs, 0)) l.length cs), (2, .sl (some (bev, 0)) evs.length cev), (7, .ptr (some (H.length + 2, 0))), (9, .int .i64 ((i : Nat) : Int))] ∧ Hx = H ++ [.cells true 1 (ints .u8 ks), .cells true 6 (r6 Q), .cells true 0 [.int .i64 W, .int .i64 Hh, .sl (some (H.length, 0)) ks.length none, .sl (some (H.length + 1, 0)) Q.length none, .int .i64 tu, .int .i64 le, .int .i64 sl, .int .i64 ra, .bool lo]]) (evs.length) ?_ ?_
   ·refine ⟨_, _, _, ⟨0, xs, l, false, by omega, hV, hp0, hS, hl0, rfl, rfl⟩, Abs.byG hbel [] rfl [1, 2, 3] (by decide) ?_⟩
    exact aN (jn @bg (jn @be (jn @bt @bo)))
   ·rintro k0 F Hx ⟨i, ks, Q, lo, hm0, hkV, hkn, hQS, hQ0, rfl, rfl⟩ Q8 hJ0 hr8 he8
    have hQ8 := fun F H' h => hr8 F H' (hQ7 F H' h)
    have hQ16 := (bX.1 hQS).1
    have hQv := (bX.1 hQS).2
    have hkl := (cg.1 hkV).len
    have hwh := gH (a := W) (b := Hh) (by omega) hw1 (by omega) hh1
    have hk0 : 0 < ks.length := by have := ((cg.1 hkV).idx (show inB W Hh 0 0 = true from dK.2 (by omega))).2.2.2.2.1; omega
    refine aO fun Q9 hn9 hr9 he9 => ?_
    have hQ9 := fun F H' h => hr9 F H' (hQ8 F H' h)
    refine aI false try_mixed (by kernel_rfl) ?_
    simp -implicitDefEqProofs (disch := omega) only [hbpp, hb0pp, hbs, hb0s, hbev, hb0ev, h1, h1d, h2, h2d, aK, aJ, aL, aY, Nat.add_assoc, Option.isNone_some.{0}, Option.isNone_none.{0}, ar, ak, al, au, simprocAttr, ax, ay, Function.comp_apply, one1, lenV, af, am, ap, aop, AV.ofValue, AV.ofCell, AV.cells, AV.flat, AV.one, arep, aB, aw]
    repeat refine And.intro (by omega) ?_
    refine aq (fun h3 => ?_) (fun h3 => ?_)
    ·have h3d := bsT h3
     have hlt : i < evs.length := by omega
     obtain ⟨bq, oq, cq, hsq, hbq⟩ := hvo.at hlt
     have hblq := getElem?_lt hbq
     have hb0q := fun l' => aD (l := l') hbq
     have hscl := hvo.len hlt
     have hsc8 := hf4 i hlt
     simp -implicitDefEqProofs (disch := omega) only [hbpp, hb0pp, hbs, hb0s, hbev, hb0ev, h1, h1d, h2, h2d, aK, aJ, aL, aY, h3, h3d, Nat.add_assoc, Option.isNone_some.{0}, Option.isNone_none.{0}, ar, ak, al, au, simprocAttr, ax, ay, Function.comp_apply, one1, lenV, af, am, ap, aop, AV.ofValue, AV.ofCell, AV.cells, AV.flat, AV.one, arep, aB, aw]
     repeat refine And.intro (by omega) ?_
     refine hn9 _ _ ?_
     refine aO fun Q10 hn10 hr10 he10 => ?_
     have hQ10 := fun F H' h => hr10 F H' (hQ8 F H' h)
     refine dM fun Q11 hn11 hr11 he11 hb11 => ?_
     have hQ11 := fun F H' h => hr11 F H' (hQ10 F H' h)
     refine aO fun Q12 hn12 hr12 he12 => ?_
     have hQ12 := fun F H' h => hr12 F H' (hQ11 F H' h)
     refine aI false try_mixed (by kernel_rfl) ?_
     simp -implicitDefEqProofs (disch := omega) only [hbpp, hb0pp, hbs, hb0s, hbev, hb0ev, h1, h1d, h2, h2d, aK, aJ, aL, aY, h3, h3d, Nat.add_assoc, Option.isNone_some.{0}, Option.isNone_none.{0}, ar, ak, al, au, simprocAttr, ax, ay, Function.comp_apply, one1, lenV, af, am, ap, aop, AV.ofValue, AV.ofCell, AV.cells, AV.flat, AV.one, arep, aB, aw]
     repeat refine And.intro (by omega) ?_
     refine aj (by kernel_rfl) (gl _ W Hh (.sl (some (H.length, 0)) ks.length none) ks (.sl (some (H.length + 1, 0)) Q.length none) Q tu le sl ra lo _ ⟨_, _, _, by first | rfl | (rw [List.length_append]; done) | (rw [List.length_append]; rfl), by first | rfl | (rw [ah]; rfl) | (rw [ae]; rfl) | (rw [ah, ag]; rfl) | (rw [ae, ag]; rfl)⟩ ⟨_, _, _, by first | rfl | (rw [List.length_append]; done) | (rw [List.length_append]; rfl), by first | rfl | (rw [ah]; rfl) | (rw [ae]; rfl) | (rw [ah, ag]; rfl) | (rw [ae, ag]; rfl)⟩ ⟨_, by first | rfl | (rw [ah]; rfl) | (rw [ae]; rfl) | (rw [ae])⟩) ?_
     simp -implicitDefEqProofs (disch := omega) only [hbpp, hb0pp, hbs, hb0s, hbev, hb0ev, h1, h1d, h2, h2d, aK, aJ, aL, aY, h3, h3d, Nat.add_assoc, Option.isNone_some.{0}, Option.isNone_none.{0}, ar, ak, al, au, simprocAttr, ax, ay, Function.comp_apply, one1, lenV, af, am, ap, aop, AV.ofValue, AV.ofCell, AV.cells, AV.flat, AV.one, arep, aB, aw]
     repeat refine And.intro (by omega) ?_
     refine hn12 _ _ ?_
     refine aO fun Q13 hn13 hr13 he13 => ?_
     have hQ13 := fun F H' h => hr13 F H' (hQ11 F H' h)
     refine aI false try_mixed (by kernel_rfl) ?_
     simp -implicitDefEqProofs (disch := omega) only [hbpp, hb0pp, hbs, hb0s, hbev, hb0ev, h1, h1d, h2, h2d, aK, aJ, aL, aY, h3, h3d, Nat.add_assoc, Option.isNone_some.{0}, Option.isNone_none.{0}, ar, ak, al, au, simprocAttr, ax, ay, Function.comp_apply, one1, lenV, af, am, ap, aop, AV.ofValue, AV.ofCell, AV.cells, AV.flat, AV.one, arep, aB, aw]
     repeat refine And.intro (by omega) ?_
     refine aj (by kernel_rfl) (i7 _ W Hh (.sl (some (H.length, 0)) ks.length none) ks (.sl (some (H.length + 1, 0)) Q.length none) Q tu le sl ra lo _ ⟨_, _, _, by first | rfl | (rw [List.length_append]; done) | (rw [List.length_append]; rfl), by first | rfl | (rw [ah]; rfl) | (rw [ae]; rfl) | (rw [ah, ag]; rfl) | (rw [ae, ag]; rfl)⟩ ⟨_, _, _, by first | rfl | (rw [List.length_append]; done) | (rw [List.length_append]; rfl), by first | rfl | (rw [ah]; rfl) | (rw [ae]; rfl) | (rw [ah, ag]; rfl) | (rw [ae, ag]; rfl)⟩ ⟨_, by first | rfl | (rw [ah]; rfl) | (rw [ae]; rfl) | (rw [ae])⟩ (by omega) (by assumption)) ?_
     simp -implicitDefEqProofs (disch := omega) only [hbpp, hb0pp, hbs, hb0s, hbev, hb0ev, h1, h1d, h2, h2d, aK, aJ, aL, aY, h3, h3d, Nat.add_assoc, Option.isNone_some.{0}, Option.isNone_none.{0}, ar, ak, al, au, simprocAttr, ax, ay, Function.comp_apply, one1, lenV, af, am, ap, aop, AV.ofValue, AV.ofCell, AV.cells, AV.flat, AV.one, arep, aB, aw]
     repeat refine And.intro (by omega) ?_
     refine hn13 _ _ ?_
     refine aO fun Q14 hn14 hr14 he14 => ?_
     have hQ14 := fun F H' h => hr14 F H' (hQ11 F H' h)
     refine aI false try_mixed (by kernel_rfl) ?_
     simp -implicitDefEqProofs (disch := omega) only [hbpp, hb0pp, hbs, hb0s, hbev, hb0ev, h1, h1d, h2, h2d, aK, aJ, aL, aY, h3, h3d, Nat.add_assoc, Option.isNone_some.{0}, Option.isNone_none.{0}, ar, ak, al, au, simprocAttr, ax, ay, Function.comp_apply, one1, lenV, af, am, ap, aop, AV.ofValue, AV.ofCell, AV.cells, AV.flat, AV.one, arep, aB, aw]
     repeat refine And.intro (by omega) ?_
     refine aj (by kernel_rfl) (gm _ W Hh (.sl (some (H.length, 0)) ks.length none) ks (.sl (some (H.length + 1, 0)) Q.length none) Q tu le sl ra lo _ ⟨_, _, _, by first | rfl | (rw [List.length_append]; done) | (rw [List.length_append]; rfl), by first | rfl | (rw [ah]; rfl) | (rw [ae]; rfl) | (rw [ah, ag]; rfl) | (rw [ae, ag]; rfl)⟩ ⟨_, _, _, by first | rfl | (rw [List.length_append]; done) | (rw [List.length_append]; rfl), by first | rfl | (rw [ah]; rfl) | (rw [ae]; rfl) | (rw [ah, ag]; rfl) | (rw [ae, ag]; rfl)⟩ ⟨_, by first | rfl | (rw [ah]; rfl) | (rw [ae]; rfl) | (rw [ae])⟩ (by omega) (by omega)) ?_
     simp -implicitDefEqProofs (disch := omega) only [hbpp, hb0pp, hbs, hb0s, hbev, hb0ev, h1, h1d, h2, h2d, aK, aJ, aL, aY, h3, h3d, Nat.add_assoc, Option.isNone_some.{0}, Option.isNone_none.{0}, ar, ak, al, au, simprocAttr, ax, ay, Function.comp_apply, one1, lenV, af, am, ap, aop, AV.ofValue, AV.ofCell, AV.cells, AV.flat, AV.one, arep, aB, aw]
     repeat refine And.intro (by omega) ?_
     refine hn14 _ _ ?_
     refine tZ false try_mixed (by kernel_rfl) (H.length) (by simp) (fun F2 H2 => ∃ mv : Int, ∃ Q1 : List T6, (bU Q1 = true ∧ 0 < Q1.length ∧ (lo = true → Q1 = Q ∧ (mv = 9 ∨ mv = 1))) ∧ F2 = [(1, .sl (some (bs, 0)) l.length cs), (2, .sl (some (bev, 0)) evs.length cev), (7, .ptr (some (H.length + 2, 0))), (9, .int .i64 ((i : Nat) : Int)), (10, .bool lo), (11, .sl (some (H.length + 3, 0)) Q.length none), (12, .ptr (some (H.length + 5, 0))), (13, .int .i64 mv)] ∧ H2 = H ++ [.cells true 1 (ints .u8 ks), .cells true 6 (r6 Q1), .cells true 0 [.int .i64 W, .int .i64 Hh, .sl (some (H.length, 0)) ks.length none, .sl (some (H.length + 1, 0)) Q1.length none, .int .i64 tu, .int .i64 le, .int .i64 sl, .int .i64 ra, .bool lo], .cells true 6 (r6 Q), .cells true 1 (ints .u8 ks), .cells true 0 [.int .i64 W, .int .i64 Hh, .sl (some (H.length + 4, 0)) ks.length none]]) ?_ ?_
     ·intro J hJ
      have q4 := e5R_p1 (l := evs) (j := i) (by omega)
      have q5 := e5R_at3 (l := evs) (j := i) (by omega)
      simp -implicitDefEqProofs (disch := omega) only [hbpp, hb0pp, hbs, hb0s, hbev, hb0ev, h1, h1d, h2, h2d, aK, aJ, aL, aY, h3, h3d, dl, q4, q5, Nat.add_assoc, Option.isNone_some.{0}, Option.isNone_none.{0}, ar, ak, al, au, simprocAttr, ax, ay, Function.comp_apply, one1, lenV, af, am, ap, aop, AV.ofValue, AV.ofCell, AV.cells, AV.flat, AV.one, arep, aB, aw]
      repeat refine And.intro (by omega) ?_
      rcases Bool.eq_false_or_eq_true (cJ ((evG evs i).t) ((evG evs i).g)) with h6 | h6
      ·have h6d := h6
       have hC := h6d
       have hC2 := lW ((evG evs i).st) hC
       simp only [cJ, Bool.and_eq_true, bM] at hC2
       rcases Bool.eq_false_or_eq_true (lo) with h7 | h7
       ·have h7d := h7
        have hloT := h7d
        refine aP (by kernel_rfl) (lmvS _ W Hh (.sl (some (H.length, 0)) ks.length none) ks (.sl (some (H.length + 1, 0)) Q.length none) Q tu le sl ra lo _ ((evG evs i).t) ((evG evs i).g) ((evG evs i).st) ⟨_, _, _, by first | rfl | (rw [List.length_append]; done) | (rw [List.length_append]; rfl), by first | rfl | (rw [ah]; rfl) | (rw [ae]; rfl) | (rw [ah, ag]; rfl) | (rw [ae, ag]; rfl)⟩ ⟨_, _, _, by first | rfl | (rw [List.length_append]; done) | (rw [List.length_append]; rfl), by first | rfl | (rw [ah]; rfl) | (rw [ae]; rfl) | (rw [ah, ag]; rfl) | (rw [ae, ag]; rfl)⟩ ⟨_, by first | rfl | (rw [ah]; rfl) | (rw [ae]; rfl) | (rw [ae])⟩ (by assumption) (by assumption)) ?_
        simp -implicitDefEqProofs (disch := omega) only [hbpp, hb0pp, hbs, hb0s, hbev, hb0ev, h1, h1d, h2, h2d, aK, aJ, aL, aY, h3, h3d, dl, q4, q5, h6, h6d, h7, h7d, Nat.add_assoc, Option.isNone_some.{0}, Option.isNone_none.{0}, ar, ak, al, au, simprocAttr, ax, ay, Function.comp_apply, one1, lenV, af, am, ap, aop, AV.ofValue, AV.ofCell, AV.cells, AV.flat, AV.one, arep, aB, aw]
        repeat refine And.intro (by omega) ?_
        refine aZ (hJ _ _ ⟨_, _, _, ⟨9, Q, (⟨hQS, hQ0, fun _ => ⟨rfl, .inl rfl⟩⟩), rfl, rfl⟩, Abs.byG hbel [] rfl [0, 1, 2, 3, 4, 5] (by decide) ?_⟩)
        exact aN (jn @hloT (jn @bg (jn @be (jn @bt @bo))))
       ·have h7d := h7
        have hloF := h7d
        rcases Bool.eq_false_or_eq_true (imA Q ((evG evs i).t) (stF ((evG evs i).st) ((evG evs i).g)) tu le sl) with h8 | h8
        ·have h8d := h8
         have hSi : bU (imS Q ((evG evs i).t) (stF ((evG evs i).st) ((evG evs i).g)) tu le sl Q.length) = true := bX.2 ⟨by rw [dk]; exact hQ16, imS_ok hQv (by omega) (by omega) (by omega) (by omega) h8d⟩
         have h0i : 0 < (imS Q ((evG evs i).t) (stF ((evG evs i).st) ((evG evs i).g)) tu le sl Q.length).length := by rw [dk]; exact hQ0
         refine call_w (by kernel_rfl) (by simp) (fun b h1 h2 => by first | exact pN (by omega) h1 h2 | exact lI (by omega) h1) (lmvY _ W Hh (.sl (some (H.length, 0)) ks.length none) ks (.sl (some (H.length + 1, 0)) Q.length none) Q tu le sl ra lo _ ((evG evs i).t) ((evG evs i).g) ((evG evs i).st) ⟨_, _, _, by first | rfl | (rw [List.length_append]; done) | (rw [List.length_append]; rfl), by first | rfl | (rw [ah]; rfl) | (rw [ae]; rfl) | (rw [ah, ag]; rfl) | (rw [ae, ag]; rfl)⟩ ⟨_, _, _, by first | rfl | (rw [List.length_append]; done) | (rw [List.length_append]; rfl), by first | rfl | (rw [ah]; rfl) | (rw [ae]; rfl) | (rw [ah, ag]; rfl) | (rw [ae, ag]; rfl)⟩ (by first | rfl | (rw [ah]; rfl) | (rw [ae]; rfl) | (rw [ae])) (by assumption) (by assumption) (by assumption) (by assumption) (by assumption) (by assumption)) ?_
         simp -implicitDefEqProofs (disch := omega) only [hbpp, hb0pp, hbs, hb0s, hbev, hb0ev, h1, h1d, h2, h2d, aK, aJ, aL, aY, h3, h3d, dl, q4, q5, h6, h6d, h7, h7d, h8, h8d, Nat.add_assoc, Option.isNone_some.{0}, Option.isNone_none.{0}, ar, ak, al, au, simprocAttr, ax, ay, Function.comp_apply, one1, lenV, af, am, ap, aop, AV.ofValue, AV.ofCell, AV.cells, AV.flat, AV.one, arep, aB, aw]
         repeat refine And.intro (by omega) ?_
         refine aZ (hJ _ _ ⟨_, _, _, ⟨0, (imS Q ((evG evs i).t) (stF ((evG evs i).st) ((evG evs i).g)) tu le sl Q.length), (⟨hSi, h0i, fun q => absurd (q.symm.trans hloF) (by decide)⟩), rfl, rfl⟩, Abs.byG hbel [] rfl [0, 6, 2, 3, 4, 5] (by decide) ?_⟩)
         exact aN (jn @hloF (jn @bg (jn @be (jn @bt @bo))))
        ·have h8d := h8
         refine aP (by kernel_rfl) (lmvN _ W Hh (.sl (some (H.length, 0)) ks.length none) ks (.sl (some (H.length + 1, 0)) Q.length none) Q tu le sl ra lo _ ((evG evs i).t) ((evG evs i).g) ((evG evs i).st) ⟨_, _, _, by first | rfl | (rw [List.length_append]; done) | (rw [List.length_append]; rfl), by first | rfl | (rw [ah]; rfl) | (rw [ae]; rfl) | (rw [ah, ag]; rfl) | (rw [ae, ag]; rfl)⟩ ⟨_, _, _, by first | rfl | (rw [List.length_append]; done) | (rw [List.length_append]; rfl), by first | rfl | (rw [ah]; rfl) | (rw [ae]; rfl) | (rw [ah, ag]; rfl) | (rw [ae, ag]; rfl)⟩ ⟨_, by first | rfl | (rw [ah]; rfl) | (rw [ae]; rfl) | (rw [ae])⟩ (by assumption) (by assumption) (by assumption) (by assumption) (by assumption) (by assumption)) ?_
         simp -implicitDefEqProofs (disch := omega) only [hbpp, hb0pp, hbs, hb0s, hbev, hb0ev, h1, h1d, h2, h2d, aK, aJ, aL, aY, h3, h3d, dl, q4, q5, h6, h6d, h7, h7d, h8, h8d, Nat.add_assoc, Option.isNone_some.{0}, Option.isNone_none.{0}, ar, ak, al, au, simprocAttr, ax, ay, Function.comp_apply, one1, lenV, af, am, ap, aop, AV.ofValue, AV.ofCell, AV.cells, AV.flat, AV.one, arep, aB, aw]
         repeat refine And.intro (by omega) ?_
         refine aZ (hJ _ _ ⟨_, _, _, ⟨2, Q, (⟨hQS, hQ0, fun q => absurd (q.symm.trans hloF) (by decide)⟩), rfl, rfl⟩, Abs.byG hbel [] rfl [0, 1, 2, 3, 4, 5] (by decide) ?_⟩)
         exact aN (jn @hloF (jn @bg (jn @be (jn @bt @bo))))
      ·have h6d := h6
       refine aP (by kernel_rfl) (lmv_a _ W Hh (.sl (some (H.length, 0)) ks.length none) ks (.sl (some (H.length + 1, 0)) Q.length none) Q tu le sl ra lo _ ((evG evs i).t) ((evG evs i).g) ((evG evs i).st) ⟨_, _, _, by first | rfl | (rw [List.length_append]; done) | (rw [List.length_append]; rfl), by first | rfl | (rw [ah]; rfl) | (rw [ae]; rfl) | (rw [ah, ag]; rfl) | (rw [ae, ag]; rfl)⟩ ⟨_, _, _, by first | rfl | (rw [List.length_append]; done) | (rw [List.length_append]; rfl), by first | rfl | (rw [ah]; rfl) | (rw [ae]; rfl) | (rw [ah, ag]; rfl) | (rw [ae, ag]; rfl)⟩ ⟨_, by first | rfl | (rw [ah]; rfl) | (rw [ae]; rfl) | (rw [ae])⟩ (by assumption)) ?_
       simp -implicitDefEqProofs (disch := omega) only [hbpp, hb0pp, hbs, hb0s, hbev, hb0ev, h1, h1d, h2, h2d, aK, aJ, aL, aY, h3, h3d, dl, q4, q5, h6, h6d, Nat.add_assoc, Option.isNone_some.{0}, Option.isNone_none.{0}, ar, ak, al, au, simprocAttr, ax, ay, Function.comp_apply, one1, lenV, af, am, ap, aop, AV.ofValue, AV.ofCell, AV.cells, AV.flat, AV.one, arep, aB, aw]
       repeat refine And.intro (by omega) ?_
       refine aZ (hJ _ _ ⟨_, _, _, ⟨1, Q, (⟨hQS, hQ0, fun _ => ⟨rfl, .inr rfl⟩⟩), rfl, rfl⟩, Abs.byG hbel [] rfl [0, 1, 2, 3, 4, 5] (by decide) ?_⟩)
       exact aN (jn @bg (jn @be (jn @bt @bo)))
     rintro F2 H2 ⟨mv, Q1, pmv, rfl, rfl⟩
     obtain ⟨hS1, h01, hm1⟩ := pmv
     refine AW_join false try_mixed (by kernel_rfl) (fun F2 H2 => ∃ sv : Int, ∃ ks2 : List Int, ∃ Q2 : List T6, ∃ lo2 : Bool, (b9 W Hh ks2 = true ∧ (∀ z ∈ ks2, 0 ≤ z) ∧ bU Q2 = true ∧ 0 < Q2.length ∧ kpP ks ks2 ∧ (lo = true → lo2 = true ∧ Q2 = Q1 ∧ ks2 = ks ∧ (sv = 9 ∨ sv = 1))) ∧ F2 = [(1, .sl (some (bs, 0)) l.length cs), (2, .sl (some (bev, 0)) evs.length cev), (7, .ptr (some (H.length + 2, 0))), (9, .int .i64 ((i : Nat) : Int)), (10, .bool lo), (11, .sl (some (H.length + 3, 0)) Q.length none), (12, .ptr (some (H.length + 5, 0))), (13, .int .i64 mv), (14, .int .i64 sv)] ∧ H2 = H ++ [.cells true 1 (ints .u8 ks2), .cells true 6 (r6 Q2), .cells true 0 [.int .i64 W, .int .i64 Hh, .sl (some (H.length, 0)) ks2.length none, .sl (some (H.length + 1, 0)) Q2.length none, .int .i64 tu, .int .i64 le, .int .i64 sl, .int .i64 ra, .bool lo2], .cells true 6 (r6 Q), .cells true 1 (ints .u8 ks), .cells true 0 [.int .i64 W, .int .i64 Hh, .sl (some (H.length + 4, 0)) ks.length none]]) ?_ ?_
     ·intro J hJ
      have q9 := e5R_at4 (l := evs) (j := i) (by omega) hsq
      simp -implicitDefEqProofs (disch := omega) only [hbpp, hb0pp, hbs, hb0s, hbev, hb0ev, h1, h1d, h2, h2d, aK, aJ, aL, aY, h3, h3d, dl, q9, Nat.add_assoc, Option.isNone_some.{0}, Option.isNone_none.{0}, ar, ak, al, au, simprocAttr, ax, ay, Function.comp_apply, one1, lenV, af, am, ap, aop, AV.ofValue, AV.ofCell, AV.cells, AV.flat, AV.one, arep, aB, aw]
      repeat refine And.intro (by omega) ?_
      rcases Bool.eq_false_or_eq_true (cd ((evG evs i).sc)) with h10 | h10
      ·have h10d := h10
       have hscT := h10d
       rcases Bool.eq_false_or_eq_true (lo) with h11 | h11
       ·have h11d := h11
        have hloT := h11d
        refine aj (by kernel_rfl) (lseS _ W Hh (.sl (some (H.length, 0)) ks.length none) ks (.sl (some (H.length + 1, 0)) Q1.length none) Q1 tu le sl ra lo _ _ ((evG evs i).sc) ⟨_, _, _, by first | rfl | (rw [List.length_append]; done) | (rw [List.length_append]; rfl), by first | rfl | (rw [ah]; rfl) | (rw [ae]; rfl) | (rw [ah, ag]; rfl) | (rw [ae, ag]; rfl)⟩ ⟨_, _, _, by first | rfl | (rw [List.length_append]; done) | (rw [List.length_append]; rfl), by first | rfl | (rw [ah]; rfl) | (rw [ae]; rfl) | (rw [ah, ag]; rfl) | (rw [ae, ag]; rfl)⟩ ⟨_, by first | rfl | (rw [ah]; rfl) | (rw [ae]; rfl) | (rw [ae])⟩ ⟨_, _, _, rfl, by first | exact hb0q _ | exact hbq⟩ (by omega) (by assumption) (by assumption)) ?_
        simp -implicitDefEqProofs (disch := omega) only [hbpp, hb0pp, hbs, hb0s, hbev, hb0ev, h1, h1d, h2, h2d, aK, aJ, aL, aY, h3, h3d, dl, q9, h10, h10d, h11, h11d, Nat.add_assoc, Option.isNone_some.{0}, Option.isNone_none.{0}, ar, ak, al, au, simprocAttr, ax, ay, Function.comp_apply, one1, lenV, af, am, ap, aop, AV.ofValue, AV.ofCell, AV.cells, AV.flat, AV.one, arep, aB, aw]
        repeat refine And.intro (by omega) ?_
        refine aZ (hJ _ _ ⟨_, _, _, ⟨9, ks, Q1, lo, (⟨hkV, hkn, hS1, h01, jE _, fun q => ⟨q, rfl, rfl, .inl rfl⟩⟩), rfl, rfl⟩, Abs.byG hbel [] rfl [0, 1, 2, 3, 4, 5] (by decide) ?_⟩)
        exact aN (jn @hloT (jn @bg (jn @be (jn @bt @bo))))
       ·have h11d := h11
        have hloF := h11d
        rcases Bool.eq_false_or_eq_true (decide (0 < (bB W Hh ks Q1 ((evG evs i).sc) ra 32).length)) with h12 | h12
        ·have h12d := h12
         have hR0 : 0 < (bB W Hh ks Q1 ((evG evs i).sc) ra 32).length := of_decide_eq_true h12d
         have hok : (∀ b ∈ bB W Hh ks Q1 ((evG evs i).sc) ra 32, bG b = true) ∧ (bB W Hh ks Q1 ((evG evs i).sc) ra 32).length ≤ Q1.length + 32 + ([] : List T6).length := gA (xs := ks) (s := (evG evs i).sc) (g := ra) ⟨hw0, hw1⟩ ⟨hh0, hh1⟩ (Q1.length + 2 * 32) Q1 32 [] rfl (bX.1 hS1).2 (fun b hb => by cases hb)
         have hcp := cpL_ok hR0 hok.1
         rcases Bool.eq_false_or_eq_true ((lnO W Hh ks (cpL (bB W Hh ks Q1 ((evG evs i).sc) ra 32)) ((evG evs i).sc) ra).isSome) with h13 | h13
         ·have h13d := h13
          obtain ⟨oo, hoo⟩ := Option.isSome_iff_exists.1 h13d
          have hov := ln_v hkV hoo
          have ho0 : 0 < oo.length := by rw [hov.2]; exact hk0
          refine aj (by kernel_rfl) (lseY _ W Hh (.sl (some (H.length, 0)) ks.length none) ks (.sl (some (H.length + 1, 0)) Q1.length none) Q1 tu le sl ra lo _ _ ((evG evs i).sc) ⟨_, _, _, by first | rfl | (rw [List.length_append]; done) | (rw [List.length_append]; rfl), by first | rfl | (rw [ah]; rfl) | (rw [ae]; rfl) | (rw [ah, ag]; rfl) | (rw [ae, ag]; rfl)⟩ ⟨_, _, _, by first | rfl | (rw [List.length_append]; done) | (rw [List.length_append]; rfl), by first | rfl | (rw [ah]; rfl) | (rw [ae]; rfl) | (rw [ah, ag]; rfl) | (rw [ae, ag]; rfl)⟩ (by first | rfl | (rw [ah]; rfl) | (rw [ae]; rfl) | (rw [ae])) ⟨_, _, _, rfl, by first | exact hb0q _ | exact hbq⟩ (by assumption) (by assumption) (by assumption) (by assumption) (by assumption) (by assumption) oo hoo ho0 (by assumption)) ?_
          simp -implicitDefEqProofs (disch := omega) only [hbpp, hb0pp, hbs, hb0s, hbev, hb0ev, h1, h1d, h2, h2d, aK, aJ, aL, aY, h3, h3d, dl, q9, h10, h10d, h11, h11d, h12, h12d, h13, h13d, Nat.add_assoc, Option.isNone_some.{0}, Option.isNone_none.{0}, ar, ak, al, au, simprocAttr, ax, ay, Function.comp_apply, one1, lenV, af, am, ap, aop, AV.ofValue, AV.ofCell, AV.cells, AV.flat, AV.one, arep, aB, aw]
          repeat refine And.intro (by omega) ?_
          refine aZ (hJ _ _ ⟨_, _, _, ⟨0, oo, (cpL (bB W Hh ks Q1 ((evG evs i).sc) ra 32)), false, (⟨hov.1, ln_n hkn hoo, hcp.1, hcp.2, ln_kp (eI.2 ⟨hkV, hcp.2, hcp.1, hscT, hg⟩) hkn hoo, fun q => absurd (q.symm.trans hloF) (by decide)⟩), rfl, rfl⟩, Abs.byG hbel [] rfl [6, 7, 2, 3, 4, 5] (by decide) ?_⟩)
          exact aN (jn @hloF (jn @bg (jn @be (jn @bt @bo))))
         ·have h13d := h13
          have hon := Option.not_isSome_iff_eq_none.1 (by rw [h13d]; decide)
          refine aj (by kernel_rfl) (lseL _ W Hh (.sl (some (H.length, 0)) ks.length none) ks (.sl (some (H.length + 1, 0)) Q1.length none) Q1 tu le sl ra lo _ _ ((evG evs i).sc) ⟨_, _, _, by first | rfl | (rw [List.length_append]; done) | (rw [List.length_append]; rfl), by first | rfl | (rw [ah]; rfl) | (rw [ae]; rfl) | (rw [ah, ag]; rfl) | (rw [ae, ag]; rfl)⟩ ⟨_, _, _, by first | rfl | (rw [List.length_append]; done) | (rw [List.length_append]; rfl), by first | rfl | (rw [ah]; rfl) | (rw [ae]; rfl) | (rw [ah, ag]; rfl) | (rw [ae, ag]; rfl)⟩ (by first | rfl | (rw [ah]; rfl) | (rw [ae]; rfl) | (rw [ae])) ⟨_, _, _, rfl, by first | exact hb0q _ | exact hbq⟩ (by assumption) (by assumption) (by assumption) (by assumption) (by assumption) (by assumption) (by assumption) (by assumption)) ?_
          simp -implicitDefEqProofs (disch := omega) only [hbpp, hb0pp, hbs, hb0s, hbev, hb0ev, h1, h1d, h2, h2d, aK, aJ, aL, aY, h3, h3d, dl, q9, h10, h10d, h11, h11d, h12, h12d, h13, h13d, Nat.add_assoc, Option.isNone_some.{0}, Option.isNone_none.{0}, ar, ak, al, au, simprocAttr, ax, ay, Function.comp_apply, one1, lenV, af, am, ap, aop, AV.ofValue, AV.ofCell, AV.cells, AV.flat, AV.one, arep, aB, aw]
          repeat refine And.intro (by omega) ?_
          refine aZ (hJ _ _ ⟨_, _, _, ⟨11, ks, Q1, true, (⟨hkV, hkn, hS1, h01, jE _, fun q => absurd (q.symm.trans hloF) (by decide)⟩), rfl, rfl⟩, Abs.byG hbel [] rfl [0, 1, 2, 3, 4, 5] (by decide) ?_⟩)
          exact aN (jn @hloF (jn @bg (jn @be (jn @bt @bo))))
        ·have h12d := h12
         have hRn : (bB W Hh ks Q1 ((evG evs i).sc) ra 32).length = 0 := by have := of_decide_eq_false h12d; omega
         refine aj (by kernel_rfl) (lseE _ W Hh (.sl (some (H.length, 0)) ks.length none) ks (.sl (some (H.length + 1, 0)) Q1.length none) Q1 tu le sl ra lo _ _ ((evG evs i).sc) ⟨_, _, _, by first | rfl | (rw [List.length_append]; done) | (rw [List.length_append]; rfl), by first | rfl | (rw [ah]; rfl) | (rw [ae]; rfl) | (rw [ah, ag]; rfl) | (rw [ae, ag]; rfl)⟩ ⟨_, _, _, by first | rfl | (rw [List.length_append]; done) | (rw [List.length_append]; rfl), by first | rfl | (rw [ah]; rfl) | (rw [ae]; rfl) | (rw [ah, ag]; rfl) | (rw [ae, ag]; rfl)⟩ (by first | rfl | (rw [ah]; rfl) | (rw [ae]; rfl) | (rw [ae])) ⟨_, _, _, rfl, by first | exact hb0q _ | exact hbq⟩ (by assumption) (by assumption) (by assumption) (by assumption) (by assumption) (by assumption) (by assumption)) ?_
         simp -implicitDefEqProofs (disch := omega) only [hbpp, hb0pp, hbs, hb0s, hbev, hb0ev, h1, h1d, h2, h2d, aK, aJ, aL, aY, h3, h3d, dl, q9, h10, h10d, h11, h11d, h12, h12d, Nat.add_assoc, Option.isNone_some.{0}, Option.isNone_none.{0}, ar, ak, al, au, simprocAttr, ax, ay, Function.comp_apply, one1, lenV, af, am, ap, aop, AV.ofValue, AV.ofCell, AV.cells, AV.flat, AV.one, arep, aB, aw]
         repeat refine And.intro (by omega) ?_
         refine aZ (hJ _ _ ⟨_, _, _, ⟨12, ks, Q1, true, (⟨hkV, hkn, hS1, h01, jE _, fun q => absurd (q.symm.trans hloF) (by decide)⟩), rfl, rfl⟩, Abs.byG hbel [] rfl [0, 1, 2, 3, 4, 5] (by decide) ?_⟩)
         exact aN (jn @hloF (jn @bg (jn @be (jn @bt @bo))))
      ·have h10d := h10
       have hscF := h10d
       refine aj (by kernel_rfl) (lse_a _ W Hh (.sl (some (H.length, 0)) ks.length none) ks (.sl (some (H.length + 1, 0)) Q1.length none) Q1 tu le sl ra lo _ _ ((evG evs i).sc) ⟨_, _, _, by first | rfl | (rw [List.length_append]; done) | (rw [List.length_append]; rfl), by first | rfl | (rw [ah]; rfl) | (rw [ae]; rfl) | (rw [ah, ag]; rfl) | (rw [ae, ag]; rfl)⟩ ⟨_, _, _, by first | rfl | (rw [List.length_append]; done) | (rw [List.length_append]; rfl), by first | rfl | (rw [ah]; rfl) | (rw [ae]; rfl) | (rw [ah, ag]; rfl) | (rw [ae, ag]; rfl)⟩ ⟨_, by first | rfl | (rw [ah]; rfl) | (rw [ae]; rfl) | (rw [ae])⟩ ⟨_, _, _, rfl, by first | exact hb0q _ | exact hbq⟩ (by omega) (by assumption)) ?_
       simp -implicitDefEqProofs (disch := omega) only [hbpp, hb0pp, hbs, hb0s, hbev, hb0ev, h1, h1d, h2, h2d, aK, aJ, aL, aY, h3, h3d, dl, q9, h10, h10d, Nat.add_assoc, Option.isNone_some.{0}, Option.isNone_none.{0}, ar, ak, al, au, simprocAttr, ax, ay, Function.comp_apply, one1, lenV, af, am, ap, aop, AV.ofValue, AV.ofCell, AV.cells, AV.flat, AV.one, arep, aB, aw]
       repeat refine And.intro (by omega) ?_
       refine aZ (hJ _ _ ⟨_, _, _, ⟨1, ks, Q1, lo, (⟨hkV, hkn, hS1, h01, jE _, fun q => ⟨q, rfl, rfl, .inr rfl⟩⟩), rfl, rfl⟩, Abs.byG hbel [] rfl [0, 1, 2, 3, 4, 5] (by decide) ?_⟩)
       exact aN (jn @bg (jn @be (jn @bt @bo)))
     rintro F2 H2 ⟨sv, ks2, Q2, lo2, psv, rfl, rfl⟩
     obtain ⟨hkV2, hkn2, hS2, h02, hkp, hs1⟩ := psv
     have hS216 := (bX.1 hS2).1
     have hk2l := (cg.1 hkV2).len
     have hwh6 := gH (a := W) (b := Hh) (by omega) hw1 (by omega) hh1
     have hk20 : 0 < ks2.length := by have := ((cg.1 hkV2).idx (show inB W Hh 0 0 = true from dK.2 (by omega))).2.2.2.2.1; omega
     refine aI false try_mixed (by kernel_rfl) ?_
     simp -implicitDefEqProofs (disch := omega) only [hbpp, hb0pp, hbs, hb0s, hbev, hb0ev, h1, h1d, h2, h2d, aK, aJ, aL, aY, h3, h3d, Nat.add_assoc, Option.isNone_some.{0}, Option.isNone_none.{0}, ar, ak, al, au, simprocAttr, ax, ay, Function.comp_apply, one1, lenV, af, am, ap, aop, AV.ofValue, AV.ofCell, AV.cells, AV.flat, AV.one, arep, aB, aw]
     repeat refine And.intro (by omega) ?_
     refine bL (by kernel_rfl) (by simp) (gm _ W Hh (.sl (some (H.length, 0)) ks2.length none) ks2 (.sl (some (H.length + 1, 0)) Q2.length none) Q2 tu le sl ra lo2 _ ⟨_, _, _, by first | rfl | (rw [List.length_append]; done) | (rw [List.length_append]; rfl), by first | rfl | (rw [ah]; rfl) | (rw [ae]; rfl) | (rw [ah, ag]; rfl) | (rw [ae, ag]; rfl)⟩ ⟨_, _, _, by first | rfl | (rw [List.length_append]; done) | (rw [List.length_append]; rfl), by first | rfl | (rw [ah]; rfl) | (rw [ae]; rfl) | (rw [ah, ag]; rfl) | (rw [ae, ag]; rfl)⟩ ⟨_, by first | rfl | (rw [ah]; rfl) | (rw [ae]; rfl) | (rw [ae])⟩ (by omega) (by omega)) ?_
     simp -implicitDefEqProofs (disch := omega) only [hbpp, hb0pp, hbs, hb0s, hbev, hb0ev, h1, h1d, h2, h2d, aK, aJ, aL, aY, h3, h3d, Nat.add_assoc, Option.isNone_some.{0}, Option.isNone_none.{0}, ar, ak, al, au, simprocAttr, ax, ay, Function.comp_apply, one1, lenV, af, am, ap, aop, AV.ofValue, AV.ofCell, AV.cells, AV.flat, AV.one, arep, aB, aw]
     repeat refine And.intro (by omega) ?_
     refine aP (by kernel_rfl) (bel25_c _ W Hh _ ks W Hh _ ks2 ⟨_, _, _, by first | rfl | (rw [List.length_append]; done) | (rw [List.length_append]; rfl), by first | rfl | (rw [ah]; rfl) | (rw [ae]; rfl) | (rw [ah, ag]; rfl) | (rw [ae, ag]; rfl)⟩ ⟨_, _, _, by first | rfl | (rw [List.length_append]; done) | (rw [List.length_append]; rfl), by first | rfl | (rw [ah]; rfl) | (rw [ae]; rfl) | (rw [ah, ag]; rfl) | (rw [ae, ag]; rfl)⟩ rfl rfl (by assumption) (by omega)) ?_
     simp -implicitDefEqProofs (disch := omega) only [hbpp, hb0pp, hbs, hb0s, hbev, hb0ev, h1, h1d, h2, h2d, aK, aJ, aL, aY, h3, h3d, Nat.add_assoc, Option.isNone_some.{0}, Option.isNone_none.{0}, ar, ak, al, au, simprocAttr, ax, ay, Function.comp_apply, one1, lenV, af, am, ap, aop, AV.ofValue, AV.ofCell, AV.cells, AV.flat, AV.one, arep, aB, aw]
     repeat refine And.intro (by omega) ?_
     refine az (fun h14 => ?_) (fun h14 => ?_)
     ·have h14d := bsT h14
      have hloT := h14d
      obtain ⟨hQ1, hmv⟩ := hm1 hloT
      obtain ⟨hlo2, hQ2, hk2, hsv⟩ := hs1 hloT
      have hqe : Q = Q2 := (hQ2.trans hQ1).symm
      have hke : ks = ks2 := hk2.symm
      simp -implicitDefEqProofs (disch := omega) only [hbpp, hb0pp, hbs, hb0s, hbev, hb0ev, h1, h1d, h2, h2d, aK, aJ, aL, aY, h3, h3d, h14, h14d, Nat.add_assoc, Option.isNone_some.{0}, Option.isNone_none.{0}, ar, ak, al, au, simprocAttr, ax, ay, Function.comp_apply, one1, lenV, af, am, ap, aop, AV.ofValue, AV.ofCell, AV.cells, AV.flat, AV.one, arep, aB, aw]
      repeat refine And.intro (by omega) ?_
      refine aP (by kernel_rfl) (gl _ W Hh (.sl (some (H.length, 0)) ks2.length none) ks2 (.sl (some (H.length + 1, 0)) Q2.length none) Q2 tu le sl ra lo2 _ ⟨_, _, _, by first | rfl | (rw [List.length_append]; done) | (rw [List.length_append]; rfl), by first | rfl | (rw [ah]; rfl) | (rw [ae]; rfl) | (rw [ah, ag]; rfl) | (rw [ae, ag]; rfl)⟩ ⟨_, _, _, by first | rfl | (rw [List.length_append]; done) | (rw [List.length_append]; rfl), by first | rfl | (rw [ah]; rfl) | (rw [ae]; rfl) | (rw [ah, ag]; rfl) | (rw [ae, ag]; rfl)⟩ ⟨_, by first | rfl | (rw [ah]; rfl) | (rw [ae]; rfl) | (rw [ae])⟩) ?_
      simp -implicitDefEqProofs (disch := omega) only [hbpp, hb0pp, hbs, hb0s, hbev, hb0ev, h1, h1d, h2, h2d, aK, aJ, aL, aY, h3, h3d, h14, h14d, Nat.add_assoc, Option.isNone_some.{0}, Option.isNone_none.{0}, ar, ak, al, au, simprocAttr, ax, ay, Function.comp_apply, one1, lenV, af, am, ap, aop, AV.ofValue, AV.ofCell, AV.cells, AV.flat, AV.one, arep, aB, aw]
      repeat refine And.intro (by omega) ?_
      refine az (fun h15 => ?_) (fun h15 => ?_)
      ·have h15d := bsT h15
       simp -implicitDefEqProofs (disch := omega) only [hbpp, hb0pp, hbs, hb0s, hbev, hb0ev, h1, h1d, h2, h2d, aK, aJ, aL, aY, h3, h3d, h14, h14d, h15, h15d, Nat.add_assoc, Option.isNone_some.{0}, Option.isNone_none.{0}, ar, ak, al, au, simprocAttr, ax, ay, Function.comp_apply, one1, lenV, af, am, ap, aop, AV.ofValue, AV.ofCell, AV.cells, AV.flat, AV.one, arep, aB, aw]
       repeat refine And.intro (by omega) ?_
       refine bL (by kernel_rfl) (by simp) (i7 _ W Hh (.sl (some (H.length, 0)) ks2.length none) ks2 (.sl (some (H.length + 1, 0)) Q2.length none) Q2 tu le sl ra true _ ⟨_, _, _, by first | rfl | (rw [List.length_append]; done) | (rw [List.length_append]; rfl), by first | rfl | (rw [ah]; rfl) | (rw [ae]; rfl) | (rw [ah, ag]; rfl) | (rw [ae, ag]; rfl)⟩ ⟨_, _, _, by first | rfl | (rw [List.length_append]; done) | (rw [List.length_append]; rfl), by first | rfl | (rw [ah]; rfl) | (rw [ae]; rfl) | (rw [ah, ag]; rfl) | (rw [ae, ag]; rfl)⟩ ⟨_, by first | rfl | (rw [ah]; rfl) | (rw [ae]; rfl) | (rw [ae])⟩ (by omega) (by assumption)) ?_
       simp -implicitDefEqProofs (disch := omega) only [hbpp, hb0pp, hbs, hb0s, hbev, hb0ev, h1, h1d, h2, h2d, aK, aJ, aL, aY, h3, h3d, h14, h14d, h15, h15d, Nat.add_assoc, Option.isNone_some.{0}, Option.isNone_none.{0}, ar, ak, al, au, simprocAttr, ax, ay, Function.comp_apply, one1, lenV, af, am, ap, aop, AV.ofValue, AV.ofCell, AV.cells, AV.flat, AV.one, arep, aB, aw]
       repeat refine And.intro (by omega) ?_
       refine aP (by kernel_rfl) (bxs_e _ _ Q _ Q2 (by first | rfl | assumption) ⟨_, _, _, by first | rfl | (rw [List.length_append]; done) | (rw [List.length_append]; rfl), by first | rfl | (rw [ah]; rfl) | (rw [ae]; rfl) | (rw [ah, ag]; rfl) | (rw [ae, ag]; rfl)⟩ ⟨_, _, _, by first | rfl | (rw [List.length_append]; done) | (rw [List.length_append]; rfl), by first | rfl | (rw [ah]; rfl) | (rw [ae]; rfl) | (rw [ah, ag]; rfl) | (rw [ae, ag]; rfl)⟩ (by omega)) ?_
       simp -implicitDefEqProofs (disch := omega) only [hbpp, hb0pp, hbs, hb0s, hbev, hb0ev, h1, h1d, h2, h2d, aK, aJ, aL, aY, h3, h3d, h14, h14d, h15, h15d, Nat.add_assoc, Option.isNone_some.{0}, Option.isNone_none.{0}, ar, ak, al, au, simprocAttr, ax, ay, Function.comp_apply, one1, lenV, af, am, ap, aop, AV.ofValue, AV.ofCell, AV.cells, AV.flat, AV.one, arep, aB, aw]
       repeat refine And.intro (by omega) ?_
       refine bL (by kernel_rfl) (by simp) (gm _ W Hh (.sl (some (H.length, 0)) ks2.length none) ks2 (.sl (some (H.length + 1, 0)) Q2.length none) Q2 tu le sl ra true _ ⟨_, _, _, by first | rfl | (rw [List.length_append]; done) | (rw [List.length_append]; rfl), by first | rfl | (rw [ah]; rfl) | (rw [ae]; rfl) | (rw [ah, ag]; rfl) | (rw [ae, ag]; rfl)⟩ ⟨_, _, _, by first | rfl | (rw [List.length_append]; done) | (rw [List.length_append]; rfl), by first | rfl | (rw [ah]; rfl) | (rw [ae]; rfl) | (rw [ah, ag]; rfl) | (rw [ae, ag]; rfl)⟩ ⟨_, by first | rfl | (rw [ah]; rfl) | (rw [ae]; rfl) | (rw [ae])⟩ (by omega) (by omega)) ?_
       simp -implicitDefEqProofs (disch := omega) only [hbpp, hb0pp, hbs, hb0s, hbev, hb0ev, h1, h1d, h2, h2d, aK, aJ, aL, aY, h3, h3d, h14, h14d, h15, h15d, Nat.add_assoc, Option.isNone_some.{0}, Option.isNone_none.{0}, ar, ak, al, au, simprocAttr, ax, ay, Function.comp_apply, one1, lenV, af, am, ap, aop, AV.ofValue, AV.ofCell, AV.cells, AV.flat, AV.one, arep, aB, aw]
       repeat refine And.intro (by omega) ?_
       refine aP (by kernel_rfl) (ky _ W Hh W Hh ks ks2 _ _ ⟨_, _, _, by first | rfl | (rw [List.length_append]; done) | (rw [List.length_append]; rfl), by first | rfl | (rw [ah]; rfl) | (rw [ae]; rfl) | (rw [ah, ag]; rfl) | (rw [ae, ag]; rfl)⟩ ⟨_, _, _, by first | rfl | (rw [List.length_append]; done) | (rw [List.length_append]; rfl), by first | rfl | (rw [ah]; rfl) | (rw [ae]; rfl) | (rw [ah, ag]; rfl) | (rw [ae, ag]; rfl)⟩ (by first | rfl | assumption) (by first | rfl | assumption) (by first | rfl | assumption)) ?_
       simp -implicitDefEqProofs (disch := omega) only [hbpp, hb0pp, hbs, hb0s, hbev, hb0ev, h1, h1d, h2, h2d, aK, aJ, aL, aY, h3, h3d, h14, h14d, h15, h15d, Nat.add_assoc, Option.isNone_some.{0}, Option.isNone_none.{0}, ar, ak, al, au, simprocAttr, ax, ay, Function.comp_apply, one1, lenV, af, am, ap, aop, AV.ofValue, AV.ofCell, AV.cells, AV.flat, AV.one, arep, aB, aw]
       repeat refine And.intro (by omega) ?_
       refine az (fun h16 => ?_) (fun h16 => ?_)
       ·have h16d := bsT h16
        have h16n := bnT h16
        simp -implicitDefEqProofs (disch := omega) only [hbpp, hb0pp, hbs, hb0s, hbev, hb0ev, h1, h1d, h2, h2d, aK, aJ, aL, aY, h3, h3d, h14, h14d, h15, h15d, h16, h16n, aT, aS, Nat.add_assoc, Option.isNone_some.{0}, Option.isNone_none.{0}, ar, ak, al, au, simprocAttr, ax, ay, Function.comp_apply, one1, lenV, af, am, ap, aop, AV.ofValue, AV.ofCell, AV.cells, AV.flat, AV.one, arep, aB, aw]
        repeat refine And.intro (by omega) ?_
        refine az (fun h17 => ?_) (fun h17 => ?_)
        ·have h17d := bsT h17
         have h17n := bnT h17
         simp -implicitDefEqProofs (disch := omega) only [hbpp, hb0pp, hbs, hb0s, hbev, hb0ev, h1, h1d, h2, h2d, aK, aJ, aL, aY, h3, h3d, h14, h14d, h15, h15d, h16, h16n, aT, aS, h17, h17n, Nat.add_assoc, Option.isNone_some.{0}, Option.isNone_none.{0}, ar, ak, al, au, simprocAttr, ax, ay, Function.comp_apply, one1, lenV, af, am, ap, aop, AV.ofValue, AV.ofCell, AV.cells, AV.flat, AV.one, arep, aB, aw]
         repeat refine And.intro (by omega) ?_
         refine az (fun h18 => ?_) (fun h18 => ?_)
         ·have h18d := bsT h18
          have h18n := bnT h18
          simp -implicitDefEqProofs (disch := omega) only [hbpp, hb0pp, hbs, hb0s, hbev, hb0ev, h1, h1d, h2, h2d, aK, aJ, aL, aY, h3, h3d, h14, h14d, h15, h15d, h16, h16n, aT, aS, h17, h17n, h18, h18n, Nat.add_assoc, Option.isNone_some.{0}, Option.isNone_none.{0}, ar, ak, al, au, simprocAttr, ax, ay, Function.comp_apply, one1, lenV, af, am, ap, aop, AV.ofValue, AV.ofCell, AV.cells, AV.flat, AV.one, arep, aB, aw]
          repeat refine And.intro (by omega) ?_
          refine aq (fun h19 => ?_) (fun h19 => ?_)
          ·have h19d := bsT h19
           have h19n := bnT h19
           omega
          ·have h19d := bsT h19
           have h19n := bnT h19
           simp -implicitDefEqProofs (disch := omega) only [hbpp, hb0pp, hbs, hb0s, hbev, hb0ev, h1, h1d, h2, h2d, aK, aJ, aL, aY, h3, h3d, h14, h14d, h15, h15d, h16, h16n, aT, aS, h17, h17n, h18, h18n, h19, h19n, Nat.add_assoc, Option.isNone_some.{0}, Option.isNone_none.{0}, ar, ak, al, au, simprocAttr, ax, ay, Function.comp_apply, one1, lenV, af, am, ap, aop, AV.ofValue, AV.ofCell, AV.cells, AV.flat, AV.one, arep, aB, aw]
           repeat refine And.intro (by omega) ?_
           refine hn11 _ _ ?_
           refine hn10 _ _ ?_
           refine aI false try_mixed (by kernel_rfl) ?_
           simp -implicitDefEqProofs (disch := omega) only [hbpp, hb0pp, hbs, hb0s, hbev, hb0ev, h1, h1d, h2, h2d, aK, aJ, aL, aY, h3, h3d, h14, h14d, h15, h15d, h16, h16n, aT, aS, h17, h17n, h18, h18n, h19, h19n, Nat.add_assoc, Option.isNone_some.{0}, Option.isNone_none.{0}, ar, ak, al, au, simprocAttr, ax, ay, Function.comp_apply, one1, lenV, af, am, ap, aop, AV.ofValue, AV.ofCell, AV.cells, AV.flat, AV.one, arep, aB, aw]
           repeat refine And.intro (by omega) ?_
           refine hJ0 _ _ ⟨k0 - 1, by omega, _, _, _, ⟨i + 1, ks2, Q2, lo2, by omega, hkV2, hkn2, hS2, h02, rfl, rfl⟩, Abs.byG hbel [] rfl [0, 1, 2] (by decide) ?_⟩
           exact aN (jn @hlo2 (jn @bg (jn @be (jn @bt @bo))))
         ·have h18d := bsT h18
          have h18n := bnT h18
          simp -implicitDefEqProofs (disch := omega) only [hbpp, hb0pp, hbs, hb0s, hbev, hb0ev, h1, h1d, h2, h2d, aK, aJ, aL, aY, h3, h3d, h14, h14d, h15, h15d, h16, h16n, aT, aS, h17, h17n, h18, h18n, Nat.add_assoc, Option.isNone_some.{0}, Option.isNone_none.{0}, ar, ak, al, au, simprocAttr, ax, ay, Function.comp_apply, one1, lenV, af, am, ap, aop, AV.ofValue, AV.ofCell, AV.cells, AV.flat, AV.one, arep, aB, aw]
          repeat refine And.intro (by omega) ?_
          refine hn11 _ _ ?_
          refine hn10 _ _ ?_
          refine aI false try_mixed (by kernel_rfl) ?_
          simp -implicitDefEqProofs (disch := omega) only [hbpp, hb0pp, hbs, hb0s, hbev, hb0ev, h1, h1d, h2, h2d, aK, aJ, aL, aY, h3, h3d, h14, h14d, h15, h15d, h16, h16n, aT, aS, h17, h17n, h18, h18n, Nat.add_assoc, Option.isNone_some.{0}, Option.isNone_none.{0}, ar, ak, al, au, simprocAttr, ax, ay, Function.comp_apply, one1, lenV, af, am, ap, aop, AV.ofValue, AV.ofCell, AV.cells, AV.flat, AV.one, arep, aB, aw]
          repeat refine And.intro (by omega) ?_
          refine hJ0 _ _ ⟨k0 - 1, by omega, _, _, _, ⟨i + 1, ks2, Q2, lo2, by omega, hkV2, hkn2, hS2, h02, rfl, rfl⟩, Abs.byG hbel [] rfl [0, 1, 2] (by decide) ?_⟩
          exact aN (jn @hlo2 (jn @bg (jn @be (jn @bt @bo))))
        ·have h17d := bsT h17
         have h17n := bnT h17
         omega
       ·have h16d := bsT h16
        have h16n := bnT h16
        simp -implicitDefEqProofs (disch := omega) only [hbpp, hb0pp, hbs, hb0s, hbev, hb0ev, h1, h1d, h2, h2d, aK, aJ, aL, aY, h3, h3d, h14, h14d, h15, h15d, h16, h16n, aT, aS, Nat.add_assoc, Option.isNone_some.{0}, Option.isNone_none.{0}, ar, ak, al, au, simprocAttr, ax, ay, Function.comp_apply, one1, lenV, af, am, ap, aop, AV.ofValue, AV.ofCell, AV.cells, AV.flat, AV.one, arep, aB, aw]
        repeat refine And.intro (by omega) ?_
        refine az (fun h20 => ?_) (fun h20 => ?_)
        ·have h20d := bsT h20
         have h20n := bnT h20
         simp -implicitDefEqProofs (disch := omega) only [hbpp, hb0pp, hbs, hb0s, hbev, hb0ev, h1, h1d, h2, h2d, aK, aJ, aL, aY, h3, h3d, h14, h14d, h15, h15d, h16, h16n, aT, aS, h20, h20n, Nat.add_assoc, Option.isNone_some.{0}, Option.isNone_none.{0}, ar, ak, al, au, simprocAttr, ax, ay, Function.comp_apply, one1, lenV, af, am, ap, aop, AV.ofValue, AV.ofCell, AV.cells, AV.flat, AV.one, arep, aB, aw]
         repeat refine And.intro (by omega) ?_
         refine aq (fun h21 => ?_) (fun h21 => ?_)
         ·have h21d := bsT h21
          have h21n := bnT h21
          omega
         ·have h21d := bsT h21
          have h21n := bnT h21
          simp -implicitDefEqProofs (disch := omega) only [hbpp, hb0pp, hbs, hb0s, hbev, hb0ev, h1, h1d, h2, h2d, aK, aJ, aL, aY, h3, h3d, h14, h14d, h15, h15d, h16, h16n, aT, aS, h20, h20n, h21, h21n, Nat.add_assoc, Option.isNone_some.{0}, Option.isNone_none.{0}, ar, ak, al, au, simprocAttr, ax, ay, Function.comp_apply, one1, lenV, af, am, ap, aop, AV.ofValue, AV.ofCell, AV.cells, AV.flat, AV.one, arep, aB, aw]
          repeat refine And.intro (by omega) ?_
          refine hn11 _ _ ?_
          refine hn10 _ _ ?_
          refine aI false try_mixed (by kernel_rfl) ?_
          simp -implicitDefEqProofs (disch := omega) only [hbpp, hb0pp, hbs, hb0s, hbev, hb0ev, h1, h1d, h2, h2d, aK, aJ, aL, aY, h3, h3d, h14, h14d, h15, h15d, h16, h16n, aT, aS, h20, h20n, h21, h21n, Nat.add_assoc, Option.isNone_some.{0}, Option.isNone_none.{0}, ar, ak, al, au, simprocAttr, ax, ay, Function.comp_apply, one1, lenV, af, am, ap, aop, AV.ofValue, AV.ofCell, AV.cells, AV.flat, AV.one, arep, aB, aw]
          repeat refine And.intro (by omega) ?_
          refine hJ0 _ _ ⟨k0 - 1, by omega, _, _, _, ⟨i + 1, ks2, Q2, lo2, by omega, hkV2, hkn2, hS2, h02, rfl, rfl⟩, Abs.byG hbel [] rfl [0, 1, 2] (by decide) ?_⟩
          exact aN (jn @hlo2 (jn @bg (jn @be (jn @bt @bo))))
        ·have h20d := bsT h20
         have h20n := bnT h20
         simp -implicitDefEqProofs (disch := omega) only [hbpp, hb0pp, hbs, hb0s, hbev, hb0ev, h1, h1d, h2, h2d, aK, aJ, aL, aY, h3, h3d, h14, h14d, h15, h15d, h16, h16n, aT, aS, h20, h20n, Nat.add_assoc, Option.isNone_some.{0}, Option.isNone_none.{0}, ar, ak, al, au, simprocAttr, ax, ay, Function.comp_apply, one1, lenV, af, am, ap, aop, AV.ofValue, AV.ofCell, AV.cells, AV.flat, AV.one, arep, aB, aw]
         repeat refine And.intro (by omega) ?_
         refine hn11 _ _ ?_
         refine hn10 _ _ ?_
         refine aI false try_mixed (by kernel_rfl) ?_
         simp -implicitDefEqProofs (disch := omega) only [hbpp, hb0pp, hbs, hb0s, hbev, hb0ev, h1, h1d, h2, h2d, aK, aJ, aL, aY, h3, h3d, h14, h14d, h15, h15d, h16, h16n, aT, aS, h20, h20n, Nat.add_assoc, Option.isNone_some.{0}, Option.isNone_none.{0}, ar, ak, al, au, simprocAttr, ax, ay, Function.comp_apply, one1, lenV, af, am, ap, aop, AV.ofValue, AV.ofCell, AV.cells, AV.flat, AV.one, arep, aB, aw]
         repeat refine And.intro (by omega) ?_
         refine hJ0 _ _ ⟨k0 - 1, by omega, _, _, _, ⟨i + 1, ks2, Q2, lo2, by omega, hkV2, hkn2, hS2, h02, rfl, rfl⟩, Abs.byG hbel [] rfl [0, 1, 2] (by decide) ?_⟩
         exact aN (jn @hlo2 (jn @bg (jn @be (jn @bt @bo))))
      ·have h15d := bsT h15
       exact absurd (hlo2.symm.trans h15d) (by decide)
     ·have h14d := bsT h14
      have hloF := h14d
      simp -implicitDefEqProofs (disch := omega) only [hbpp, hb0pp, hbs, hb0s, hbev, hb0ev, h1, h1d, h2, h2d, aK, aJ, aL, aY, h3, h3d, h14, h14d, Nat.add_assoc, Option.isNone_some.{0}, Option.isNone_none.{0}, ar, ak, al, au, simprocAttr, ax, ay, Function.comp_apply, one1, lenV, af, am, ap, aop, AV.ofValue, AV.ofCell, AV.cells, AV.flat, AV.one, arep, aB, aw]
      repeat refine And.intro (by omega) ?_
      refine hn11 _ _ ?_
      refine hn10 _ _ ?_
      refine aI false try_mixed (by kernel_rfl) ?_
      simp -implicitDefEqProofs (disch := omega) only [hbpp, hb0pp, hbs, hb0s, hbev, hb0ev, h1, h1d, h2, h2d, aK, aJ, aL, aY, h3, h3d, h14, h14d, Nat.add_assoc, Option.isNone_some.{0}, Option.isNone_none.{0}, ar, ak, al, au, simprocAttr, ax, ay, Function.comp_apply, one1, lenV, af, am, ap, aop, AV.ofValue, AV.ofCell, AV.cells, AV.flat, AV.one, arep, aB, aw]
      repeat refine And.intro (by omega) ?_
      refine hJ0 _ _ ⟨k0 - 1, by omega, _, _, _, ⟨i + 1, ks2, Q2, lo2, by omega, hkV2, hkn2, hS2, h02, rfl, rfl⟩, Abs.byG hbel [] rfl [0, 1, 2] (by decide) ?_⟩
      exact aN (jn @bg (jn @be (jn @bt @bo)))
    ·have h3d := bsT h3
     simp -implicitDefEqProofs (disch := omega) only [hbpp, hb0pp, hbs, hb0s, hbev, hb0ev, h1, h1d, h2, h2d, aK, aJ, aL, aY, h3, h3d, Nat.add_assoc, Option.isNone_some.{0}, Option.isNone_none.{0}, ar, ak, al, au, simprocAttr, ax, ay, Function.comp_apply, one1, lenV, af, am, ap, aop, AV.ofValue, AV.ofCell, AV.cells, AV.flat, AV.one, arep, aB, aw]
     repeat refine And.intro (by omega) ?_
     refine he9 _ _ _ ?_
     refine he8 _ _ _ ?_
     refine hb7 _ _ ?_
     refine hn5 _ _ ?_
     refine AW_join false try_mixed (by kernel_rfl) (fun F2 H2 => (True) ∧ F2 = [(1, .sl (some (bs, 0)) l.length cs), (7, .ptr (some (H.length + 4, 0))), (15, .ptr (some (H.length + 3, 0)))] ∧ H2 = H ++ [.cells true 1 (ints .u8 ks), .cells true 6 (r6 Q), .cells true 1 (ints .u8 ks), .cells true 0 [.int .i64 W, .int .i64 Hh, .sl (some (H.length + 2, 0)) ks.length none], .cells true 0 [.int .i64 W, .int .i64 Hh, .sl (some (H.length, 0)) ks.length none, .sl (some (H.length + 1, 0)) Q.length none, .int .i64 tu, .int .i64 le, .int .i64 sl, .int .i64 ra, .bool lo]]) ?_ ?_
     ·intro J hJ
      simp -implicitDefEqProofs (disch := omega) only [hbpp, hb0pp, hbs, hb0s, hbev, hb0ev, h1, h1d, h2, h2d, aK, aJ, aL, aY, h3, h3d, Nat.add_assoc, Option.isNone_some.{0}, Option.isNone_none.{0}, ar, ak, al, au, simprocAttr, ax, ay, Function.comp_apply, one1, lenV, af, am, ap, aop, AV.ofValue, AV.ofCell, AV.cells, AV.flat, AV.one, arep, aB, aw]
      repeat refine And.intro (by omega) ?_
      refine aj (by kernel_rfl) (gm _ W Hh (.sl (some (H.length, 0)) ks.length none) ks (.sl (some (H.length + 1, 0)) Q.length none) Q tu le sl ra lo _ ⟨_, _, _, by first | rfl | (rw [List.length_append]; done) | (rw [List.length_append]; rfl), by first | rfl | (rw [ah]; rfl) | (rw [ae]; rfl) | (rw [ah, ag]; rfl) | (rw [ae, ag]; rfl)⟩ ⟨_, _, _, by first | rfl | (rw [List.length_append]; done) | (rw [List.length_append]; rfl), by first | rfl | (rw [ah]; rfl) | (rw [ae]; rfl) | (rw [ah, ag]; rfl) | (rw [ae, ag]; rfl)⟩ ⟨_, by first | rfl | (rw [ah]; rfl) | (rw [ae]; rfl) | (rw [ae])⟩ (by omega) (by omega)) ?_
      simp -implicitDefEqProofs (disch := omega) only [hbpp, hb0pp, hbs, hb0s, hbev, hb0ev, h1, h1d, h2, h2d, aK, aJ, aL, aY, h3, h3d, Nat.add_assoc, Option.isNone_some.{0}, Option.isNone_none.{0}, ar, ak, al, au, simprocAttr, ax, ay, Function.comp_apply, one1, lenV, af, am, ap, aop, AV.ofValue, AV.ofCell, AV.cells, AV.flat, AV.one, arep, aB, aw]
      repeat refine And.intro (by omega) ?_
      refine aZ (hJ _ _ ⟨_, _, _, ⟨trivial, rfl, rfl⟩, Abs.byG hbel [] rfl [0, 1, 3, 4, 2] (by decide) ?_⟩)
      exact aN (jn @bg (jn @be (jn @bt @bo)))
     rintro F2 H2 ⟨pz, rfl, rfl⟩
     refine tZ false try_mixed (by kernel_rfl) (H.length + 4) (by simp) (fun F2 H2 => (True) ∧ F2 = [(6, .bool true)] ∧ H2 = H) ?_ ?_
     ·intro J hJ
      simp -implicitDefEqProofs (disch := omega) only [hbpp, hb0pp, hbs, hb0s, hbev, hb0ev, h1, h1d, h2, h2d, aK, aJ, aL, aY, h3, h3d, Nat.add_assoc, Option.isNone_some.{0}, Option.isNone_none.{0}, ar, ak, al, au, simprocAttr, ax, ay, Function.comp_apply, one1, lenV, af, am, ap, aop, AV.ofValue, AV.ofCell, AV.cells, AV.flat, AV.one, arep, aB, aw]
      repeat refine And.intro (by omega) ?_
      refine call_w (by kernel_rfl) (by simp) (fun b h1 h2 => by first | exact pN (by omega) h1 h2 | exact lI (by omega) h1) (lrs_y _ W Hh (.sl (some (H.length, 0)) ks.length none) ks (.sl (some (H.length + 1, 0)) Q.length none) Q tu le sl ra lo _ _ l ⟨_, _, _, by first | rfl | (rw [List.length_append]; done) | (rw [List.length_append]; rfl), by first | rfl | (rw [ah]; rfl) | (rw [ae]; rfl) | (rw [ah, ag]; rfl) | (rw [ae, ag]; rfl)⟩ ⟨_, _, _, by first | rfl | (rw [List.length_append]; done) | (rw [List.length_append]; rfl), by first | rfl | (rw [ah]; rfl) | (rw [ae]; rfl) | (rw [ah, ag]; rfl) | (rw [ae, ag]; rfl)⟩ (by first | rfl | (rw [ah]; rfl) | (rw [ae]; rfl) | (rw [ae])) ⟨_, _, _, rfl, by first | exact hb0s _ | exact hbs⟩ (by assumption)) ?_
      simp -implicitDefEqProofs (disch := omega) only [hbpp, hb0pp, hbs, hb0s, hbev, hb0ev, h1, h1d, h2, h2d, aK, aJ, aL, aY, h3, h3d, Nat.add_assoc, Option.isNone_some.{0}, Option.isNone_none.{0}, ar, ak, al, au, simprocAttr, ax, ay, Function.comp_apply, one1, lenV, af, am, ap, aop, AV.ofValue, AV.ofCell, AV.cells, AV.flat, AV.one, arep, aB, aw]
      repeat refine And.intro (by omega) ?_
      refine aP (by kernel_rfl) (gl _ W Hh (.sl (some (H.length, 0)) ks.length none) ks (.sl (some (H.length + 5, 0)) l.length none) l tu le sl ra false _ ⟨_, _, _, by first | rfl | (rw [List.length_append]; done) | (rw [List.length_append]; rfl), by first | rfl | (rw [ah]; rfl) | (rw [ae]; rfl) | (rw [ah, ag]; rfl) | (rw [ae, ag]; rfl)⟩ ⟨_, _, _, by first | rfl | (rw [List.length_append]; done) | (rw [List.length_append]; rfl), by first | rfl | (rw [ah]; rfl) | (rw [ae]; rfl) | (rw [ah, ag]; rfl) | (rw [ae, ag]; rfl)⟩ ⟨_, by first | rfl | (rw [ah]; rfl) | (rw [ae]; rfl) | (rw [ae])⟩) ?_
      simp -implicitDefEqProofs (disch := omega) only [hbpp, hb0pp, hbs, hb0s, hbev, hb0ev, h1, h1d, h2, h2d, aK, aJ, aL, aY, h3, h3d, Nat.add_assoc, Option.isNone_some.{0}, Option.isNone_none.{0}, ar, ak, al, au, simprocAttr, ax, ay, Function.comp_apply, one1, lenV, af, am, ap, aop, AV.ofValue, AV.ofCell, AV.cells, AV.flat, AV.one, arep, aB, aw]
      repeat refine And.intro (by omega) ?_
      refine bL (by kernel_rfl) (by simp) (i7 _ W Hh (.sl (some (H.length, 0)) ks.length none) ks (.sl (some (H.length + 5, 0)) l.length none) l tu le sl ra false _ ⟨_, _, _, by first | rfl | (rw [List.length_append]; done) | (rw [List.length_append]; rfl), by first | rfl | (rw [ah]; rfl) | (rw [ae]; rfl) | (rw [ah, ag]; rfl) | (rw [ae, ag]; rfl)⟩ ⟨_, _, _, by first | rfl | (rw [List.length_append]; done) | (rw [List.length_append]; rfl), by first | rfl | (rw [ah]; rfl) | (rw [ae]; rfl) | (rw [ah, ag]; rfl) | (rw [ae, ag]; rfl)⟩ ⟨_, by first | rfl | (rw [ah]; rfl) | (rw [ae]; rfl) | (rw [ae])⟩ (by omega) (by assumption)) ?_
      simp -implicitDefEqProofs (disch := omega) only [hbpp, hb0pp, hbs, hb0s, hbev, hb0ev, h1, h1d, h2, h2d, aK, aJ, aL, aY, h3, h3d, Nat.add_assoc, Option.isNone_some.{0}, Option.isNone_none.{0}, ar, ak, al, au, simprocAttr, ax, ay, Function.comp_apply, one1, lenV, af, am, ap, aop, AV.ofValue, AV.ofCell, AV.cells, AV.flat, AV.one, arep, aB, aw]
      repeat refine And.intro (by omega) ?_
      refine aP (by kernel_rfl) (bxs_e _ _ l _ l (by first | rfl | assumption) ⟨_, _, _, by first | rfl | (rw [List.length_append]; done) | (rw [List.length_append]; rfl), by first | rfl | (rw [ah]; rfl) | (rw [ae]; rfl) | (rw [ah, ag]; rfl) | (rw [ae, ag]; rfl)⟩ ⟨_, _, _, rfl, by first | exact hb0s _ | exact hbs⟩ (by omega)) ?_
      simp -implicitDefEqProofs (disch := omega) only [hbpp, hb0pp, hbs, hb0s, hbev, hb0ev, h1, h1d, h2, h2d, aK, aJ, aL, aY, h3, h3d, Nat.add_assoc, Option.isNone_some.{0}, Option.isNone_none.{0}, ar, ak, al, au, simprocAttr, ax, ay, Function.comp_apply, one1, lenV, af, am, ap, aop, AV.ofValue, AV.ofCell, AV.cells, AV.flat, AV.one, arep, aB, aw]
      repeat refine And.intro (by omega) ?_
      refine bL (by kernel_rfl) (by simp) (gm _ W Hh (.sl (some (H.length, 0)) ks.length none) ks (.sl (some (H.length + 5, 0)) l.length none) l tu le sl ra false _ ⟨_, _, _, by first | rfl | (rw [List.length_append]; done) | (rw [List.length_append]; rfl), by first | rfl | (rw [ah]; rfl) | (rw [ae]; rfl) | (rw [ah, ag]; rfl) | (rw [ae, ag]; rfl)⟩ ⟨_, _, _, by first | rfl | (rw [List.length_append]; done) | (rw [List.length_append]; rfl), by first | rfl | (rw [ah]; rfl) | (rw [ae]; rfl) | (rw [ah, ag]; rfl) | (rw [ae, ag]; rfl)⟩ ⟨_, by first | rfl | (rw [ah]; rfl) | (rw [ae]; rfl) | (rw [ae])⟩ (by omega) (by omega)) ?_
      simp -implicitDefEqProofs (disch := omega) only [hbpp, hb0pp, hbs, hb0s, hbev, hb0ev, h1, h1d, h2, h2d, aK, aJ, aL, aY, h3, h3d, Nat.add_assoc, Option.isNone_some.{0}, Option.isNone_none.{0}, ar, ak, al, au, simprocAttr, ax, ay, Function.comp_apply, one1, lenV, af, am, ap, aop, AV.ofValue, AV.ofCell, AV.cells, AV.flat, AV.one, arep, aB, aw]
      repeat refine And.intro (by omega) ?_
      refine aP (by kernel_rfl) (ky _ W Hh W Hh ks ks _ _ ⟨_, _, _, by first | rfl | (rw [List.length_append]; done) | (rw [List.length_append]; rfl), by first | rfl | (rw [ah]; rfl) | (rw [ae]; rfl) | (rw [ah, ag]; rfl) | (rw [ae, ag]; rfl)⟩ ⟨_, _, _, by first | rfl | (rw [List.length_append]; done) | (rw [List.length_append]; rfl), by first | rfl | (rw [ah]; rfl) | (rw [ae]; rfl) | (rw [ah, ag]; rfl) | (rw [ae, ag]; rfl)⟩ (by first | rfl | assumption) (by first | rfl | assumption) (by first | rfl | assumption)) ?_
      simp -implicitDefEqProofs (disch := omega) only [hbpp, hb0pp, hbs, hb0s, hbev, hb0ev, h1, h1d, h2, h2d, aK, aJ, aL, aY, h3, h3d, Nat.add_assoc, Option.isNone_some.{0}, Option.isNone_none.{0}, ar, ak, al, au, simprocAttr, ax, ay, Function.comp_apply, one1, lenV, af, am, ap, aop, AV.ofValue, AV.ofCell, AV.cells, AV.flat, AV.one, arep, aB, aw]
      repeat refine And.intro (by omega) ?_
      refine aZ (hJ _ _ ⟨_, _, _, ⟨trivial, rfl, rfl⟩, Abs.byN hbel ?_⟩)
      exact bj
     rintro F2 H2 ⟨pz, rfl, rfl⟩
     refine aI false try_mixed (by kernel_rfl) ?_
     simp -implicitDefEqProofs (disch := omega) only [hbpp, hb0pp, hbs, hb0s, hbev, hb0ev, h1, h1d, h2, h2d, aK, aJ, aL, aY, h3, h3d, Nat.add_assoc, Option.isNone_some.{0}, Option.isNone_none.{0}, ar, ak, al, au, simprocAttr, ax, ay, Function.comp_apply, one1, lenV, af, am, ap, aop, AV.ofValue, AV.ofCell, AV.cells, AV.flat, AV.one, arep, aB, aw]
     repeat refine And.intro (by omega) ?_
     exact hQ _ _ (aE (.inl rfl) hbel (x := .bool true) (av Tryz.results5) rfl ⟨by first | rfl | simp, rfl⟩)
  ·have h2d := h2
   refine aP (by kernel_rfl) (lnew_n _ W Hh _ xs _ l tu le sl ra ⟨_, _, _, rfl, by first | exact hb0pp _ | exact hbpp⟩ ⟨_, _, _, rfl, by first | exact hb0s _ | exact hbs⟩ (by omega) (by assumption)) ?_
   simp -implicitDefEqProofs (disch := omega) only [hbpp, hb0pp, hbs, hb0s, hbev, hb0ev, h1, h1d, h2, h2d, Nat.add_assoc, Option.isNone_some.{0}, Option.isNone_none.{0}, ar, ak, al, au, simprocAttr, ax, ay, Function.comp_apply, one1, lenV, af, am, ap, aop, AV.ofValue, AV.ofCell, AV.cells, AV.flat, AV.one, arep, aB, aw]
   repeat refine And.intro (by omega) ?_
   refine hn3 _ _ ?_
   refine aO fun Q15 hn15 hr15 he15 => ?_
   have hQ15 := fun F H' h => hr15 F H' (hQ F H' h)
   refine aI false try_mixed (by kernel_rfl) ?_
   simp -implicitDefEqProofs (disch := omega) only [hbpp, hb0pp, hbs, hb0s, hbev, hb0ev, h1, h1d, h2, h2d, Nat.add_assoc, Option.isNone_some.{0}, Option.isNone_none.{0}, ar, ak, al, au, simprocAttr, ax, ay, Function.comp_apply, one1, lenV, af, am, ap, aop, AV.ofValue, AV.ofCell, AV.cells, AV.flat, AV.one, arep, aB, aw]
   repeat refine And.intro (by omega) ?_
   exact hQ15 _ _ (ai (.inl rfl) hbel (x := .bool true) (av Tryz.results5) rfl ⟨by first | rfl | simp, rfl⟩)
open Go.RowKit
set_option maxRecDepth 100000 in
theorem lJ (H : ac) (xs : List AV) (hn : xs.length = 3) (hy : ∀ (j : Nat) (t : TypeId) (x : AV), [24, 31, 63][j]? = some t → xs[j]? = some x → ATy Tryz.prog H 9 t x) : ACalls Tryz.prog 5 xs H (fun v H' => v = .bool true ∧ H' = H) := by
 match xs, hn, hy with
 | [a0, a1, a2], _, hy =>
  obtain ⟨ys0, e0, r0_0⟩ := (hy 0 _ a0 rfl rfl).agg (ls := [3, 3, 22]) (by kernel_rfl) (by kernel_rfl)
  obtain ⟨y0_0, q0_0, rfl, t0_0, r0_1⟩ := r0_0.cons
  obtain ⟨z1, rfl, w1⟩ := t0_0.int (k := .i64) (by kernel_rfl)
  obtain ⟨y0_1, q0_1, rfl, t0_1, r0_2⟩ := r0_1.cons
  obtain ⟨z2, rfl, w2⟩ := t0_1.int (k := .i64) (by kernel_rfl)
  obtain ⟨y0_2, q0_2, rfl, t0_2, r0_3⟩ := r0_2.cons
  obtain ⟨l3, s3, m3, w3⟩ := t0_2.intsU (n := 7) (t := 22) (e := 5) (by kernel_rfl) (by kernel_rfl) (by kernel_rfl)
  obtain rfl := r0_3.nil
  subst e0
  have t1 := (hy 1 _ a1 rfl rfl).one (by kernel_rfl) (by kernel_rfl)
  obtain ⟨l4, s4, m4, w4⟩ := t1.rec6 (n := 7) (t := 31) (e := 73) (t1 := 3) (t2 := 3) (t3 := 3) (t4 := 3) (t5 := 3) (t6 := 3) (by kernel_rfl) (by kernel_rfl) (by kernel_rfl) (by kernel_rfl) (by kernel_rfl) (by kernel_rfl) (by kernel_rfl) (by kernel_rfl)
  have t2 := (hy 2 _ a2 rfl rfl).one (by kernel_rfl) (by kernel_rfl)
  obtain ⟨l5, s5, m5, w5⟩ := t2.e5s (n := 6) (t := 63) (e := 50) (ti := 3) (tb := 4) (ts := 48) (te := 75) (u := 3) (v := 3) (by kernel_rfl) (by kernel_rfl) (by kernel_rfl) (by kernel_rfl) (by kernel_rfl) (by kernel_rfl) (by kernel_rfl) (by kernel_rfl)
  exact lkp_c H z1 z2 _ l3 _ l4 _ l5 s3 s4 s5 (fun z hz => (wf_u8 (w3 z hz)).1) (by have q := m4; unfold maxLen at q; exact q) (by have q := m5; unfold maxLen at q; exact q) w5
section
open Go.ChangeShapes Go.WideShapes Go.ChangeAt Go.RowKit Go.Joins
open Go.ChangeMaps (open_string shut_string)
set_option maxRecDepth 100000 in
theorem i8 (os : Os) (started : os.Started) (H : Type) (enc : TypeId × Value → H) :
  ReturnsInHanded {} Tryz.checked os 5 .any (Rows.locateKeepsSpec.pre6 enc Tryz.prog Tryz.f5 Rows.locateKeepsRow.domain false) (Rows.locateKeepsSpec.post enc Tryz.prog Tryz.f5 false true false false) := by
 refine returnsInHanded_of_change (C := Tryz.checked) own started (by kernel_rfl) Tryz.func5
  (ChangeSpec.witness6 (enc := enc) (C := Tryz.checked) false ⟨#[], #[.agg #[.int .i64 0, .int .i64 0, .slice none 0 0], .slice none 0 0, .slice none 0 0], []⟩ 8 (by kernel_rfl) (by kernel_rfl) (by kernel_rfl) (by kernel_rfl)) ?_
 intro W base args ds gs before hval0 hW hcnd _
 have hval : ∀ (j : Nat) t v, Tryz.f5.params[j]? = some t → args[j]? = some v → Value.okWide Tryz.prog W .any base t v := hval0
 have hW' := hW
 obtain ⟨p, q, hA0, hV, rfl, hfz, hnd⟩ := hW
 have hA : DataW.TrodAll enc Tryz.prog W 0 (fun _ => true) true Tryz.f5.params.toList args.toList ds p := hA0
 rw [Tryz.params5] at hA hval
 have hwalk := calls_top (n := 9) (f := 5) hA (fun j t v a b => hval j t v (by simpa using a) (by simpa using b)) (by kernel_rfl) (fun H xs hn hy => lJ H xs hn hy)
 rw [Array.toArray_toList] at hwalk
 obtain ⟨v0, vs0, d0, ds0, p0, q0, hargs, rfl, rfl, h0, r0⟩ := trodAll_cons hA
 obtain ⟨v1, vs1, d1, ds1, p1, q1, rfl, rfl, rfl, h1, r1⟩ := trodAll_cons r0
 obtain ⟨v2, vs2, d2, ds2, p2, q2, rfl, rfl, rfl, h2, r2⟩ := trodAll_cons r1
 obtain ⟨rfl, rfl, rfl⟩ := trodAll_nil r2
 obtain rfl : args = #[v0, v1, v2] := by cases args; simp_all
 obtain ⟨rfl, rfl⟩ := trodVars_none hV
 have k0 := h0
 have lt0 : ∀ x ∈ p0, x.block < W.heap.size := by obtain ⟨m, hm⟩ := k0; exact DataW.trod_lt m _ _ _ hm
 have k1 := h1
 have lt1 : ∀ x ∈ p1, x.block < W.heap.size := by obtain ⟨m, hm⟩ := k1; exact DataW.trod_lt m _ _ _ hm
 have k2 := h2
 have lt2 : ∀ x ∈ p2, x.block < W.heap.size := by obtain ⟨m, hm⟩ := k2; exact DataW.trod_lt m _ _ _ hm
 clear hA0 hval0
 refine hwalk.mono fun e W' ⟨he, bel⟩ => ?_
 subst he
 exact ⟨_, rfl, _, _, _, [], _, [], hW', trodAll_mk1 (shut_bool Tryz.underlying4 _), (trodAll_cons_mk (Below.trod jh (by kernel_rfl) (of_decide_eq_true (by kernel_rfl)) k0 bel lt0) (trodAll_cons_mk (Below.trod jh (by kernel_rfl) (of_decide_eq_true (by kernel_rfl)) k1 bel lt1) (trodAll_cons_mk (Below.trod jh (by kernel_rfl) (of_decide_eq_true (by kernel_rfl)) k2 bel lt2) trodAll_mk0))), rfl, bel.frame _, fun h => by cases h⟩
theorem cr {a b : Bool} (h : a = true) (k : b = true) : (a && b) = true := by rw [h, k]; rfl
theorem lZ : (Rows.locateKeepsRow.inPlace == Tryz.pinned.checked.prog.inPlace 5) = true := by kernel_rfl
theorem l0 : (Rows.locateKeepsRow.unfollowed == Tryz.pinned.checked.prog.unfollowed 5) = true := by kernel_rfl
theorem l6 : (Rows.locateKeepsRow.recurses == Tryz.pinned.checked.prog.recurses 5) = true := by kernel_rfl
theorem l7 : (Rows.locateKeepsRow.named == Tryz.pinned.checked.prog.varsNamed 5) = true := by kernel_rfl
theorem l8 : Tryz.pinned.checked.prog.stopsHeard = true := by kernel_rfl
theorem l9 : Tryz.pinned.checked.prog.mayEnter = true := by kernel_rfl
theorem ma : (Rows.locateKeepsRow.lifted == Tryz.pinned.checked.prog.liftsFinal) = true := by kernel_rfl
theorem i9 : joinedFacts Tryz.pinned.checked.prog 5 Tryz.f5 Rows.locateKeepsSpec Rows.locateKeepsRow = true := by
 unfold joinedFacts
 exact (cr (cr (cr (cr (cr (cr (cr (cr (cr (cr (cr (cr (cr (cr (cr (cr (cr (cr (cr (cr (cr (cr (cr (cr (cr (cr (cr (cr (cr (cr (cr (by kernel_rfl) jh) (by kernel_rfl)) (by kernel_rfl)) (by kernel_rfl)) (by kernel_rfl)) (by kernel_rfl)) (by kernel_rfl)) (by kernel_rfl)) lZ) l0) l6) l7) (by kernel_rfl)) (by kernel_rfl)) (by kernel_rfl)) (by kernel_rfl)) (by kernel_rfl)) (by kernel_rfl)) (by kernel_rfl)) (by kernel_rfl)) (by kernel_rfl)) (by kernel_rfl)) (by kernel_rfl)) l8) l9) ma) (by kernel_rfl)) (by kernel_rfl)) (by kernel_rfl)) (by kernel_rfl)) (by kernel_rfl))
theorem kz : Rows.locateKeepsRow.holds Tryz.pinned (OpenSpec.ofChange Rows.locateKeepsSpec) :=
 OpenClaim.holds_of_wide 5 Tryz.f5 rfl rfl rfl rfl rfl rfl rfl ⟨rfl, rfl, rfl, rfl, rfl⟩ rfl rfl rfl rfl rfl (by kernel_rfl) Tryz.func5 i9
  (of_decide_eq_true (by kernel_rfl)) (by unfold Func.isWrapper; rw [if_neg (by decide +kernel)]; exact ⟨rfl, rfl⟩)
  (fun os started H enc _ => i8 os started H enc)
theorem locateKeeps_proved : Rows.LocateKeepsSaid := kz
end
end Go.Proofs.YtojbkljfioegkaaGreat
