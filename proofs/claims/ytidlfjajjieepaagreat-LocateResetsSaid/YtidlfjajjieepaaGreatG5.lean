/- Parts of the proof: walks and plain facts. Conditions: as each theorem states. -/
import Derived.Test.YtidlfjajjieepaaGreatG4
import Derived.Test.YtidlfjajjieepaaGreatG2
import Derived.Deep.RegionHeld3
import Derived.Test.YtidlfjajjieepaaGreatG3
import Derived.Test.YtidlfjajjieepaaGreatG1
import Derived.Maps.AppendAt
import Derived.Deep.RegionLaw
import Derived.Lib.SliceRun
namespace Go.Proofs.YtidlfjajjieepaaGreat
set_option linter.unusedSimpArgs false
set_option linter.unusedVariables false
open Go.RowKit
set_option maxHeartbeats 4000000
set_option maxRecDepth 100000
theorem r6_drop {l : List T6} {j : Nat} : (r6 l).drop (j * 6) = r6 (l.drop j) := by
 induction l generalizing j with
 | nil => simp [bW]
 | cons p l ih =>
  cases j with
  | zero => simp
  | succ j => rw [bk, show (j + 1) * 6 = j * 6 + 1 + 1 + 1 + 1 + 1 + 1 by omega, List.drop_succ_cons, List.drop_succ_cons, List.drop_succ_cons, List.drop_succ_cons, List.drop_succ_cons, List.drop_succ_cons, ih]; rfl
theorem r6_dropv {l : List T6} {k : Nat} (h : k ≤ l.length) : List.take ((l.length - k) * 6) (List.drop (k * 6) (r6 l)) = r6 (List.drop k l) := by
 rw [r6_drop]
 exact List.take_of_length_le (by rw [bM, List.length_drop]; omega)
theorem l9 {l : List T6} {j : Nat} (h : j < l.length) : l.drop j = g6 l j :: l.drop (j + 1) := by
 rw [List.drop_eq_getElem_cons h, ← g6_eq h]; rfl
section
variable {W Hh : Int} {xs : List Int} {s : List (Int × Int)} {g : Int} {QA O R : List T6} {j K k : Nat}
theorem rfn_no (hj : j < QA.length) (hk : QA.length - j + 2 * K = k) (ht : tOk W Hh xs (g6 QA j) s g = false) (h : rfn W Hh xs s g k (QA.drop j) K O = R) : rfn W Hh xs s g (k - 1) (QA.drop (j + 1)) K O = R := by
 obtain ⟨n, rfl⟩ : ∃ n, k = n + 1 := ⟨k - 1, by omega⟩
 rw [l9 hj] at h
 unfold rfn at h
 rw [if_neg (by rw [ht]; decide)] at h
 exact h
theorem rfn_two (hj : j < QA.length) (hk : QA.length - j + 2 * K = k) (ht : tOk W Hh xs (g6 QA j) s g = true) (h2 : 0 < K ∧ cW (tB W Hh xs (g6 QA j) s g) = true) (h : rfn W Hh xs s g k (QA.drop j) K O = R) : rfn W Hh xs s g (k - 1) ((QA.drop (j + 1) ++ [dx (tB W Hh xs (g6 QA j) s g), dy (tB W Hh xs (g6 QA j) s g)]).drop 0) (K - 1) O = R := by
 obtain ⟨n, rfl⟩ : ∃ n, k = n + 1 := ⟨k - 1, by omega⟩
 rw [l9 hj] at h
 unfold rfn at h
 rw [if_pos ht, if_pos h2] at h
 exact h
theorem rfn_out (hj : j < QA.length) (hk : QA.length - j + 2 * K = k) (ht : tOk W Hh xs (g6 QA j) s g = true) (h2 : ¬ (0 < K ∧ cW (tB W Hh xs (g6 QA j) s g) = true)) (h : rfn W Hh xs s g k (QA.drop j) K O = R) : rfn W Hh xs s g (k - 1) (QA.drop (j + 1)) K (O ++ [tB W Hh xs (g6 QA j) s g]) = R := by
 obtain ⟨n, rfl⟩ : ∃ n, k = n + 1 := ⟨k - 1, by omega⟩
 rw [l9 hj] at h
 unfold rfn at h
 rw [if_pos ht, if_neg h2] at h
 exact h
theorem rfn_end (hj : QA.length ≤ j) (h : rfn W Hh xs s g k (QA.drop j) K O = R) : R = O := by
 rw [List.drop_eq_nil_of_le hj] at h
 cases k <;> exact h.symm
end
theorem cright_t (H : ac) (W Hh : Int) (pp : AV) (xs : List Int) (q : AV) (sc : List (Int × Int)) (g : Int) (hpp : Sl H 1 pp xs.length (ints .u8 xs)) (hq : Sl H 2 q sc.length (prs sc)) (hV : cl W Hh xs = true) (hsB : cw sc = true) (hg : 1 ≤ g ∧ g ≤ 32) : ACalls Tryz.prog 73 [.agg [.int .i64 W, .int .i64 Hh, pp], q, .int .i64 g] H (fun v H' => v = .bool true ∧ H' = H) := by
 have k := cright_c H W Hh pp xs q sc g hpp hq (by have := (ef.1 hsB).1; omega)
 rw [hV, hsB, bN.2 hg] at k
 exact k
theorem tq (H : ac) (W : Int) (Hh : Int) (pp : AV) (xs : List Int) (s : AV) (l : List T6) (q : AV) (sc : List (Int × Int)) (g : Int) (K0 : Nat) (hpp : Sl H 1 pp xs.length (ints .u8 xs)) (hs : Sl H 6 s l.length (r6 l)) (hq : Sl H 2 q sc.length (prs sc)) (hV : cl W Hh xs = true) (hS : bX l = true) (hl0 : 0 < l.length) (hsB : cw sc = true) (hg : 1 ≤ g ∧ g ≤ 32) (hK0 : K0 ≤ 64) : ACalls Tryz.prog 48 [.agg [.int .i64 W, .int .i64 Hh, pp], s, q, .int .i64 g, .int .i64 ((K0 : Nat) : Int)] H (fun v H' => v = .tup [.sl (some (H.length, 0)) ((co W Hh xs l sc g K0).length) (bb (co W Hh xs l sc g K0).length), .int .i64 0] ∧ H' = H ++ [.cells (aX (co W Hh xs l sc g K0).length) 6 (r6 (co W Hh xs l sc g K0))]) := by
 obtain ⟨bpp, opp, cpp, rfl, hbpp⟩ := hpp
 have hblpp := getElem?_lt hbpp
 have hb0pp := fun l => aq (l := l) hbpp
 obtain ⟨bs, os, cs, rfl, hbs⟩ := hs
 have hbls := getElem?_lt hbs
 have hb0s := fun l => aq (l := l) hbs
 obtain ⟨bq, oq, cq, rfl, hbq⟩ := hq
 have hblq := getElem?_lt hbq
 have hb0q := fun l => aq (l := l) hbq
 have hsl0 : (l.length == 0) = false := beq_eq_false_iff_ne.2 (by omega)
 have hsl1 : decide (0 < l.length) = true := decide_eq_true hl0
 have hSS := bY.1 hS
 have hl16 := hSS.1
 have hkb : btw ((K0 : Nat) : Int) 0 64 = true := bN.2 (by omega)
 have hVV := cJ.1 hV
 have hWW : 1 ≤ W ∧ W ≤ 64 := ⟨hVV.w0, hVV.w1⟩
 have hHH : 1 ≤ Hh ∧ Hh ≤ 64 := ⟨hVV.h0, hVV.h1⟩
 (refine bF Tryz.func48 _ rfl (Nat.le_of_ble_eq_true (by kernel_rfl)) rfl ?_; intro hbel Q hQ hQ' c hc; unfold Tryz.f48 at hc; simp only [Option.some.injEq] at hc; subst hc; clear hQ')
 refine aN fun Q1 hn1 hr1 he1 => ?_
 have hQ1 := fun F H' h => hr1 F H' (hQ F H' h)
 refine aI true try_mixed (by kernel_rfl) ?_
 have g'1 := (jn @hbpp (jn @hb0pp (jn @hbs (jn @hb0s (jn @hbq (jn @hb0q (jn @mkV_t (jn @hkb (jn @hsl0 @hsl1)))))))))
 refine aa g'1 ?_
 refine hn1 _ _ ?_
 refine aN fun Q2 hn2 hr2 he2 => ?_
 have hQ2 := fun F H' h => hr2 F H' (hQ F H' h)
 refine aI true try_mixed (by kernel_rfl) ?_
 refine aa g'1 ?_
 refine af (by kernel_rfl) (cright_t _ W Hh _ xs _ sc g ⟨_, _, _, rfl, by first | exact hb0pp _ | exact hbpp⟩ ⟨_, _, _, rfl, by first | exact hb0q _ | exact hbq⟩ hV hsB hg) ?_
 refine aa g'1 ?_
 refine ak (fun h1 => ?_) (fun h1 => ?_)
 ·have h1d := bsT h1
  omega
 ·have h1d := bsT h1
  have g'2 := (jn @h1 (jn @h1d g'1))
  refine aa g'2 ?_
  refine hn2 _ _ ?_
  refine aN fun Q3 hn3 hr3 he3 => ?_
  have hQ3 := fun F H' h => hr3 F H' (hQ F H' h)
  refine aI true try_mixed (by kernel_rfl) ?_
  refine aa g'2 ?_
  refine go_loop try_mixed (by kernel_rfl) (fun k F Hx => ∃ i : Nat, i + k = l.length ∧ F = [(1, .sl (some (bs, 0)) l.length cs), (2, .sl (some (bq, 0)) sc.length cq), (3, .int .i64 g), (4, .int .i64 ((K0 : Nat) : Int)), (5, .ptr (some (H.length, 0))), (31, .sl (some (bs, 0)) l.length cs), (32, .int .i64 ((l.length : Nat) : Int)), (33, .int .i64 ((i : Nat) : Int))] ∧ Hx = H ++ [.cells true 0 [.int .i64 W, .int .i64 Hh, .sl (some (bpp, 0)) xs.length cpp]]) (l.length) ?_ ?_
  ·refine ⟨_, _, _, ⟨0, by omega, rfl, rfl⟩, Abs.byG hbel [] rfl [0] (by decide) ?_⟩
   exact aW
  ·rintro k0 F Hx ⟨i, hm0, rfl, rfl⟩ J0 hJ0
   refine aa g'2 ?_
   refine ak (fun h2 => ?_) (fun h2 => ?_)
   ·have h2d := bsT h2
    have hlt : i < l.length := by omega
    have q3 := cD (l := l) (j := i) (by omega)
    have g'3 := (jn @h2 (jn @h2d (jn @bM (jn @q3 g'2))))
    refine aa g'3 ?_
    refine af (by kernel_rfl) (eE _ (g61 l i) (g62 l i) (g63 l i) (g64 l i) (g65 l i) (g66 l i)) ?_
    refine aa g'3 ?_
    refine ak (fun h4 => ?_) (fun h4 => ?_)
    ·have h4d := bsT h4
     exact absurd ((show bJ (g6 l i) = true from hSS.2 _ (cU hlt)).symm.trans h4d) (by decide)
    ·have h4d := bsT h4
     have g'4 := (jn @h4 (jn @h4d g'3))
     refine aa g'4 ?_
     refine hJ0 _ _ ⟨k0 - 1, by omega, _, _, _, ⟨i + 1, by omega, rfl, rfl⟩, Abs.byG hbel [] rfl [0] (by decide) ?_⟩
     exact aW
   ·have h2d := bsT h2
    obtain rfl : i = l.length := by omega
    have g'5 := (jn @h2 (jn @h2d g'2))
    refine aa g'5 ?_
    refine hn3 _ _ ?_
    refine aN fun Q4 hn4 hr4 he4 => ?_
    have hQ4 := fun F H' h => hr4 F H' (hQ F H' h)
    refine aI true try_mixed (by kernel_rfl) ?_
    refine aa g'5 ?_
    refine af (by kernel_rfl) (dn _ ((K0 : Nat) : Int) 0 64) ?_
    refine aa g'5 ?_
    refine hn4 _ _ ?_
    refine aN fun Q5 hn5 hr5 he5 => ?_
    have hQ5 := fun F H' h => hr5 F H' (hQ F H' h)
    refine aI true try_mixed (by kernel_rfl) ?_
    refine aa g'5 ?_
    refine hn5 _ _ ?_
    refine aN fun Q6 hn6 hr6 he6 => ?_
    have hQ6 := fun F H' h => hr6 F H' (hQ F H' h)
    refine aI true try_mixed (by kernel_rfl) ?_
    have g'6 := (jn @bM (jn @dw (jn @je g'5)))
    refine aa g'6 ?_
    refine hn6 _ _ ?_
    refine aN fun Q7 hn7 hr7 he7 => ?_
    have hQ7 := fun F H' h => hr7 F H' (hQ F H' h)
    refine eP fun Q8 hn8 hr8 he8 hb8 => ?_
    have hQ8 := fun F H' h => hr8 F H' (hQ7 F H' h)
    refine sS (fun k F Hx => ∃ QA : List T6, ∃ j : Nat, ∃ K : Nat, ∃ O : List T6, QA.length - j + 2 * K = k ∧ j ≤ QA.length ∧ QA.length - j + K ≤ l.length + K0 ∧ QA.length ≤ l.length + K0 ∧ O.length + (QA.length - j) + K ≤ l.length + K0 ∧ (∀ b ∈ QA, bJ b = true) ∧ rfn W Hh xs sc g k (QA.drop j) K O = co W Hh xs l sc g K0 ∧ F = [(2, .sl (some (bq, 0)) sc.length cq), (3, .int .i64 g), (4, .int .i64 ((K : Nat) : Int)), (5, .ptr (some (H.length, 0))), (14, .sl (some (H.length + 1, 0)) O.length (bb O.length)), (15, .sl (some (H.length + 2, j * 6)) (QA.length - j) none)] ∧ Hx = H ++ [.cells true 0 [.int .i64 W, .int .i64 Hh, .sl (some (bpp, 0)) xs.length cpp], .cells (aX O.length) 6 (r6 O), .cells true 6 (r6 QA)]) (l.length + 2 * K0) ?_ ?_
    ·refine ⟨_, _, _, ⟨l, 0, K0, [], by first | omega | (simp only [List.length_append, List.length_drop, List.length_cons, List.length_nil]; omega), Nat.zero_le _, by omega, by omega, by simp only [List.length_nil]; omega, hSS.2, rfl, rfl, rfl⟩, Abs.byG hbel [.cells false 6 []] rfl [0, 3, 2] (by decide) ?_⟩
     exact aD (jn @Nat.zero_mul (jn @Nat.sub_zero (jn @bx (jn @bk (jn @bW @bA)))))
    ·rintro k1 F Hx ⟨QA, j, K, O, hm1, hjq, hqb, hql, hol, hqv, hrf, rfl, rfl⟩ Q9 hJ1 hr9 he9
     have hQ9 := fun F H' h => hr9 F H' (hQ8 F H' h)
     refine aN fun Q10 hn10 hr10 he10 => ?_
     have hQ10 := fun F H' h => hr10 F H' (hQ9 F H' h)
     refine aI true try_mixed (by kernel_rfl) ?_
     refine aa g'6 ?_
     refine ak (fun h5 => ?_) (fun h5 => ?_)
     ·have h5d := bsT h5
      have hjl : j < QA.length := by omega
      have hbv : bJ (g6 QA j) = true := hqv _ (cU hjl)
      have hsf1 : QA.length - j - 1 = QA.length - (j + 1) := by omega
      have hsf2 : j * 6 + 6 = (j + 1) * 6 := by omega
      have g'7 := (jn @h5 (jn @h5d (jn @hsf1 (jn @hsf2 g'6))))
      refine aa g'7 ?_
      refine hn10 _ _ ?_
      refine eP fun Q11 hn11 hr11 he11 hb11 => ?_
      have hQ11 := fun F H' h => hr11 F H' (hQ9 F H' h)
      refine cd true try_mixed [[0, 1, 2, 3, 4, 5, 6, 7, 8, 9, 10, 11, 12], [0, 1, 2, 3, 4, 5, 10, 6, 7, 8, 9, 11, 12]] (by kernel_rfl) (fun F2 H2 => F2 = [(2, .sl (some (bq, 0)) sc.length cq), (3, .int .i64 g), (4, .int .i64 ((K : Nat) : Int)), (5, .ptr (some (H.length, 0))), (14, .sl (some (H.length + 1, 0)) O.length (bb O.length)), (15, .sl (some (H.length + 2, j * 6)) (QA.length - j) none), (16, .ptr (some (H.length + 3, 0))), (17, .bool (tOk W Hh xs (g6 QA j) sc g))] ∧ H2 = H ++ [.cells true 0 [.int .i64 W, .int .i64 Hh, .sl (some (bpp, 0)) xs.length cpp], .cells (aX O.length) 6 (r6 O), .cells true 6 (r6 QA), .cells true 0 [.int .i64 (mkV (tOk W Hh xs (g6 QA j) sc g) ((tB W Hh xs (g6 QA j) sc g).1)), .int .i64 (mkV (tOk W Hh xs (g6 QA j) sc g) ((tB W Hh xs (g6 QA j) sc g).2.1)), .int .i64 (mkV (tOk W Hh xs (g6 QA j) sc g) ((tB W Hh xs (g6 QA j) sc g).2.2.1)), .int .i64 (mkV (tOk W Hh xs (g6 QA j) sc g) ((tB W Hh xs (g6 QA j) sc g).2.2.2.1)), .int .i64 (mkV (tOk W Hh xs (g6 QA j) sc g) ((tB W Hh xs (g6 QA j) sc g).2.2.2.2.1)), .int .i64 (mkV (tOk W Hh xs (g6 QA j) sc g) ((tB W Hh xs (g6 QA j) sc g).2.2.2.2.2))]]) ?_ ?_
      ·refine aC ?_ (aC ?_ (ce)) <;> intro J hJ
       ·skip
        have q6 := cD (l := QA) (j := j) (by omega)
        have g'8 := (jn @q6 g'7)
        refine aw g'8 ?_
        refine aB (by kernel_rfl) (trim_t _ W Hh _ xs (g6 QA j) _ sc g ⟨_, _, _, rfl, by first | exact hb0pp _ | exact hbpp⟩ ⟨_, _, _, rfl, by first | exact hb0q _ | exact hbq⟩ hV (by assumption) hsB hg) ?_
        refine aw g'8 ?_
        refine aS (hJ _ _ ⟨_, _, _, ⟨rfl, rfl⟩, Abs.byG hbel [] rfl [0, 1, 2, 3] (by decide) ?_⟩)
        exact aD (jn @bx (jn @bk (jn @bW @bA)))
       ·skip
        have q7 := cD (l := QA) (j := j) (by omega)
        have g'9 := (jn @q7 g'7)
        refine aw g'9 ?_
        refine aB (by kernel_rfl) (trim_t _ W Hh _ xs (g6 QA j) _ sc g ⟨_, _, _, rfl, by first | exact hb0pp _ | exact hbpp⟩ ⟨_, _, _, rfl, by first | exact hb0q _ | exact hbq⟩ hV (by assumption) hsB hg) ?_
        refine aw g'9 ?_
        refine aS (hJ _ _ ⟨_, _, _, ⟨rfl, rfl⟩, Abs.byG hbel [] rfl [0, 1, 2, 3] (by decide) ?_⟩)
        exact aD (jn @bx (jn @bk (jn @bW @bA)))
      rintro F2 H2 ⟨rfl, rfl⟩
      refine aI true try_mixed (by kernel_rfl) ?_
      refine aa g'7 ?_
      refine ak (fun h8 => ?_) (fun h8 => ?_)
      ·have h8d := bsT h8
       have htf := h8d
       have g'10 := (jn @h8 (jn @h8d g'7))
       refine aa g'10 ?_
       refine hb11 _ _ ?_
       refine hJ1 _ _ ⟨k1 - 1, by omega, _, _, _, ⟨QA, j + 1, K, O, by first | omega | (simp only [List.length_append, List.length_drop, List.length_cons, List.length_nil]; omega), by omega, by omega, hql, by omega, hqv, rfn_no hjl hm1 htf hrf, rfl, rfl⟩, Abs.byG hbel [] rfl [0, 1, 2] (by decide) ?_⟩
       exact aD (jn @Nat.zero_mul (jn @Nat.sub_zero (jn @List.length_drop.{0} (jn @bx (jn @bk (jn @bW @bA))))))
      ·have h8d := bsT h8
       have hto := h8d
       have htb := (tB_ok hWW hHH hbv hto).1
       have g'11 := (jn @h8 (jn @h8d g'7))
       refine aa g'11 ?_
       refine ak (fun h9 => ?_) (fun h9 => ?_)
       ·have h9d := bsT h9
        have hK : 0 < K := by omega
        have hsfk : ((K : Nat) : Int) - 1 = ((K - 1 : Nat) : Int) := by omega
        have g'12 := (jn @h9 (jn @h9d (jn @hsfk g'11)))
        refine aa g'12 ?_
        rcases Bool.eq_false_or_eq_true (cW (tB W Hh xs (g6 QA j) sc g)) with h10 | h10
        ·have h10d := h10
         have hs2 := h10d
         have hso := spl_ok htb hs2
         have hdv : List.take ((QA.length - (j + 1)) * 6) (List.drop ((j + 1) * 6) (r6 QA)) = r6 (List.drop (j + 1) QA) := r6_dropv (by omega)
         refine af (by kernel_rfl) (split_t _ (tB W Hh xs (g6 QA j) sc g) (by assumption) (by assumption)) ?_
         have g'13 := (jn @h10 (jn @h10d (jn @bp (jn @dU g'12))))
         refine aa g'13 ?_
         refine hb11 _ _ ?_
         refine hJ1 _ _ ⟨k1 - 1, by omega, _, _, _, ⟨List.drop (j + 1) QA ++ [dx (tB W Hh xs (g6 QA j) sc g), dy (tB W Hh xs (g6 QA j) sc g)], 0, K - 1, O, by first | omega | (simp only [List.length_append, List.length_drop, List.length_cons, List.length_nil]; omega), Nat.zero_le _, by simp only [List.length_append, List.length_drop, List.length_cons, List.length_nil]; omega, by simp only [List.length_append, List.length_drop, List.length_cons, List.length_nil]; omega, by simp only [List.length_append, List.length_drop, List.length_cons, List.length_nil]; omega, fun b hb' => by
               rcases List.mem_append.1 hb' with q | q
               ·exact hqv b (List.mem_of_mem_drop q)
               ·rcases List.mem_cons.1 q with q | q
                ·rw [q]; exact hso.1
                ·rw [List.mem_singleton.1 q]; exact hso.2.1, rfn_two hjl hm1 hto ⟨hK, hs2⟩ hrf, rfl, rfl⟩, Abs.byG hbel [] rfl [0, 1, 7] (by decide) ?_⟩
         exact aD (jn @Nat.zero_mul (jn @Nat.sub_zero (jn @List.length_drop.{0} (jn @hdv (jn @bx (jn @bk (jn @bW @bA)))))))
        ·have h10d := h10
         have hno : ¬ (0 < K ∧ cW (tB W Hh xs (g6 QA j) sc g) = true) := fun q => absurd (q.2.symm.trans h10d) (by decide)
         refine af (by kernel_rfl) (split_f _ (tB W Hh xs (g6 QA j) sc g) (by assumption) (by assumption)) ?_
         have g'14 := (jn @h10 (jn @h10d (jn @bp (jn @dU g'12))))
         refine aa g'14 ?_
         refine hn11 _ _ ?_
         refine hJ1 _ _ ⟨k1 - 1, by omega, _, _, _, ⟨QA, j + 1, K, O ++ [(tB W Hh xs (g6 QA j) sc g)], by first | omega | (simp only [List.length_append, List.length_drop, List.length_cons, List.length_nil]; omega), by omega, by omega, hql, by simp only [List.length_append, List.length_drop, List.length_cons, List.length_nil]; omega, hqv, rfn_out hjl hm1 hto hno hrf, rfl, rfl⟩, Abs.byG hbel [] rfl [0, 7, 2] (by decide) ?_⟩
         exact aD (jn @Nat.zero_mul (jn @Nat.sub_zero (jn @List.length_drop.{0} (jn @bx (jn @bk (jn @bW @bA))))))
       ·have h9d := bsT h9
        have hno : ¬ (0 < K ∧ cW (tB W Hh xs (g6 QA j) sc g) = true) := fun q => by omega
        have g'15 := (jn @h9 (jn @h9d (jn @bp (jn @dU g'11))))
        refine aa g'15 ?_
        refine hn11 _ _ ?_
        refine hJ1 _ _ ⟨k1 - 1, by omega, _, _, _, ⟨QA, j + 1, K, O ++ [(tB W Hh xs (g6 QA j) sc g)], by first | omega | (simp only [List.length_append, List.length_drop, List.length_cons, List.length_nil]; omega), by omega, by omega, hql, by simp only [List.length_append, List.length_drop, List.length_cons, List.length_nil]; omega, hqv, rfn_out hjl hm1 hto hno hrf, rfl, rfl⟩, Abs.byG hbel [] rfl [0, 5, 2] (by decide) ?_⟩
        exact aD (jn @Nat.zero_mul (jn @Nat.sub_zero (jn @List.length_drop.{0} (jn @bx (jn @bk (jn @bW @bA))))))
     ·have h5d := bsT h5
      have hfinR : co W Hh xs l sc g K0 = O := rfn_end (by omega) hrf
      have g'16 := (jn @h5 (jn @h5d g'6))
      refine aa g'16 ?_
      refine he10 _ _ _ ?_
      refine he9 _ _ _ ?_
      refine hb8 _ _ ?_
      refine hn7 _ _ ?_
      refine aI true try_mixed (by kernel_rfl) ?_
      refine aa g'16 ?_
      refine hQ _ _ (aY (.inl rfl) hbel (x1 := .tup [.sl (some (H.length + 1, 0)) O.length (bb O.length), .int .i64 0]) (l2 := [.cells (aX O.length) 6 (r6 O)]) (.tup [.sl (some (H.length, 0)) O.length (bb O.length), .int .i64 0]) (ai Tryz.results48) [] rfl [1] (by decide) ⟨by first | (rw [hfinR]; done) | (rw [hfinR]; rfl), by first | (rw [hfinR]; done) | (rw [hfinR]; rfl)⟩ ?_)
      exact aV @bA
set_option linter.unusedSimpArgs false
set_option linter.unusedVariables false
open Go.RowKit
set_option maxHeartbeats 4000000
set_option maxRecDepth 100000
theorem proven_c (H : ac) (W : Int) (Hh : Int) (pp : AV) (xs : List Int) (s : AV) (l : List T6) (m : Int) (r : Int) (g : Int) (hpp : Sl H 1 pp xs.length (ints .u8 xs)) (hs : Sl H 6 s l.length (r6 l)) (hV : cl W Hh xs = true) (hS : bX l = true) (hl0 : 0 < l.length) (hr : -1 ≤ r ∧ r ≤ 1024) (hg : 1 ≤ g ∧ g ≤ 32) : ACalls Tryz.prog 124 [.agg [.int .i64 W, .int .i64 Hh, pp], s, .agg [.int .i64 m, .int .i64 r], .int .i64 g] H (fun v H' => v = .sl (some (H.length, 0)) ((ej W Hh l m r g).length) (bb (ej W Hh l m r g).length) ∧ H' = H ++ [.cells (aX (ej W Hh l m r g).length) 2 (prs (ej W Hh l m r g))]) := by
 obtain ⟨bpp, opp, cpp, rfl, hbpp⟩ := hpp
 have hblpp := getElem?_lt hbpp
 have hb0pp := fun l => aq (l := l) hbpp
 obtain ⟨bs, os, cs, rfl, hbs⟩ := hs
 have hbls := getElem?_lt hbs
 have hb0s := fun l => aq (l := l) hbs
 have hvl := cJ.1 hV
 have hWb : 1 ≤ W ∧ W ≤ 64 ∧ 1 ≤ Hh ∧ Hh ≤ 64 := by obtain ⟨a, b, c, d, -⟩ := hvl; omega
 have hda := ky hS m
 have hpair : ∀ j', j' < (ar l m).length → bxB (g91 (ar l m) j') (g92 (ar l m) j') (g93 (ar l m) j') (g94 (ar l m) j') (g95 (ar l m) j') (g96 (ar l m) j') = true := fun j' hj' => by
  have k := dirA_ok hS (g9_mem hj')
  unfold pairB at k; rw [Bool.and_eq_true] at k; exact k.1
 have hp0 := hpair 0 (by omega)
 have hfl := fstL_len l m (ax r g)
 (refine bF Tryz.func124 _ rfl (Nat.le_of_ble_eq_true (by kernel_rfl)) rfl ?_; intro hbel Q hQ hQ' c hc; unfold Tryz.f124 at hc; simp only [Option.some.injEq] at hc; subst hc; clear hQ')
 refine aN fun Q1 hn1 hr1 he1 => ?_
 have hQ1 := fun F H' h => hr1 F H' (hQ F H' h)
 refine aI false try_mixed (by kernel_rfl) ?_
 have g'1 := (jn @hbpp (jn @hb0pp (jn @hbs @hb0s)))
 refine aa g'1 ?_
 refine hn1 _ _ ?_
 refine aN fun Q2 hn2 hr2 he2 => ?_
 have hQ2 := fun F H' h => hr2 F H' (hQ F H' h)
 refine aI false try_mixed (by kernel_rfl) ?_
 refine aa g'1 ?_
 refine hn2 _ _ ?_
 refine aN fun Q3 hn3 hr3 he3 => ?_
 have hQ3 := fun F H' h => hr3 F H' (hQ F H' h)
 refine aI false try_mixed (by kernel_rfl) ?_
 refine aa g'1 ?_
 refine ak (fun h1 => ?_) (fun h1 => ?_)
 ·have h1d := bsT h1
  have h1n := bnT h1
  have hr1 : r = -1 := by simpa using h1d
  have hsf1 : 1024 - g = ax r g := (if_pos hr1).symm
  have g'2 := (jn @h1 (jn @h1n (jn @bg (jn @be (jn @hsf1 g'1)))))
  refine aa g'2 ?_
  refine hn3 _ _ ?_
  refine aN fun Q4 hn4 hr4 he4 => ?_
  have hQ4 := fun F H' h => hr4 F H' (hQ F H' h)
  refine aI false try_mixed (by kernel_rfl) ?_
  refine aa g'2 ?_
  refine ak (fun h2 => ?_) (fun h2 => ?_)
  ·have h2d := bsT h2
   have hfinL : ej W Hh l m r g = [] := if_pos h2d
   have g'3 := (jn @h2 (jn @h2d g'2))
   refine aa g'3 ?_
   refine hQ4 _ _ (aY (.inl rfl) hbel (x1 := .sl none 0 (some 0)) (l2 := [.cells false 2 []]) (.sl (some (H.length, 0)) 0 (some 0)) (ai Tryz.results124) [.cells false 2 []] rfl [3] (by decide) ⟨by first | (rw [hfinL]; done) | (rw [hfinL]; rfl), by first | (rw [hfinL]; done) | (rw [hfinL]; rfl)⟩ ?_)
   exact aW
  ·have h2d := bsT h2
   have hfar := h2d
   have g'4 := (jn @h2 (jn @h2d g'2))
   refine aa g'4 ?_
   refine hn4 _ _ ?_
   refine aN fun Q5 hn5 hr5 he5 => ?_
   have hQ5 := fun F H' h => hr5 F H' (hQ F H' h)
   refine aI false try_mixed (by kernel_rfl) ?_
   refine aa g'4 ?_
   refine af (by kernel_rfl) (iv _ _ l m r ⟨_, _, _, rfl, by first | exact hb0s _ | exact hbs⟩ (by assumption)) ?_
   refine aa g'4 ?_
   refine hn5 _ _ ?_
   refine jX false try_mixed [[0, 1, 2, 3, 4, 5, 6, 7, 8, 9, 10, 11, 12, 13, 14, 15, 16, 17], [0, 1, 2, 3, 7, 8, 9, 11, 4, 5, 6, 10, 12, 13, 14, 15, 16, 17], [0, 1, 2, 3, 7, 8, 9, 10, 4, 5, 6, 11, 12, 13, 14, 15, 16, 17], [0, 1, 2, 3, 7, 8, 9, 10, 11, 4, 5, 6, 12, 13, 14, 15, 16, 17]] (by kernel_rfl) (fun F2 H2 => F2 = [(4, .ptr (some (H.length, 0))), (8, .sl none 0 (some 0)), (9, .ptr (some (H.length + 1, 0))), (10, .sl (some (H.length + 2, 0)) ((ar l m).length) (bb (ar l m).length)), (11, .sl (some (H.length + 3, 0)) ((aH l m (ax r g)).length) (bb (aH l m (ax r g)).length))] ∧ H2 = H ++ [.cells true 0 [.int .i64 W, .int .i64 Hh, .sl (some (bpp, 0)) xs.length cpp], .cells true 0 [.int .i64 (ax r g)], .cells (aX (ar l m).length) 9 (r9 (ar l m)), .cells (aX (aH l m (ax r g)).length) 2 (prs (aH l m (ax r g)))]) ?_ ?_
   ·refine aC ?_ (aC ?_ (aC ?_ (aC ?_ (ce)))) <;> intro J hJ
    ·skip
     have q3 := gN (l := ar l m) (by omega)
     have g'5 := (jn @dC (jn @q3 g'4))
     refine aw g'5 ?_
     refine bV (by kernel_rfl) (by simp) (dD _ (g91 (ar l m) 0) (g92 (ar l m) 0) (g93 (ar l m) 0) (g94 (ar l m) 0) (g95 (ar l m) 0) (g96 (ar l m) 0) (by assumption)) ?_
     have q4 := gO (l := ar l m) (by omega)
     have g'6 := (jn @q4 g'5)
     refine aw g'6 ?_
     refine bV (by kernel_rfl) (by simp) (dL _ l m (ax r g)) ?_
     refine aw g'6 ?_
     refine aS (hJ _ _ ⟨_, _, _, ⟨rfl, rfl⟩, Abs.byG hbel [] rfl [0, 2, 3, 5] (by decide) ?_⟩)
     exact aD (jn @bi (jn @bo (jn @bZ @bU)))
    ·skip
     have q5 := gN (l := ar l m) (by omega)
     have g'7 := (jn @dC (jn @q5 g'4))
     refine aw g'7 ?_
     refine bV (by kernel_rfl) (by simp) (dD _ (g91 (ar l m) 0) (g92 (ar l m) 0) (g93 (ar l m) 0) (g94 (ar l m) 0) (g95 (ar l m) 0) (g96 (ar l m) 0) (by assumption)) ?_
     have q6 := gO (l := ar l m) (by omega)
     have g'8 := (jn @q6 g'7)
     refine aw g'8 ?_
     refine bV (by kernel_rfl) (by simp) (dL _ l m (ax r g)) ?_
     refine aw g'8 ?_
     refine aS (hJ _ _ ⟨_, _, _, ⟨rfl, rfl⟩, Abs.byG hbel [] rfl [0, 2, 3, 5] (by decide) ?_⟩)
     exact aD (jn @bi (jn @bo (jn @bZ @bU)))
    ·skip
     have q7 := gN (l := ar l m) (by omega)
     have q8 := gO (l := ar l m) (by omega)
     have g'9 := (jn @dC (jn @q7 (jn @q8 g'4)))
     refine aw g'9 ?_
     refine bV (by kernel_rfl) (by simp) (dD _ (g91 (ar l m) 0) (g92 (ar l m) 0) (g93 (ar l m) 0) (g94 (ar l m) 0) (g95 (ar l m) 0) (g96 (ar l m) 0) (by assumption)) ?_
     refine aw g'9 ?_
     refine bV (by kernel_rfl) (by simp) (dL _ l m (ax r g)) ?_
     refine aw g'9 ?_
     refine aS (hJ _ _ ⟨_, _, _, ⟨rfl, rfl⟩, Abs.byG hbel [] rfl [0, 2, 3, 5] (by decide) ?_⟩)
     exact aD (jn @bi (jn @bo (jn @bZ @bU)))
    ·skip
     have q9 := gN (l := ar l m) (by omega)
     have q10 := gO (l := ar l m) (by omega)
     have g'10 := (jn @dC (jn @q9 (jn @q10 g'4)))
     refine aw g'10 ?_
     refine bV (by kernel_rfl) (by simp) (dD _ (g91 (ar l m) 0) (g92 (ar l m) 0) (g93 (ar l m) 0) (g94 (ar l m) 0) (g95 (ar l m) 0) (g96 (ar l m) 0) (by assumption)) ?_
     refine aw g'10 ?_
     refine bV (by kernel_rfl) (by simp) (dL _ l m (ax r g)) ?_
     refine aw g'10 ?_
     refine aS (hJ _ _ ⟨_, _, _, ⟨rfl, rfl⟩, Abs.byG hbel [] rfl [0, 2, 3, 5] (by decide) ?_⟩)
     exact aD (jn @bi (jn @bo (jn @bZ @bU)))
   rintro F2 H2 ⟨rfl, rfl⟩
   refine aI false try_mixed (by kernel_rfl) ?_
   have g'11 := (jn @dC (jn @jf (jn @bp (jn @cC g'4))))
   refine aa g'11 ?_
   refine go_loop try_mixed (by kernel_rfl) (fun k F Hx => ∃ j : Nat, j + k = (aH l m (ax r g)).length ∧ F = [(4, .ptr (some (H.length, 0))), (9, .ptr (some (H.length + 1, 0))), (10, .sl (some (H.length + 2, 0)) ((ar l m).length) (bb (ar l m).length)), (13, .sl (some (H.length + 4, 0)) ((((aH l m (ax r g)).take j).filter (bK W Hh l m (ax r g))).length) (bb (((aH l m (ax r g)).take j).filter (bK W Hh l m (ax r g))).length)), (49, .sl (some (H.length + 3, 0)) ((aH l m (ax r g)).length) (bb (aH l m (ax r g)).length)), (50, .int .i64 (((aH l m (ax r g)).length : Nat) : Int)), (51, .int .i64 ((j : Nat) : Int))] ∧ Hx = H ++ [.cells true 0 [.int .i64 W, .int .i64 Hh, .sl (some (bpp, 0)) xs.length cpp], .cells true 0 [.int .i64 (ax r g)], .cells (aX (ar l m).length) 9 (r9 (ar l m)), .cells (aX (aH l m (ax r g)).length) 2 (prs (aH l m (ax r g))), .cells (aX (((aH l m (ax r g)).take j).filter (bK W Hh l m (ax r g))).length) 2 (prs (((aH l m (ax r g)).take j).filter (bK W Hh l m (ax r g))))]) ((aH l m (ax r g)).length) ?_ ?_
   ·refine ⟨_, _, _, ⟨0, by omega, rfl, rfl⟩, Abs.byG hbel [.cells false 2 []] rfl [0, 1, 2, 3, 4] (by decide) ?_⟩
    exact aD (jn @List.take_zero.{0} (jn @List.filter_nil.{0} (jn @bi (jn @bo (jn @bZ @bU)))))
   ·rintro k0 F Hx ⟨j, hm0, rfl, rfl⟩ J0 hJ0
    refine aa g'11 ?_
    refine ak (fun h11 => ?_) (fun h11 => ?_)
    ·have h11d := bsT h11
     have hlt : j < (aH l m (ax r g)).length := by omega
     have hpr := (ct hlt).symm
     have hst := th (p := (bK W Hh l m (ax r g))) hlt
     have hfln := flt_len (p := (bK W Hh l m (ax r g))) (l := (aH l m (ax r g))) (j := j)
     have q12 := cA (l := aH l m (ax r g)) (j := j) (by omega)
     have g'12 := (jn @h11 (jn @h11d (jn @q12 g'11)))
     refine aa g'12 ?_
     rcases Bool.eq_false_or_eq_true (sqO (g1 (aH l m (ax r g)) j) (g2 (aH l m (ax r g)) j)) with h13 | h13
     ·have h13d := h13
      have hsq := h13d
      refine af (by kernel_rfl) (psqr_t _ (g1 (aH l m (ax r g)) j) (g2 (aH l m (ax r g)) j) (by assumption)) ?_
      have g'13 := (jn @h13 (jn @h13d g'12))
      refine aa g'13 ?_
      refine af (by kernel_rfl) (cN _ (g1 (aH l m (ax r g)) j) 0 (W - 1)) ?_
      refine aa g'13 ?_
      refine al (fun h14 => ?_) (fun h14 => ?_)
      ·have h14d := bsT h14
       have hbx := h14d
       have g'14 := (jn @h14 (jn @h14d g'13))
       refine aa g'14 ?_
       refine af (by kernel_rfl) (cN _ (g2 (aH l m (ax r g)) j) 0 (Hh - 1)) ?_
       refine aa g'14 ?_
       refine al (fun h15 => ?_) (fun h15 => ?_)
       ·have h15d := bsT h15
        have hby := h15d
        have g'15 := (jn @h15 (jn @h15d g'14))
        refine aa g'15 ?_
        refine af (by kernel_rfl) (has_r _ _ (ar l m) ⟨_, _, _, by first | rfl | (rw [List.length_append]; done) | (rw [List.length_append]; rfl), by first | rfl | (rw [aj]; rfl) | (rw [ag]; rfl) | (rw [aj, ah]; rfl) | (rw [ag, ah]; rfl)⟩ (by omega) _ [.ptr (some (H.length + 6, 0)), .ptr (some (H.length + 1, 0))] (by kernel_rfl) (by simp [AV.bels, AV.bel]) (fun e => !psC e (ax r g) (g1 (aH l m (ax r g)) j, g2 (aH l m (ax r g)) j)) (fun j' hj' => kprv1_c _ _ _ _ _ _ _ _ _ _ _ _ _ _ _ _ _ ⟨_, by first | (rw [aj]; rfl) | (rw [ag]; rfl)⟩ ⟨_, by first | (rw [aj]; rfl) | (rw [ag]; rfl)⟩ (hpair _ hj'))) ?_
        refine aa g'15 ?_
        refine ak (fun h16 => ?_) (fun h16 => ?_)
        ·have h16d := bsT h16
         have hok : bK W Hh l m (ax r g) (g1 (aH l m (ax r g)) j, g2 (aH l m (ax r g)) j) = true := by unfold bK prvB; rw [hbx, hby, List.all_eq_not_any_not, h16d]; rfl
         rw [hpr, if_pos hok] at hst
         have g'16 := (jn @h16 (jn @h16d (jn @dU g'15)))
         refine aa g'16 ?_
         refine hJ0 _ _ ⟨k0 - 1, by omega, _, _, _, ⟨j + 1, by omega, rfl, rfl⟩, Abs.byG hbel [] rfl [0, 1, 2, 3, 8] (by decide) ?_⟩
         exact aD (jn @hst (jn @bi (jn @bo (jn @bZ @bU))))
        ·have h16d := bsT h16
         have hok : bK W Hh l m (ax r g) (g1 (aH l m (ax r g)) j, g2 (aH l m (ax r g)) j) = false := by unfold bK prvB; rw [hbx, hby, List.all_eq_not_any_not, h16d]; rfl
         rw [hpr, if_neg (by rw [hok]; decide), List.append_nil] at hst
         have g'17 := (jn @h16 (jn @h16d g'15))
         refine aa g'17 ?_
         refine hJ0 _ _ ⟨k0 - 1, by omega, _, _, _, ⟨j + 1, by omega, rfl, rfl⟩, Abs.byG hbel [] rfl [0, 1, 2, 3, 4] (by decide) ?_⟩
         exact aD (jn @hst (jn @bi (jn @bo (jn @bZ @bU))))
       ·have h15d := bsT h15
        have hok : bK W Hh l m (ax r g) (g1 (aH l m (ax r g)) j, g2 (aH l m (ax r g)) j) = false := by unfold bK; rw [hbx, h15d]; rfl
        rw [hpr, if_neg (by rw [hok]; decide), List.append_nil] at hst
        have g'18 := (jn @h15 (jn @h15d g'14))
        refine aa g'18 ?_
        refine hJ0 _ _ ⟨k0 - 1, by omega, _, _, _, ⟨j + 1, by omega, rfl, rfl⟩, Abs.byG hbel [] rfl [0, 1, 2, 3, 4] (by decide) ?_⟩
        exact aD (jn @hst (jn @bi (jn @bo (jn @bZ @bU))))
      ·have h14d := bsT h14
       have hok : bK W Hh l m (ax r g) (g1 (aH l m (ax r g)) j, g2 (aH l m (ax r g)) j) = false := by unfold bK; rw [h14d]; rfl
       rw [hpr, if_neg (by rw [hok]; decide), List.append_nil] at hst
       have g'19 := (jn @h14 (jn @h14d g'13))
       refine aa g'19 ?_
       refine hJ0 _ _ ⟨k0 - 1, by omega, _, _, _, ⟨j + 1, by omega, rfl, rfl⟩, Abs.byG hbel [] rfl [0, 1, 2, 3, 4] (by decide) ?_⟩
       exact aD (jn @hst (jn @bi (jn @bo (jn @bZ @bU))))
     ·have h13d := h13
      have hsq := h13d
      refine af (by kernel_rfl) (psqr_f _ (g1 (aH l m (ax r g)) j) (g2 (aH l m (ax r g)) j) (by assumption)) ?_
      have g'20 := (jn @h13 (jn @h13d g'12))
      refine aa g'20 ?_
      refine af (by kernel_rfl) (cN _ (g1 (aH l m (ax r g)) j) 0 (W - 1)) ?_
      refine aa g'20 ?_
      refine al (fun h17 => ?_) (fun h17 => ?_)
      ·have h17d := bsT h17
       have hbx := h17d
       have g'21 := (jn @h17 (jn @h17d g'20))
       refine aa g'21 ?_
       refine af (by kernel_rfl) (cN _ (g2 (aH l m (ax r g)) j) 0 (Hh - 1)) ?_
       refine aa g'21 ?_
       refine al (fun h18 => ?_) (fun h18 => ?_)
       ·have h18d := bsT h18
        have hby := h18d
        have hq1 := bN.1 hbx
        have hq2 := bN.1 hby
        exact absurd (show sqO (g1 (aH l m (ax r g)) j) (g2 (aH l m (ax r g)) j) = true by unfold sqO; rw [Bool.and_eq_true, bl, bl]; omega) (by rw [hsq]; decide)
       ·have h18d := bsT h18
        have hok : bK W Hh l m (ax r g) (g1 (aH l m (ax r g)) j, g2 (aH l m (ax r g)) j) = false := by unfold bK; rw [hbx, h18d]; rfl
        rw [hpr, if_neg (by rw [hok]; decide), List.append_nil] at hst
        have g'22 := (jn @h18 (jn @h18d g'21))
        refine aa g'22 ?_
        refine hJ0 _ _ ⟨k0 - 1, by omega, _, _, _, ⟨j + 1, by omega, rfl, rfl⟩, Abs.byG hbel [] rfl [0, 1, 2, 3, 4] (by decide) ?_⟩
        exact aD (jn @hst (jn @bi (jn @bo (jn @bZ @bU))))
      ·have h17d := bsT h17
       have hok : bK W Hh l m (ax r g) (g1 (aH l m (ax r g)) j, g2 (aH l m (ax r g)) j) = false := by unfold bK; rw [h17d]; rfl
       rw [hpr, if_neg (by rw [hok]; decide), List.append_nil] at hst
       have g'23 := (jn @h17 (jn @h17d g'20))
       refine aa g'23 ?_
       refine hJ0 _ _ ⟨k0 - 1, by omega, _, _, _, ⟨j + 1, by omega, rfl, rfl⟩, Abs.byG hbel [] rfl [0, 1, 2, 3, 4] (by decide) ?_⟩
       exact aD (jn @hst (jn @bi (jn @bo (jn @bZ @bU))))
    ·have h11d := bsT h11
     obtain rfl : j = (aH l m (ax r g)).length := by omega
     have hfinL : ((aH l m (ax r g)).take (aH l m (ax r g)).length).filter (bK W Hh l m (ax r g)) = ej W Hh l m r g := by rw [List.take_length]; exact (if_neg hfar).symm
     have g'24 := (jn @h11 (jn @h11d g'11))
     refine aa g'24 ?_
     refine hQ _ _ (aY (.inl rfl) hbel (x1 := .sl (some (H.length + 4, 0)) ((((aH l m (ax r g)).take (aH l m (ax r g)).length).filter (bK W Hh l m (ax r g))).length) (bb (((aH l m (ax r g)).take (aH l m (ax r g)).length).filter (bK W Hh l m (ax r g))).length)) (l2 := [.cells (aX (((aH l m (ax r g)).take (aH l m (ax r g)).length).filter (bK W Hh l m (ax r g))).length) 2 (prs (((aH l m (ax r g)).take (aH l m (ax r g)).length).filter (bK W Hh l m (ax r g))))]) (.sl (some (H.length, 0)) ((((aH l m (ax r g)).take (aH l m (ax r g)).length).filter (bK W Hh l m (ax r g))).length) (bb (((aH l m (ax r g)).take (aH l m (ax r g)).length).filter (bK W Hh l m (ax r g))).length)) (ai Tryz.results124) [] rfl [4] (by decide) ⟨by first | (rw [hfinL]; done) | (rw [hfinL]; rfl), by first | (rw [hfinL]; done) | (rw [hfinL]; rfl)⟩ ?_)
     exact aW
 ·have h1d := bsT h1
  have h1n := bnT h1
  have hr1 : ¬ r = -1 := by simpa using h1d
  have hsf1 : r - g = ax r g := (if_neg hr1).symm
  have g'25 := (jn @h1 (jn @h1n (jn @bg (jn @be (jn @hsf1 g'1)))))
  refine aa g'25 ?_
  refine hn3 _ _ ?_
  refine aN fun Q6 hn6 hr6 he6 => ?_
  have hQ6 := fun F H' h => hr6 F H' (hQ F H' h)
  refine aI false try_mixed (by kernel_rfl) ?_
  refine aa g'25 ?_
  refine ak (fun h19 => ?_) (fun h19 => ?_)
  ·have h19d := bsT h19
   have hfinL : ej W Hh l m r g = [] := if_pos h19d
   have g'26 := (jn @h19 (jn @h19d g'25))
   refine aa g'26 ?_
   refine hQ6 _ _ (aY (.inl rfl) hbel (x1 := .sl none 0 (some 0)) (l2 := [.cells false 2 []]) (.sl (some (H.length, 0)) 0 (some 0)) (ai Tryz.results124) [.cells false 2 []] rfl [3] (by decide) ⟨by first | (rw [hfinL]; done) | (rw [hfinL]; rfl), by first | (rw [hfinL]; done) | (rw [hfinL]; rfl)⟩ ?_)
   exact aW
  ·have h19d := bsT h19
   have hfar := h19d
   have g'27 := (jn @h19 (jn @h19d g'25))
   refine aa g'27 ?_
   refine hn6 _ _ ?_
   refine aN fun Q7 hn7 hr7 he7 => ?_
   have hQ7 := fun F H' h => hr7 F H' (hQ F H' h)
   refine aI false try_mixed (by kernel_rfl) ?_
   refine aa g'27 ?_
   refine af (by kernel_rfl) (iv _ _ l m r ⟨_, _, _, rfl, by first | exact hb0s _ | exact hbs⟩ (by assumption)) ?_
   refine aa g'27 ?_
   refine hn7 _ _ ?_
   refine jX false try_mixed [[0, 1, 2, 3, 4, 5, 6, 7, 8, 9, 10, 11, 12, 13, 14, 15, 16, 17], [0, 1, 2, 3, 7, 8, 9, 11, 4, 5, 6, 10, 12, 13, 14, 15, 16, 17], [0, 1, 2, 3, 7, 8, 9, 10, 4, 5, 6, 11, 12, 13, 14, 15, 16, 17], [0, 1, 2, 3, 7, 8, 9, 10, 11, 4, 5, 6, 12, 13, 14, 15, 16, 17]] (by kernel_rfl) (fun F2 H2 => F2 = [(4, .ptr (some (H.length, 0))), (8, .sl none 0 (some 0)), (9, .ptr (some (H.length + 1, 0))), (10, .sl (some (H.length + 2, 0)) ((ar l m).length) (bb (ar l m).length)), (11, .sl (some (H.length + 3, 0)) ((aH l m (ax r g)).length) (bb (aH l m (ax r g)).length))] ∧ H2 = H ++ [.cells true 0 [.int .i64 W, .int .i64 Hh, .sl (some (bpp, 0)) xs.length cpp], .cells true 0 [.int .i64 (ax r g)], .cells (aX (ar l m).length) 9 (r9 (ar l m)), .cells (aX (aH l m (ax r g)).length) 2 (prs (aH l m (ax r g)))]) ?_ ?_
   ·refine aC ?_ (aC ?_ (aC ?_ (aC ?_ (ce)))) <;> intro J hJ
    ·skip
     have q20 := gN (l := ar l m) (by omega)
     have g'28 := (jn @dC (jn @q20 g'27))
     refine aw g'28 ?_
     refine bV (by kernel_rfl) (by simp) (dD _ (g91 (ar l m) 0) (g92 (ar l m) 0) (g93 (ar l m) 0) (g94 (ar l m) 0) (g95 (ar l m) 0) (g96 (ar l m) 0) (by assumption)) ?_
     have q21 := gO (l := ar l m) (by omega)
     have g'29 := (jn @q21 g'28)
     refine aw g'29 ?_
     refine bV (by kernel_rfl) (by simp) (dL _ l m (ax r g)) ?_
     refine aw g'29 ?_
     refine aS (hJ _ _ ⟨_, _, _, ⟨rfl, rfl⟩, Abs.byG hbel [] rfl [0, 2, 3, 5] (by decide) ?_⟩)
     exact aD (jn @bi (jn @bo (jn @bZ @bU)))
    ·skip
     have q22 := gN (l := ar l m) (by omega)
     have g'30 := (jn @dC (jn @q22 g'27))
     refine aw g'30 ?_
     refine bV (by kernel_rfl) (by simp) (dD _ (g91 (ar l m) 0) (g92 (ar l m) 0) (g93 (ar l m) 0) (g94 (ar l m) 0) (g95 (ar l m) 0) (g96 (ar l m) 0) (by assumption)) ?_
     have q23 := gO (l := ar l m) (by omega)
     have g'31 := (jn @q23 g'30)
     refine aw g'31 ?_
     refine bV (by kernel_rfl) (by simp) (dL _ l m (ax r g)) ?_
     refine aw g'31 ?_
     refine aS (hJ _ _ ⟨_, _, _, ⟨rfl, rfl⟩, Abs.byG hbel [] rfl [0, 2, 3, 5] (by decide) ?_⟩)
     exact aD (jn @bi (jn @bo (jn @bZ @bU)))
    ·skip
     have q24 := gN (l := ar l m) (by omega)
     have q25 := gO (l := ar l m) (by omega)
     have g'32 := (jn @dC (jn @q24 (jn @q25 g'27)))
     refine aw g'32 ?_
     refine bV (by kernel_rfl) (by simp) (dD _ (g91 (ar l m) 0) (g92 (ar l m) 0) (g93 (ar l m) 0) (g94 (ar l m) 0) (g95 (ar l m) 0) (g96 (ar l m) 0) (by assumption)) ?_
     refine aw g'32 ?_
     refine bV (by kernel_rfl) (by simp) (dL _ l m (ax r g)) ?_
     refine aw g'32 ?_
     refine aS (hJ _ _ ⟨_, _, _, ⟨rfl, rfl⟩, Abs.byG hbel [] rfl [0, 2, 3, 5] (by decide) ?_⟩)
     exact aD (jn @bi (jn @bo (jn @bZ @bU)))
    ·skip
     have q26 := gN (l := ar l m) (by omega)
     have q27 := gO (l := ar l m) (by omega)
     have g'33 := (jn @dC (jn @q26 (jn @q27 g'27)))
     refine aw g'33 ?_
     refine bV (by kernel_rfl) (by simp) (dD _ (g91 (ar l m) 0) (g92 (ar l m) 0) (g93 (ar l m) 0) (g94 (ar l m) 0) (g95 (ar l m) 0) (g96 (ar l m) 0) (by assumption)) ?_
     refine aw g'33 ?_
     refine bV (by kernel_rfl) (by simp) (dL _ l m (ax r g)) ?_
     refine aw g'33 ?_
     refine aS (hJ _ _ ⟨_, _, _, ⟨rfl, rfl⟩, Abs.byG hbel [] rfl [0, 2, 3, 5] (by decide) ?_⟩)
     exact aD (jn @bi (jn @bo (jn @bZ @bU)))
   rintro F2 H2 ⟨rfl, rfl⟩
   refine aI false try_mixed (by kernel_rfl) ?_
   have g'34 := (jn @dC (jn @jf (jn @bp (jn @cC g'27))))
   refine aa g'34 ?_
   refine go_loop try_mixed (by kernel_rfl) (fun k F Hx => ∃ j : Nat, j + k = (aH l m (ax r g)).length ∧ F = [(4, .ptr (some (H.length, 0))), (9, .ptr (some (H.length + 1, 0))), (10, .sl (some (H.length + 2, 0)) ((ar l m).length) (bb (ar l m).length)), (13, .sl (some (H.length + 4, 0)) ((((aH l m (ax r g)).take j).filter (bK W Hh l m (ax r g))).length) (bb (((aH l m (ax r g)).take j).filter (bK W Hh l m (ax r g))).length)), (49, .sl (some (H.length + 3, 0)) ((aH l m (ax r g)).length) (bb (aH l m (ax r g)).length)), (50, .int .i64 (((aH l m (ax r g)).length : Nat) : Int)), (51, .int .i64 ((j : Nat) : Int))] ∧ Hx = H ++ [.cells true 0 [.int .i64 W, .int .i64 Hh, .sl (some (bpp, 0)) xs.length cpp], .cells true 0 [.int .i64 (ax r g)], .cells (aX (ar l m).length) 9 (r9 (ar l m)), .cells (aX (aH l m (ax r g)).length) 2 (prs (aH l m (ax r g))), .cells (aX (((aH l m (ax r g)).take j).filter (bK W Hh l m (ax r g))).length) 2 (prs (((aH l m (ax r g)).take j).filter (bK W Hh l m (ax r g))))]) ((aH l m (ax r g)).length) ?_ ?_
   ·refine ⟨_, _, _, ⟨0, by omega, rfl, rfl⟩, Abs.byG hbel [.cells false 2 []] rfl [0, 1, 2, 3, 4] (by decide) ?_⟩
    exact aD (jn @List.take_zero.{0} (jn @List.filter_nil.{0} (jn @bi (jn @bo (jn @bZ @bU)))))
   ·rintro k0 F Hx ⟨j, hm0, rfl, rfl⟩ J0 hJ0
    refine aa g'34 ?_
    refine ak (fun h28 => ?_) (fun h28 => ?_)
    ·have h28d := bsT h28
     have hlt : j < (aH l m (ax r g)).length := by omega
     have hpr := (ct hlt).symm
     have hst := th (p := (bK W Hh l m (ax r g))) hlt
     have hfln := flt_len (p := (bK W Hh l m (ax r g))) (l := (aH l m (ax r g))) (j := j)
     have q29 := cA (l := aH l m (ax r g)) (j := j) (by omega)
     have g'35 := (jn @h28 (jn @h28d (jn @q29 g'34)))
     refine aa g'35 ?_
     rcases Bool.eq_false_or_eq_true (sqO (g1 (aH l m (ax r g)) j) (g2 (aH l m (ax r g)) j)) with h30 | h30
     ·have h30d := h30
      have hsq := h30d
      refine af (by kernel_rfl) (psqr_t _ (g1 (aH l m (ax r g)) j) (g2 (aH l m (ax r g)) j) (by assumption)) ?_
      have g'36 := (jn @h30 (jn @h30d g'35))
      refine aa g'36 ?_
      refine af (by kernel_rfl) (cN _ (g1 (aH l m (ax r g)) j) 0 (W - 1)) ?_
      refine aa g'36 ?_
      refine al (fun h31 => ?_) (fun h31 => ?_)
      ·have h31d := bsT h31
       have hbx := h31d
       have g'37 := (jn @h31 (jn @h31d g'36))
       refine aa g'37 ?_
       refine af (by kernel_rfl) (cN _ (g2 (aH l m (ax r g)) j) 0 (Hh - 1)) ?_
       refine aa g'37 ?_
       refine al (fun h32 => ?_) (fun h32 => ?_)
       ·have h32d := bsT h32
        have hby := h32d
        have g'38 := (jn @h32 (jn @h32d g'37))
        refine aa g'38 ?_
        refine af (by kernel_rfl) (has_r _ _ (ar l m) ⟨_, _, _, by first | rfl | (rw [List.length_append]; done) | (rw [List.length_append]; rfl), by first | rfl | (rw [aj]; rfl) | (rw [ag]; rfl) | (rw [aj, ah]; rfl) | (rw [ag, ah]; rfl)⟩ (by omega) _ [.ptr (some (H.length + 6, 0)), .ptr (some (H.length + 1, 0))] (by kernel_rfl) (by simp [AV.bels, AV.bel]) (fun e => !psC e (ax r g) (g1 (aH l m (ax r g)) j, g2 (aH l m (ax r g)) j)) (fun j' hj' => kprv1_c _ _ _ _ _ _ _ _ _ _ _ _ _ _ _ _ _ ⟨_, by first | (rw [aj]; rfl) | (rw [ag]; rfl)⟩ ⟨_, by first | (rw [aj]; rfl) | (rw [ag]; rfl)⟩ (hpair _ hj'))) ?_
        refine aa g'38 ?_
        refine ak (fun h33 => ?_) (fun h33 => ?_)
        ·have h33d := bsT h33
         have hok : bK W Hh l m (ax r g) (g1 (aH l m (ax r g)) j, g2 (aH l m (ax r g)) j) = true := by unfold bK prvB; rw [hbx, hby, List.all_eq_not_any_not, h33d]; rfl
         rw [hpr, if_pos hok] at hst
         have g'39 := (jn @h33 (jn @h33d (jn @dU g'38)))
         refine aa g'39 ?_
         refine hJ0 _ _ ⟨k0 - 1, by omega, _, _, _, ⟨j + 1, by omega, rfl, rfl⟩, Abs.byG hbel [] rfl [0, 1, 2, 3, 8] (by decide) ?_⟩
         exact aD (jn @hst (jn @bi (jn @bo (jn @bZ @bU))))
        ·have h33d := bsT h33
         have hok : bK W Hh l m (ax r g) (g1 (aH l m (ax r g)) j, g2 (aH l m (ax r g)) j) = false := by unfold bK prvB; rw [hbx, hby, List.all_eq_not_any_not, h33d]; rfl
         rw [hpr, if_neg (by rw [hok]; decide), List.append_nil] at hst
         have g'40 := (jn @h33 (jn @h33d g'38))
         refine aa g'40 ?_
         refine hJ0 _ _ ⟨k0 - 1, by omega, _, _, _, ⟨j + 1, by omega, rfl, rfl⟩, Abs.byG hbel [] rfl [0, 1, 2, 3, 4] (by decide) ?_⟩
         exact aD (jn @hst (jn @bi (jn @bo (jn @bZ @bU))))
       ·have h32d := bsT h32
        have hok : bK W Hh l m (ax r g) (g1 (aH l m (ax r g)) j, g2 (aH l m (ax r g)) j) = false := by unfold bK; rw [hbx, h32d]; rfl
        rw [hpr, if_neg (by rw [hok]; decide), List.append_nil] at hst
        have g'41 := (jn @h32 (jn @h32d g'37))
        refine aa g'41 ?_
        refine hJ0 _ _ ⟨k0 - 1, by omega, _, _, _, ⟨j + 1, by omega, rfl, rfl⟩, Abs.byG hbel [] rfl [0, 1, 2, 3, 4] (by decide) ?_⟩
        exact aD (jn @hst (jn @bi (jn @bo (jn @bZ @bU))))
      ·have h31d := bsT h31
       have hok : bK W Hh l m (ax r g) (g1 (aH l m (ax r g)) j, g2 (aH l m (ax r g)) j) = false := by unfold bK; rw [h31d]; rfl
       rw [hpr, if_neg (by rw [hok]; decide), List.append_nil] at hst
       have g'42 := (jn @h31 (jn @h31d g'36))
       refine aa g'42 ?_
       refine hJ0 _ _ ⟨k0 - 1, by omega, _, _, _, ⟨j + 1, by omega, rfl, rfl⟩, Abs.byG hbel [] rfl [0, 1, 2, 3, 4] (by decide) ?_⟩
       exact aD (jn @hst (jn @bi (jn @bo (jn @bZ @bU))))
     ·have h30d := h30
      have hsq := h30d
      refine af (by kernel_rfl) (psqr_f _ (g1 (aH l m (ax r g)) j) (g2 (aH l m (ax r g)) j) (by assumption)) ?_
      have g'43 := (jn @h30 (jn @h30d g'35))
      refine aa g'43 ?_
      refine af (by kernel_rfl) (cN _ (g1 (aH l m (ax r g)) j) 0 (W - 1)) ?_
      refine aa g'43 ?_
      refine al (fun h34 => ?_) (fun h34 => ?_)
      ·have h34d := bsT h34
       have hbx := h34d
       have g'44 := (jn @h34 (jn @h34d g'43))
       refine aa g'44 ?_
       refine af (by kernel_rfl) (cN _ (g2 (aH l m (ax r g)) j) 0 (Hh - 1)) ?_
       refine aa g'44 ?_
       refine al (fun h35 => ?_) (fun h35 => ?_)
       ·have h35d := bsT h35
        have hby := h35d
        have hq1 := bN.1 hbx
        have hq2 := bN.1 hby
        exact absurd (show sqO (g1 (aH l m (ax r g)) j) (g2 (aH l m (ax r g)) j) = true by unfold sqO; rw [Bool.and_eq_true, bl, bl]; omega) (by rw [hsq]; decide)
       ·have h35d := bsT h35
        have hok : bK W Hh l m (ax r g) (g1 (aH l m (ax r g)) j, g2 (aH l m (ax r g)) j) = false := by unfold bK; rw [hbx, h35d]; rfl
        rw [hpr, if_neg (by rw [hok]; decide), List.append_nil] at hst
        have g'45 := (jn @h35 (jn @h35d g'44))
        refine aa g'45 ?_
        refine hJ0 _ _ ⟨k0 - 1, by omega, _, _, _, ⟨j + 1, by omega, rfl, rfl⟩, Abs.byG hbel [] rfl [0, 1, 2, 3, 4] (by decide) ?_⟩
        exact aD (jn @hst (jn @bi (jn @bo (jn @bZ @bU))))
      ·have h34d := bsT h34
       have hok : bK W Hh l m (ax r g) (g1 (aH l m (ax r g)) j, g2 (aH l m (ax r g)) j) = false := by unfold bK; rw [h34d]; rfl
       rw [hpr, if_neg (by rw [hok]; decide), List.append_nil] at hst
       have g'46 := (jn @h34 (jn @h34d g'43))
       refine aa g'46 ?_
       refine hJ0 _ _ ⟨k0 - 1, by omega, _, _, _, ⟨j + 1, by omega, rfl, rfl⟩, Abs.byG hbel [] rfl [0, 1, 2, 3, 4] (by decide) ?_⟩
       exact aD (jn @hst (jn @bi (jn @bo (jn @bZ @bU))))
    ·have h28d := bsT h28
     obtain rfl : j = (aH l m (ax r g)).length := by omega
     have hfinL : ((aH l m (ax r g)).take (aH l m (ax r g)).length).filter (bK W Hh l m (ax r g)) = ej W Hh l m r g := by rw [List.take_length]; exact (if_neg hfar).symm
     have g'47 := (jn @h28 (jn @h28d g'34))
     refine aa g'47 ?_
     refine hQ _ _ (aY (.inl rfl) hbel (x1 := .sl (some (H.length + 4, 0)) ((((aH l m (ax r g)).take (aH l m (ax r g)).length).filter (bK W Hh l m (ax r g))).length) (bb (((aH l m (ax r g)).take (aH l m (ax r g)).length).filter (bK W Hh l m (ax r g))).length)) (l2 := [.cells (aX (((aH l m (ax r g)).take (aH l m (ax r g)).length).filter (bK W Hh l m (ax r g))).length) 2 (prs (((aH l m (ax r g)).take (aH l m (ax r g)).length).filter (bK W Hh l m (ax r g))))]) (.sl (some (H.length, 0)) ((((aH l m (ax r g)).take (aH l m (ax r g)).length).filter (bK W Hh l m (ax r g))).length) (bb (((aH l m (ax r g)).take (aH l m (ax r g)).length).filter (bK W Hh l m (ax r g))).length)) (ai Tryz.results124) [] rfl [4] (by decide) ⟨by first | (rw [hfinL]; done) | (rw [hfinL]; rfl), by first | (rw [hfinL]; done) | (rw [hfinL]; rfl)⟩ ?_)
     exact aW
open Go.RowKit Go.Sort
set_option maxRecDepth 100000 in
theorem sortc_f {α : Type} [Inhabited α] (val : α → Int × Int) (cf : α → α → Int) (hO : SWO (ltOf cf)) (g : FuncId) (eg : ∀ args w, (callFunc g args).run Tryz.prog w = .ok (.enter g args) w)
  (hcmp : ∀ (x y : α) (W : World), Calls Tryz.prog g #[.agg #[.int .i64 (val x).1, .int .i64 (val x).2], .agg #[.int .i64 (val y).1, .int .i64 (val y).2]] W fun e w' => e = .returned (.int .i64 (cf x y)) ∧ ∃ q os', w' = grow (W.drewN q) os')
  {H : ac} {b n : Nat} {cap : Option Nat} {zs : List α} (hg : H[b]? = some (.cells true 2 (prs (zs.map val)))) (hn : n = zs.length) (h0 : 0 < n) (h1 : n ≤ 1000000) :
  ACalls Tryz.prog 125 [.sl (some (b, 0)) n cap, .fn g []] H
   (fun v H' => v = .tup [] ∧ ∃ ys : List α, ys.Perm zs ∧ ys.Pairwise (fun x y => ltOf cf y x = false) ∧ H' = H.set b (.cells true 2 (prs (ys.map val)))) := fun E w vs hE hv => by
 obtain ⟨v1, l1, rfl, k1, h1'⟩ := iU hv
 obtain ⟨v2, l2, rfl, k2, h2'⟩ := iU h1'
 obtain rfl := pY h2'
 have hf : v2 = .func (.func g) #[] #[] := by
  cases k2 with
  | fn _ _ cs hl _ =>
   have : cs = #[] := by
    have : cs.size = 0 := hl.symm
    exact Array.eq_empty_of_size_eq_zero this
   rw [this]
 subst hf
 cases k1 with
 | nils _ _ _ _ => exact absurd h0 (Nat.lt_irrefl 0)
 | sl _ _ _ _ c a hb h2 h3 h4 h5 h6 =>
 have hc : c ≠ 0 := by omega
 obtain rfl := h5.resolve_left hc
 obtain ⟨m1, m2, -, -⟩ := hE.blk b _ hg
 obtain ⟨o1, o2, o3, o4, o5⟩ := m2 rfl
 have hpl : (prs (zs.map val)).length = zs.length * 2 := by rw [bp]; simp
 have hH : HoldsK (encP val) 2 w (E.loc b).blk (E.loc b).off zs.toArray := by
  show Holds id w _ _ (flatK (encP val) 2 zs.toArray)
  rw [pg]
  intro j hj
  have hj' : j < zs.length * 2 := by simpa [j6] using hj
  refine ⟨?_, (o5 j (by omega)).2⟩
  have hx : (prs (zs.map val))[j]? = some (prs (zs.map val))[j] := List.getElem?_eq_getElem (by omega)
  obtain ⟨-, v, hv, hr⟩ := m1 j _ hx
  rw [hv]
  obtain ⟨u, hu, hru⟩ := (kj (E := E) (zs.map val)).get hx
  have : ∀ (k : Nat) (l : List (Int × Int)) (y : AV) (v u : Value), (prs l)[k]? = some y → Rel E y v → (d5 l)[k]? = some u → v = u := by
   intro k l
   induction l generalizing k with
   | nil => intro y v u h; simp [prs] at h
   | cons p l ih =>
    intro y v u h1 h2 h3
    match k with
    | 0 => simp [cG, d5] at h1 h3; subst h1 h3; exact lW h2
    | 1 => simp [cG, d5] at h1 h3; subst h1 h3; exact lW h2
    | k + 2 =>
     refine ih k y v u (by simpa [cG] using h1) h2 ?_
     simpa [d5] using h3
  have e := this j _ _ v u hx hr hu
  subst e
  simp [List.getElem!_eq_getElem?_getD, hu]
 have hcon := AnyQ.slices_SortFunc Tryz.sort125 2 Tryz.isAgg104 Tryz.sizeOf104 (encP val) (fun _ => rfl) (fun x v hv => by simp [encP] at hv; rcases hv with rfl | rfl <;> rfl) cf hO g #[] (E.loc b).blk (E.loc b).off c zs.toArray w eg
  (fun _ _ _ _ x y => by simpa [encP] using hcmp x y _) hH o2 (by simp; omega)
 change Calls Tryz.prog 125 _ _ _ at hcon
 have hsz : zs.toArray.size = n := by simp [hn]
 rw [hsz] at hcon
 refine hcon.mono fun e w' ⟨he, d', q, os, hp, hs, hw⟩ => ?_
 subst hw
 obtain ⟨p1, -, p3⟩ := hp
 have hperm : d'.toList.Perm zs := by
  have a1 : d'.extract 0 n = d' := by rw [← hsz, ← p1]; simp
  have a2 : zs.toArray.extract 0 n = zs.toArray := by rw [← hsz]; simp
  rw [a1, a2] at p3
  simpa using p3
 have hl : (d'.toList.map val).length = (zs.map val).length := by simp [hperm.length_eq]
 refine ⟨E, _, _, .tup [], he, ⟨rfl, d'.toList, hperm, ?_, rfl⟩, .refl E, .tup [] #[] rfl (fun i x v h => by simp at h), ?_⟩
 ·rw [List.pairwise_iff_getElem]
  intro i j hi hj hij
  have := hs i j (Nat.zero_le _) hij (by have := hperm.length_eq; simp at hj this; omega)
  simp at hi hj
  simpa [hi, hj] using this
 ·have hd : d' = d'.toList.toArray := by simp
  have e1 : sortWorldK (encP val) 2 w (E.loc b).blk (E.loc b).off q d' os = grow ((w.drewN q).setCells (E.loc b).blk (E.loc b).off (d5 (d'.toList.map val))) os := by
   unfold sortWorldK
   congr 1
   show putRow id (Sort.ahead w q) _ _ (flatK (encP val) 2 d') = _
   rw [hd, pg]
   have := Lib.putRow_eq_setCells id w (E.loc b).blk (E.loc b).off (flatK (encP val) 2 zs.toArray) (d5 (d'.toList.map val)) q hH (by rw [j6, hl]; simp)
   simpa using this
  rw [e1]
  exact hE.putP hg hl os
open Go.RowKit Go.Sort
theorem or_h (a b : Int) (w : World) (blk off c : Nat) (h0 : w.cell? ⟨blk, off, none⟩ = some (.int .i64 a)) (h1 : w.cell? ⟨blk, off + 1, none⟩ = some (.int .i64 b)) :
  Calls Tryz.prog 168 #[.slice (some ⟨blk, off, none⟩) 2 c] w fun e w' => e = .returned (.int .i64 (if a = 0 then b else a)) ∧ w' = w := by
 have g0 : w.cell? ⟨blk, off + 0, none⟩ = some (.int .i64 a) := h0
 go_enter Tryz.func168, Tryz.ntmps168
 go_wp2
 go_loop [8] (fun i => ∃ k : Nat, k ≤ 2 ∧ i = .int .i64 k ∧ Hid ((1 ≤ k → a = 0) ∧ (2 ≤ k → b = 0))) (fun i => 2 - (intOf i).toNat)
 case atStart => exact ⟨0, by omega, rfl, ⟨fun h => by omega, fun h => by omega⟩⟩
 case round =>
  obtain ⟨k, hk, rfl, HK⟩ := hrel
  rcases (by omega : k = 0 ∨ k = 1 ∨ k = 2) with rfl | rfl | rfl
  ·by_cases ha : a = 0
   ·go_wp2
    go_round
    case rel => exact ⟨1, by omega, by go_num, ⟨fun _ => ha, fun h => by omega⟩⟩
    case measure => simp [intOf]
   ·go_wp2
    go_ret
    exact ⟨fZ (by first | rfl | (rw [if_neg ha])), rfl⟩
  ·have ha := HK.out.1 (by omega)
   by_cases hb : b = 0
   ·go_wp2
    go_round
    case rel => exact ⟨2, by omega, by go_num, ⟨fun _ => ha, fun h => hb⟩⟩
    case measure => simp [intOf]
   ·go_wp2
    go_ret
    exact ⟨fZ (by first | rfl | (rw [if_pos ha])), rfl⟩
  ·have ha := HK.out.1 (by omega)
   have hb := HK.out.2 (by omega)
   go_wp2
   go_ret
   exact ⟨fZ (by first | rfl | (rw [if_pos ha, hb])), rfl⟩
theorem ji (w : World) (cs : Array Value) (t B j : Nat) (hB : B = w.heap.size) : (w.alloc (.cells cs t)).cell? ⟨B, j, none⟩ = cs[j]? := by
 subst hB
 unfold World.cell?
 have : (w.alloc (.cells cs t)).heap[w.heap.size]? = some (.cells cs t) := by
  show (w.heap.push _)[w.heap.size]? = _
  rw [Array.getElem?_push, if_pos rfl]
 rw [this]; rfl
theorem lH (w : World) (cs : Array Value) (t B j : Nat) (hB : B = w.heap.size) : (w.alloc (.cells cs t)).drew.cell? ⟨B, j, none⟩ = cs[j]? := ji w cs t B j hB
def cfC (a b : Pt) : Int := if fK a.2 b.2 = 0 then fK a.1 b.1 else fK a.2 b.2
set_option maxHeartbeats 20000000 in
theorem before_h (x y : Pt) (W : World) : Calls Tryz.prog 126 #[.agg #[.int .i64 x.1, .int .i64 x.2], .agg #[.int .i64 y.1, .int .i64 y.2]] W fun e w' => e = .returned (.int .i64 (cfC x y)) ∧ ∃ q os', w' = grow (W.drewN q) os' := by
 have hcon := compare_h
 have hcon2 : ∀ (w : World) (blk off c : Nat), w.cell? ⟨blk, off, none⟩ = some (.int .i64 (fK x.2 y.2)) → w.cell? ⟨blk, off + 1, none⟩ = some (.int .i64 (fK x.1 y.1)) →
  Calls Tryz.prog 168 #[.slice (some ⟨blk, off, none⟩) 2 c] w fun e w' => e = .returned (.int .i64 (cfC x y)) ∧ w' = w := by
  intro w blk off c h0 h1
  have k := or_h (fK x.2 y.2) (fK x.1 y.1) w blk off c h0 h1
  unfold cfC
  exact k
 go_enter Tryz.func126, Tryz.ntmps126
 go_wp2_with (first | (go_at_call 169; refine (hcon _ _ _).mono ?_; rintro e w' ⟨rfl, rfl⟩) | fail)
 go_region_held3 (fun w' => w'.cell? ⟨W.heap.size, 0, none⟩ = some (.int .i64 x.1) ∧ w'.cell? ⟨W.heap.size, 1, none⟩ = some (.int .i64 x.2) ∧ w'.cell? ⟨W.heap.size + 1, 0, none⟩ = some (.int .i64 y.1) ∧ w'.cell? ⟨W.heap.size + 1, 1, none⟩ = some (.int .i64 y.2)) (go_keep)
  (first
   | (go_at_call 169; refine (hcon _ _ _).mono ?_; rintro e w' ⟨rfl, rfl⟩)
   | (go_at_call 168; refine (hcon2 _ _ _ _ ?h1 ?h2).mono ?_; case h1 => first | exact (ji _ _ _ _ _ (by simp)).trans rfl | exact (lH _ _ _ _ _ (by simp)).trans rfl
      case h2 => first | exact (ji _ _ _ _ _ (by simp)).trans rfl | exact (lH _ _ _ _ _ (by simp)).trans rfl
      rintro e w' ⟨rfl, rfl⟩))
 go_wp2
 go_ret
 exact ⟨rfl, 1, _, by rw [alloc_eq_grow, alloc_eq_grow, alloc_eq_grow, grow_grow, grow_grow]; rfl⟩
theorem jH (x y : Pt) : ltOf cfC x y = decide (cO x y) := by
 rw [Bool.eq_iff_iff]
 unfold ltOf
 rw [decide_eq_true_eq, decide_eq_true_eq]
 unfold cfC fK cO
 repeat' split
 all_goals omega
theorem swoC : SWO (ltOf cfC) where
 irrefl x := by rw [jH, decide_eq_false_iff_not]; exact befP_irr
 trans x y z h1 h2 := by
  rw [jH, decide_eq_true_eq] at *
  exact fY h1 h2
 ntrans x y z h1 h2 := by
  rw [jH, decide_eq_false_iff_not] at *
  unfold cO at *; omega
set_option maxRecDepth 100000 in
theorem sortc_c (H : ac) (b : Nat) (cap : Option Nat) (l : List Pt) (hb : H[b]? = some (.cells true 2 (prs l))) (h0 : 0 < l.length) (h1 : l.length ≤ 1000000) :
  ACalls Tryz.prog 125 [.sl (some (b, 0)) l.length cap, .fn 126 []] H (fun v H' => v = .tup [] ∧ H' = H.set b (.cells true 2 (prs (di l)))) := by
 have eg : ∀ args w, (callFunc 126 args).run Tryz.prog w = .ok (.enter 126 args) w := enters_of Tryz.func126 (by kernel_rfl) rfl
 refine (sortc_f (α := Pt) id cfC swoC 126 eg (fun x y W => before_h x y W) (zs := l) (by rw [List.map_id]; exact hb) rfl h0 h1).mono ?_
 rintro v H' ⟨rfl, ys, hp, hs, rfl⟩
 have e : ys = di l := by
  refine tl (hp.trans (fF l).symm) (hs.imp fun {x y} h => ?_) (gT l)
  rw [jH, decide_eq_false_iff_not] at h
  rcases leC_tot x y with k | k
  ·exact k
  ·unfold leC at k ⊢
   rcases k with k | k
   ·exact .inl k.symm
   ·exact absurd k h
 rw [List.map_id, e]
 exact ⟨rfl, rfl⟩
open Go.RowKit
theorem pC {l : List (Int × Int)} {i m : Nat} (h : i + m < l.length) : ((prs l).drop (i * 2 + m * 2)).take 2 = [.int .i64 (g1 l (i + m)), .int .i64 (g2 l (i + m))] := by
 rw [show i * 2 + m * 2 = (i + m) * 2 by omega]; exact cA h
def NoEq (l : List (Int × Int)) (i : Nat) : Prop := ∀ j : Nat, 1 ≤ j → (h : j < l.length) → j < i → l[j - 1]'(by omega) ≠ l[j]
theorem kD {l : List (Int × Int)} : ∀ {i : Nat}, i ≤ l.length → NoEq l i → bL (l.take i) = l.take i
 | 0, _, _ => rfl
 | 1, h, _ => cpt_1 (by rw [List.length_take]; omega)
 | i + 2, h, k => by
  rw [kA (by omega) (by omega), kD (i := i + 1) (by omega) (fun j h1 h2 h3 => k j h1 h2 (by omega)), if_neg (k (i + 1) (by omega) (by omega) (by omega)), ← List.take_succ_eq_append_getElem]
theorem padL_id (l : List (Int × Int)) : du l.length l = l := by simp [du]
set_option maxRecDepth 100000 in
theorem cpt_cell (H : ac) (b : Nat) (cap : Option Nat) (l : List (Int × Int)) (hb : H[b]? = some (.cells (aX l.length) 2 (prs l))) (hl : l.length ≤ 1000000000) :
  ACalls Tryz.prog 127 [.sl (some (b, 0)) l.length cap] H (fun v H' => v = .sl (some (b, 0)) (bL l).length none ∧ H' = H.set b (.cells (aX l.length) 2 (prs (du l.length (bL l))))) := by
 have hbl := getElem?_lt hb
 have hset : ∀ X L, (H.set b X ++ L)[b]? = some X := fun X L => by rw [List.getElem?_append_left (by simpa using hbl), List.getElem?_set_self hbl]
 have hset0 : ∀ X, (H.set b X)[b]? = some X := fun X => List.getElem?_set_self hbl
 have hself : H.set b (.cells (aX l.length) 2 (prs l)) = H := by
  refine List.ext_getElem? fun i => ?_
  rw [List.getElem?_set]
  split
  ·rename_i e; subst e; first | exact hb.symm | (rw [if_pos hbl]; exact hb.symm)
  ·rfl
 have hend : bL l = l → H.set b (.cells (aX l.length) 2 (prs (du l.length (bL l)))) = H := fun e => by rw [e, padL_id, hself]
 (refine b9 try_mixed Tryz.func127 true _ rfl (Nat.le_of_ble_eq_true (by kernel_rfl)) (by kernel_rfl) ?_; intro hbel Q hQ hQ' c hc; unfold Tryz.f127 at hc; simp only [Option.some.injEq] at hc; subst hc; clear hQ')
 simp -implicitDefEqProofs (disch := omega) only [simprocAttr, aF, aG, Function.comp_apply, one1, lenV, ap, az, aA, aop, AV.ofValue, AV.ofCell, AV.cells, AV.flat, AV.one, arep, aP, av, aE]
 refine ak (fun h1 => ?_) (fun h1 => ?_)
 ·have h1d := of_decide_eq_true h1
  have e := cpt_1 (l := l) (by omega)
  simp -implicitDefEqProofs (disch := omega) only [h1, simprocAttr, aF, aG, Function.comp_apply, one1, lenV, ap, az, aA, aop, AV.ofValue, AV.ofCell, AV.cells, AV.flat, AV.one, arep, aP, av, aE]
  exact hQ _ _ (jr (.inl rfl) hbel (x1 := .sl (some (b, 0)) l.length cap) (l2 := []) (.sl (some (b, 0)) (bL l).length none) (ai Tryz.results127) [] rfl [] (by decide) ⟨rfl, by rw [List.append_nil, hend e]⟩ (by rw [e]; exact aW))
 ·have h1d := of_decide_eq_false h1
  have hown : aX l.length = true := dH (by omega)
  rw [hown] at hb hself
  simp -implicitDefEqProofs (disch := omega) only [h1, simprocAttr, aF, aG, Function.comp_apply, one1, lenV, ap, az, aA, aop, AV.ofValue, AV.ofCell, AV.cells, AV.flat, AV.one, arep, aP, av, aE]
  refine go_loop try_mixed (by kernel_rfl) (fun k F Hx => ∃ i : Nat, i + k = l.length ∧ 1 ≤ i ∧ NoEq l i ∧ F = [(0, .sl (some (b, 0)) l.length cap), (3, .int .i64 ((i : Nat) : Int))] ∧ H = Hx) (l.length - 1) ?_ ?_
  ·refine ⟨_, _, _, ⟨1, by omega, by omega, fun j h2 h3 h4 => by omega, rfl, rfl⟩, Abs.by0 hbel ?_⟩
   exact aW
  ·rintro k F Hx ⟨i, hik, hi1, hne, rfl, rfl⟩ J hJ
   by_cases hi : i < l.length
   ·have hii : (i : Int) < (l.length : Int) := by omega
    have q1 := cA (l := l) (j := i) hi
    have q2 := cA (l := l) (j := i - 1) (by omega)
    have hsub : ((i : Int) - 1).toNat = i - 1 := by omega
    simp -implicitDefEqProofs (disch := omega) only [hii, hb, q1, q2, hsub, bp, cC, simprocAttr, aF, aG, Function.comp_apply, one1, lenV, ap, az, aA, aop, AV.ofValue, AV.ofCell, AV.cells, AV.flat, AV.one, arep, aP, av, aE]
    repeat refine And.intro (by omega) ?_
    refine ak (fun h2 => ?_) (fun h2 => ?_)
    ·have heq : l[i - 1]'(by omega) = l[i] := by
      simp only [Bool.and_eq_true, beq_iff_eq] at h2
      rw [← ct hi, ← ct (show i - 1 < l.length by omega), h2.1, h2.2]
     have hc0 : bL (l.take (i + 1)) = l.take i := by rw [kA hi1 hi, if_pos heq, List.append_nil, kD (by omega) hne]
     have hcl : (bL (l.take (i + 1))).length = i := by rw [hc0, List.length_take]; omega
     have hsl : ((i : Int) - 0).toNat = i := by omega
     simp -implicitDefEqProofs (disch := omega) only [h2, hb, bp, cC, simprocAttr, aF, aG, Function.comp_apply, one1, lenV, ap, az, aA, aop, AV.ofValue, AV.ofCell, AV.cells, AV.flat, AV.one, arep, aP, av, aE]
     repeat refine And.intro (by omega) ?_
     refine go_loop try_mixed (by kernel_rfl) (fun k F Hx => ∃ (j c : Nat) (X : List (Int × Int)), j + k = l.length ∧ i + 1 ≤ j ∧ c = (bL (l.take j)).length ∧ c < j ∧ X.length = l.length ∧ X.take c = bL (l.take j) ∧ X.drop (j - 1) = l.drop (j - 1) ∧ F = [(0, .sl (some (b, 0)) l.length cap), (3, .int .i64 ((c : Nat) : Int)), (4, .sl (some (b, i * 2)) (l.length - i) none), (5, .int .i64 ((j - i : Nat) : Int))] ∧ Hx = H.set b (.cells true 2 (prs X))) (l.length - (i + 1)) ?_ ?_
     ·refine ⟨_, _, _, ⟨i + 1, i, l, by omega, by omega, hcl.symm, by omega, rfl, hc0.symm, rfl, rfl, rfl⟩, Abs.by0e hself hbel ?_⟩
      have hi1' : ((i + 1 - i : Nat) : Int) = 1 := by omega
      exact aV @hi1'
     ·rintro k F Hx ⟨j, c, X, hjk, hij, hc, hcj, hXl, hXt, hXd, rfl, rfl⟩ J2 hJ2
      obtain ⟨G, hG⟩ : ∃ G, G = H.set b (.cells true 2 (prs X)) := ⟨_, rfl⟩
      have hGl : G.length = H.length := by rw [hG, List.length_set]
      have hG1 : ∀ L, (G ++ L)[b]? = some (.cells true 2 (prs X)) := fun L => by rw [hG]; exact hset _ _
      have hG0 : G[b]? = some (.cells true 2 (prs X)) := by rw [hG]; exact hset0 _
      have hbG : b < G.length := by omega
      have hGs0 : ∀ Y, G.set b Y = H.set b Y := fun Y => by rw [hG, List.set_set]
      have hGs : ∀ Y L, (G ++ L).set b Y = H.set b Y ++ L := fun Y L => by rw [List.set_append_left _ _ hbG, hG, List.set_set]
      rw [← hG]
      have hbelG : HBel H.length G := by rw [hG]; exact HBel.put hbel b eH
      by_cases hj : j < l.length
      ·have hjj : ((j - i : Nat) : Int) < ((l.length - i : Nat) : Int) := by omega
       have hXj : ∀ q, j - 1 ≤ q → (hq : q < l.length) → X[q]'(by omega) = l[q] := fun q h1 hq => by
        have := congrArg (fun m => m[q - (j - 1)]?) hXd
        simp only [List.getElem?_drop] at this
        rw [show j - 1 + (q - (j - 1)) = q by omega, List.getElem?_eq_getElem (by omega), List.getElem?_eq_getElem hq] at this
        exact Option.some.inj this
       have q3 := pC (l := X) (i := i) (m := j - i) (by omega)
       have q4 := pC (l := X) (i := i) (m := j - i - 1) (by omega)
       have hsub2 : (((j - i : Nat) : Int) - 1).toNat = j - i - 1 := by omega
       rw [show i + (j - i) = j by omega] at q3
       rw [show i + (j - i - 1) = j - 1 by omega] at q4
       simp -implicitDefEqProofs (disch := omega) only [hjj, hG1, hG0, q3, q4, hsub2, bp, cC, simprocAttr, aF, aG, Function.comp_apply, one1, lenV, ap, az, aA, aop, AV.ofValue, AV.ofCell, AV.cells, AV.flat, AV.one, arep, aP, av, aE]
       repeat refine And.intro (by omega) ?_
       have hst := kA (l := l) (j := j) (by omega) hj
       have hcX : c < X.length := by omega
       have hjj2 : ((j + 1 - i : Nat) : Int) = ((j - i : Nat) : Int) + 1 := by omega
       have hpj := ct (l := X) (j := j) (by omega)
       have hpj1 := ct (l := X) (j := j - 1) (by omega)
       have hp2 := sY (a := g1 X j) (b := g2 X j) hcX
       have hXd2 : X.drop j = l.drop j := by
        have := congrArg (fun m => m.drop 1) hXd
        simp only [List.drop_drop] at this
        rwa [show j - 1 + 1 = j by omega] at this
       refine ak (fun h3 => ?_) (fun h3 => ?_)
       ·have hdif : ¬ l[j - 1]'(by omega) = l[j] := fun e => by
         rw [← hXj (j - 1) (by omega) (by omega), ← hXj j (by omega) hj, ← hpj, ← hpj1] at e
         simp only [Prod.mk.injEq] at e
         rw [e.1, e.2] at h3
         simp at h3
        rw [if_neg hdif] at hst
        have hl5 : (bL (l.take (j + 1))).length = c + 1 := by rw [hst, List.length_append, hc]; rfl
        simp -implicitDefEqProofs (disch := omega) only [h3, hG1, hG0, hGs, hGs0, q3, hp2, bp, cC, simprocAttr, aF, aG, Function.comp_apply, one1, lenV, ap, az, aA, aop, AV.ofValue, AV.ofCell, AV.cells, AV.flat, AV.one, arep, aP, av, aE]
        repeat refine And.intro (by omega) ?_
        refine hJ2 _ _ ⟨k - 1, by omega, _, _, _, ⟨j + 1, c + 1, X.set c (g1 X j, g2 X j), by omega, by omega, hl5.symm, by omega, by rw [List.length_set]; exact hXl, ?_, ?_, rfl, rfl⟩, Abs.byS0 (by rw [List.length_set]) (HBel.put hbel b eH) ?_⟩
        ·rw [hst, List.take_succ_eq_append_getElem (by rw [List.length_set]; exact hcX), List.getElem_set_self, List.take_set_of_le (Nat.le_refl _), hXt, hpj, hXj j (by omega) hj]
        ·rw [show j + 1 - 1 = j by omega, List.drop_set_of_lt (by omega), hXd2]
        exact aV (jn @hjj2 (jn @Int.natCast_add @Int.natCast_one))
       ·have heq2 : l[j - 1]'(by omega) = l[j] := by
         rw [← hXj (j - 1) (by omega) (by omega), ← hXj j (by omega) hj, ← hpj, ← hpj1]
         simp only [Bool.not_eq_false', Bool.and_eq_true, beq_iff_eq] at h3
         rw [h3.1, h3.2]
        rw [if_pos heq2, List.append_nil] at hst
        simp -implicitDefEqProofs (disch := omega) only [h3, simprocAttr, aF, aG, Function.comp_apply, one1, lenV, ap, az, aA, aop, AV.ofValue, AV.ofCell, AV.cells, AV.flat, AV.one, arep, aP, av, aE]
        refine hJ2 _ _ ⟨k - 1, by omega, _, _, _, ⟨j + 1, c, X, by omega, by omega, by rw [hst]; exact hc, by omega, hXl, by rw [hst]; exact hXt, by rw [show j + 1 - 1 = j by omega]; exact hXd2, rfl, hG⟩, Abs.byS0 hGl hbelG ?_⟩
        exact aV (jn @hjj2 (jn @Int.natCast_add @Int.natCast_one))
      ·have hjj : ¬ ((j - i : Nat) : Int) < ((l.length - i : Nat) : Int) := by omega
       have hrep := (prs_rep (m := l.length - c)).symm
       have hne0 : (l.length - c == 0) = false := beq_eq_false_iff_ne.2 (by omega)
       have hspl := lA (l := X) (ys := List.replicate (l.length - c) (0, 0)) (i := c) (by rw [List.length_replicate]; omega)
       rw [hXt] at hspl
       simp -implicitDefEqProofs (disch := omega) only [hjj, hG1, hG0, hrep, hne0, hspl, hGs0, bp, cC, List.length_replicate, hset0, simprocAttr, aF, aG, Function.comp_apply, one1, lenV, ap, az, aA, aop, AV.ofValue, AV.ofCell, AV.cells, AV.flat, AV.one, arep, aP, av, aE]
       refine ⟨by omega, ⟨by omega, .inl (Nat.le_refl _)⟩, by omega, by omega, ⟨by omega, .inl (by omega)⟩, ?_⟩
       obtain rfl : j = l.length := by omega
       rw [List.take_length] at hc ⊢
       refine hQ _ _ (end_byS (by rw [List.length_set]) (.inl rfl) (HBel.put hbel b eH) (x1 := .sl (some (b, 0)) (c - 0) (Option.map (fun x => x - 0) cap)) (.sl (some (b, 0)) (bL l).length none) (ai Tryz.results127) ⟨rfl, by rw [hown, hc]; rfl⟩ ?_)
       exact aV (jn @hc @Nat.sub_zero)
    ·have hdif : ¬ l[i - 1]'(by omega) = l[i] := fun e => by
      rw [← ct hi, ← ct (show i - 1 < l.length by omega)] at e
      simp only [Prod.mk.injEq] at e
      rw [e.1, e.2] at h2
      simp at h2
     simp -implicitDefEqProofs (disch := omega) only [h2, simprocAttr, aF, aG, Function.comp_apply, one1, lenV, ap, az, aA, aop, AV.ofValue, AV.ofCell, AV.cells, AV.flat, AV.one, arep, aP, av, aE]
     refine hJ _ _ ⟨k - 1, by omega, _, _, _, ⟨i + 1, by omega, by omega, fun j h3 h4 h5 => by
      rcases Nat.lt_or_ge j i with h6 | h6
      ·exact hne j h3 h4 h6
      ·obtain rfl : j = i := by omega
       exact hdif, rfl, rfl⟩, Abs.by0 hbel ?_⟩
     exact aV (jn @Int.natCast_add @Int.natCast_one)
   ·have hii : ¬ (i : Int) < (l.length : Int) := by omega
    obtain rfl : i = l.length := by omega
    have e : bL l = l := by have := kD (Nat.le_refl _) hne; rwa [List.take_length] at this
    simp -implicitDefEqProofs (disch := omega) only [hii, simprocAttr, aF, aG, Function.comp_apply, one1, lenV, ap, az, aA, aop, AV.ofValue, AV.ofCell, AV.cells, AV.flat, AV.one, arep, aP, av, aE]
    exact hQ _ _ (jr (.inl rfl) hbel (x1 := .sl (some (b, 0)) l.length cap) (l2 := []) (.sl (some (b, 0)) (bL l).length none) (ai Tryz.results127) [] rfl [] (by decide) ⟨rfl, by rw [List.append_nil, hend e]⟩ (by rw [e]; exact aW))
open Go.RowKit
theorem bits0_c (H : ac) : ACalls Tryz.prog 167 [.int .u64 0] H (fun v H' => v = .int .i64 0 ∧ H' = H) := by
 have h := ext_ok 167 [.int .u64 0] H (.int .i64 0) none (by kernel_rfl)
 exact h.2.2
theorem ins0_c (H : ac) (s : AV)   (g : FuncId) (hs : Sl H 2 s 0 []) : ACalls Tryz.prog 199 [s, .int .i64 0, .int .i64 0, .fn g []] H (fun v H' => v = .tup [] ∧ H' = H) := by
 obtain ⟨bs, os, cs, rfl, hbs⟩ := hs
 have hbls := getElem?_lt hbs
 have hb0s := fun l => aq (l := l) hbs
 refine AcN true Tryz.func199 ?_; intro hbel Q hQ
 have g'1 := (jn @hbs @hb0s)
 refine aa g'1 ?_
 refine go_loop try_mixed (by kernel_rfl) (fun k F Hx => ∃ z : Unit, k = 0 ∧ F = [(0, .sl (some (bs, 0)) 0 cs), (1, .int .i64 0), (2, .int .i64 0), (3, .fn g []), (8, .int .i64 1)] ∧ H = Hx) (0) ?_ ?_
 ·refine ⟨_, _, _, ⟨(), by omega, rfl, rfl⟩, Abs.by0 hbel ?_⟩
  exact aW
 ·rintro k0 F Hx ⟨z, hm0, rfl, rfl⟩ J0 hJ0
  refine aa g'1 ?_
  exact hQ _ _ (au (by first | exact .inl rfl | exact .inr rfl) hbel (x := .tup []) (ai Tryz.results199) rfl ⟨rfl, rfl⟩)
theorem pdq0_c (H : ac) (s : AV)   (m : Int) (g : FuncId) (hs : Sl H 2 s 0 []) : ACalls Tryz.prog 166 [s, .int .i64 0, .int .i64 0, .int .i64 m, .fn g []] H (fun v H' => v = .tup [] ∧ H' = H) := by
 obtain ⟨bs, os, cs, rfl, hbs⟩ := hs
 have hbls := getElem?_lt hbs
 have hb0s := fun l => aq (l := l) hbs
 refine AcT true Tryz.func166 ?_; intro hbel Q hQ
 have g'2 := (jn @hbs @hb0s)
 refine aa g'2 ?_
 refine go_loop try_mixed (by kernel_rfl) (fun k F Hx => ∃ z : Unit, k = 0 ∧ F = [(0, .sl (some (bs, 0)) 0 cs), (1, .int .i64 0), (2, .int .i64 0), (3, .int .i64 m), (4, .fn g []), (10, .bool true), (11, .bool true)] ∧ H = Hx) (0) ?_ ?_
 ·refine ⟨_, _, _, ⟨(), by omega, rfl, rfl⟩, Abs.by0 hbel ?_⟩
  exact aW
 ·rintro k0 F Hx ⟨z, hm0, rfl, rfl⟩ J0 hJ0
  refine aa g'2 ?_
  refine af (by kernel_rfl) (ins0_c _ _ g ⟨_, _, _, rfl, by first | exact hb0s _ | exact hbs⟩) ?_
  refine aa g'2 ?_
  exact hQ _ _ (au (.inl rfl) hbel (x := .tup []) (ai Tryz.results166) rfl ⟨rfl, rfl⟩)
theorem srt0_c (H : ac) (s : AV) (g : FuncId) (hs : Sl H 2 s 0 []) : ACalls Tryz.prog 125 [s, .fn g []] H (fun v H' => v = .tup [] ∧ H' = H) := by
 obtain ⟨bs, os, cs, rfl, hbs⟩ := hs
 have hbls := getElem?_lt hbs
 have hb0s := fun l => aq (l := l) hbs
 refine AcN true Tryz.func125 ?_; intro hbel Q hQ
 have g'3 := (jn @hbs @hb0s)
 refine aa g'3 ?_
 refine af (by kernel_rfl) (bits0_c _) ?_
 refine aa g'3 ?_
 refine af (by kernel_rfl) (pdq0_c _ _ 0 g ⟨_, _, _, rfl, by first | exact hb0s _ | exact hbs⟩) ?_
 refine aa g'3 ?_
 exact hQ _ _ (au (by first | exact .inl rfl | exact .inr rfl) hbel (x := .tup []) (ai Tryz.results125) rfl ⟨rfl, rfl⟩)
open Go.RowKit
theorem srtk_c (H : ac) (b : Nat) (cap : Option Nat) (l : List (Int × Int)) (hb : H[b]? = some (.cells (aX l.length) 2 (prs l))) (h1 : l.length ≤ 1000000) :
  ACalls Tryz.prog 125 [.sl (some (b, 0)) l.length cap, .fn 126 []] H (fun v H' => v = .tup [] ∧ H' = H.set b (.cells (aX l.length) 2 (prs (di l)))) := by
 rcases Nat.eq_zero_or_pos l.length with h0 | h0
 ·obtain rfl := List.eq_nil_of_length_eq_zero h0
  rw [kB]
  have hself : H.set b (.cells (aX ([] : List (Int × Int)).length) 2 (prs [])) = H := by
   refine List.ext_getElem? fun i => ?_
   rw [List.getElem?_set]
   split
   ·rename_i e; subst e; first | exact hb.symm | (rw [if_pos (getElem?_lt hb)]; exact hb.symm)
   ·rfl
  rw [hself]
  exact srt0_c H _ _ ⟨b, _, cap, rfl, hb⟩
 ·rw [dH h0] at hb ⊢
  exact sortc_c H b cap l hb h0 h1
theorem cptk_c (H : ac) (b : Nat) (cap : Option Nat) (l : List (Int × Int)) (hb : H[b]? = some (.cells (aX l.length) 2 (prs (di l)))) (h1 : l.length ≤ 1000000) :
  ACalls Tryz.prog 127 [.sl (some (b, 0)) l.length cap] H (fun v H' => v = .sl (some (b, 0)) (bL (di l)).length none ∧ H' = H.set b (.cells (aX l.length) 2 (prs (du (di l).length (bL (di l)))))) := by
 have h := cpt_cell H b cap (di l) (by rw [ft]; exact hb) (by rw [ft]; omega)
 rw [ft l] at h ⊢
 exact h
theorem kall_c (H : ac) (W : Int) (Hh : Int) (pp : AV) (xs : List Int) (s : AV) (l : List T6) (q : AV) (sc : List (Int × Int)) (g : Int) (hpp : Sl H 1 pp xs.length (ints .u8 xs)) (hs : Sl H 6 s l.length (r6 l)) (hq : Sl H 2 q sc.length (prs sc)) (hV : cl W Hh xs = true) (hS : bX l = true) (hl0 : 0 < l.length) (hsB : cw sc = true) (hg : 1 ≤ g ∧ g ≤ 32) : ACalls Tryz.prog 82 [.agg [.int .i64 W, .int .i64 Hh, pp], s, q, .int .i64 g] H (fun v H' => v = .sl (some (H.length, 0)) ((aM W Hh l sc g).length) none ∧ H' = H ++ [.cells (aX (rowA W Hh l sc g).length) 2 (prs (aM W Hh l sc g))]) := by
 obtain ⟨bpp, opp, cpp, rfl, hbpp⟩ := hpp
 have hblpp := getElem?_lt hbpp
 have hb0pp := fun l => aq (l := l) hbpp
 obtain ⟨bs, os, cs, rfl, hbs⟩ := hs
 have hbls := getElem?_lt hbs
 have hb0s := fun l => aq (l := l) hbs
 obtain ⟨bq, oq, cq, rfl, hbq⟩ := hq
 have hblq := getElem?_lt hbq
 have hb0q := fun l => aq (l := l) hbq
 have hsc := ef.1 hsB
 have hpl := jF W Hh l sc g sc.length
 refine AcT false Tryz.func82 ?_; intro hbel Q hQ
 have g'1 := (jn @hbpp (jn @hb0pp (jn @hbs (jn @hb0s (jn @hbq @hb0q)))))
 refine aa g'1 ?_
 refine af (by kernel_rfl) (jg _ _ l ⟨_, _, _, rfl, by first | exact hb0s _ | exact hbs⟩ (by assumption)) ?_
 refine aa g'1 ?_
 refine ak (fun h1 => ?_) (fun h1 => ?_)
 ·have h1d := bsT h1
  have hfinA := allL_nil (W := W) (Hh := Hh) (sc := sc) (g := g) h1d
  have g'2 := (jn @h1 (jn @h1d g'1))
  refine aa g'2 ?_
  refine hQ _ _ (aY (.inl rfl) hbel (x1 := .sl none 0 (some 0)) (l2 := [.cells false 2 []]) (.sl (some (H.length, 0)) 0 none) (ai Tryz.results82) [.cells false 2 []] rfl [1] (by decide) ⟨by first | (rw [hfinA.1]; done) | (rw [hfinA.1]; rfl) | rfl | (unfold aM; rw [hfinB]; done) | (unfold bh; rw [hfinB]; done) | skip, by first | (rw [hfinA.1, hfinA.2]; rfl) | (unfold aM; rw [hfinB]; rfl) | (unfold aM; rw [hfinB]; done) | skip⟩ ?_)
  exact aV @gB
 ·have h1d := bsT h1
  have htau := h1d
  have hfinB : rowA W Hh l sc g = prS W Hh l sc g sc.length := if_pos htau
  have g'3 := (jn @h1 (jn @h1d g'1))
  refine aa g'3 ?_
  refine go_loop try_mixed (by kernel_rfl) (fun k F Hx => ∃ i : Nat, i + k = sc.length ∧ F = [(1, .sl (some (bs, 0)) l.length cs), (3, .int .i64 g), (4, .ptr (some (H.length, 0))), (9, .sl (some (H.length + 1, 0)) ((prS W Hh l sc g i).length) (bb (prS W Hh l sc g i).length)), (15, .sl (some (bq, 0)) sc.length cq), (16, .int .i64 ((sc.length : Nat) : Int)), (17, .int .i64 ((i : Nat) : Int))] ∧ Hx = H ++ [.cells true 0 [.int .i64 W, .int .i64 Hh, .sl (some (bpp, 0)) xs.length cpp], .cells (aX (prS W Hh l sc g i).length) 2 (prs (prS W Hh l sc g i))]) (sc.length) ?_ ?_
  ·refine ⟨_, _, _, ⟨0, by omega, rfl, rfl⟩, Abs.byG hbel [.cells false 2 []] rfl [0, 1] (by decide) ?_⟩
   exact aD @prS.eq_1
  ·rintro k0 F Hx ⟨i, hm0, rfl, rfl⟩ J0 hJ0
   have g'4 := (jn @bp (jn @cC g'3))
   refine aa g'4 ?_
   refine ak (fun h2 => ?_) (fun h2 => ?_)
   ·have h2d := bsT h2
    have hlt : i < sc.length := by omega
    have hbi := kp.1 (hsc.2 _ (List.getElem_mem hlt))
    rw [← ct hlt] at hbi
    have hpi := jF W Hh l sc g i
    have hvl := ti W Hh l (g1 sc i) (g2 sc i) g
    have q3 := cA (l := sc) (j := i) (by omega)
    have g'5 := (jn @h2 (jn @h2d (jn @q3 g'4)))
    refine aa g'5 ?_
    refine af (by kernel_rfl) (proven_c _ W Hh _ xs _ l (g1 sc i) (g2 sc i) g ⟨_, _, _, rfl, by first | exact hb0pp _ | exact hbpp⟩ ⟨_, _, _, rfl, by first | exact hb0s _ | exact hbs⟩ hV hS hl0 (by omega) (by omega)) ?_
    rcases Nat.eq_zero_or_pos ((ej W Hh l (g1 sc i) (g2 sc i) g).length) with h4 | h4
    ·have h4e : ej W Hh l (g1 sc i) (g2 sc i) g = [] := List.eq_nil_of_length_eq_zero h4
     rcases Nat.eq_zero_or_pos ((prS W Hh l sc g i).length) with h5 | h5
     ·have h5e : prS W Hh l sc g i = [] := List.eq_nil_of_length_eq_zero h5
      have g'6 := (jn @h4 (jn @h5 (jn @lq (jn @lr g'5))))
      refine aa g'6 ?_
      refine hJ0 _ _ ⟨k0 - 1, by omega, _, _, _, ⟨i + 1, by omega, rfl, rfl⟩, Abs.byG hbel [] rfl [0, 1] (by decide) ?_⟩
      exact aD (jn @prS.eq_2 (jn @List.append_nil.{0} (jn @h4e @h5e)))
     ·have h5c := iX h5
      have h5o := dH h5
      have h5z : ((prS W Hh l sc g i).length == 0) = false := beq_eq_false_iff_ne.2 (by omega)
      have g'7 := (jn @h4 (jn @h5c (jn @h5o (jn @h5z (jn @jv g'5)))))
      refine aa g'7 ?_
      refine hJ0 _ _ ⟨k0 - 1, by omega, _, _, _, ⟨i + 1, by omega, rfl, rfl⟩, Abs.byG hbel [] rfl [0, 4] (by decide) ?_⟩
      exact aD (jn @prS.eq_2 (jn @List.append_nil.{0} (jn @h4e (jn @h5c (jn @h5o @Nat.add_zero)))))
    ·have h4z : decide (0 < (ej W Hh l (g1 sc i) (g2 sc i) g).length) = true := decide_eq_true h4
     have h4c := iX (n := (prS W Hh l sc g i).length + (ej W Hh l (g1 sc i) (g2 sc i) g).length) (by omega)
     have h4o := dH (n := (prS W Hh l sc g i).length + (ej W Hh l (g1 sc i) (g2 sc i) g).length) (by omega)
     have g'8 := (jn @h4 (jn @h4z (jn @jv g'5)))
     refine aa g'8 ?_
     refine hJ0 _ _ ⟨k0 - 1, by omega, _, _, _, ⟨i + 1, by omega, rfl, rfl⟩, Abs.byG hbel [] rfl [0, 4] (by decide) ?_⟩
     exact aD (jn @prS.eq_2 (jn @List.append_nil.{0} (jn @h4c @h4o)))
   ·have h2d := bsT h2
    obtain rfl : i = sc.length := by omega
    have g'9 := (jn @h2 (jn @h2d g'4))
    refine aa g'9 ?_
    refine af (by kernel_rfl) (srtk_c _ _ _ (prS W Hh l sc g sc.length) (by first | (rw [aj]; rfl) | (rw [ag]; rfl) | rfl) (by omega)) ?_
    refine aa g'9 ?_
    refine af (by kernel_rfl) (cptk_c _ _ _ (prS W Hh l sc g sc.length) (by first | (rw [aj]; rfl) | (rw [ag]; rfl) | rfl) (by omega)) ?_
    refine aa g'9 ?_
    refine hQ _ _ (aY (.inl rfl) hbel (x1 := .sl (some (H.length + 1, 0)) ((bL (di (prS W Hh l sc g sc.length))).length) none) (l2 := [.cells (aX (prS W Hh l sc g sc.length).length) 2 (prs (bL (di (prS W Hh l sc g sc.length))))]) (.sl (some (H.length, 0)) ((bL (di (prS W Hh l sc g sc.length))).length) none) (ai Tryz.results82) [] rfl [1] (by decide) ⟨by first | (rw [hfinA.1]; done) | (rw [hfinA.1]; rfl) | rfl | (unfold aM; rw [hfinB]; done) | (unfold bh; rw [hfinB]; done) | skip, by first | (rw [hfinA.1, hfinA.2]; rfl) | (unfold aM; rw [hfinB]; rfl) | (unfold aM; rw [hfinB]; done) | skip⟩ ?_)
    exact aV @gB
open Go.RowKit
theorem ksus_c (H : ac) (s : AV) (l : List T6) (m : Int) (r : Int) (g : Int) (hs : Sl H 6 s l.length (r6 l)) (hS : bX l = true) (hr : -1 ≤ r ∧ r ≤ 1024) (hg : 1 ≤ g ∧ g ≤ 32) : ACalls Tryz.prog 84 [s, .agg [.int .i64 m, .int .i64 r], .int .i64 g] H (fun v H' => v = .sl (some (H.length, 0)) ((bh l m r g).length) none ∧ H' = H ++ [.cells (aX (fu l m r g).length) 2 (prs (bh l m r g))]) := by
 obtain ⟨bs, os, cs, rfl, hbs⟩ := hs
 have hbls := getElem?_lt hbs
 have hb0s := fun l => aq (l := l) hbs
 have hda := ky hS m
 have hsl := jG (ar l m) r g (ar l m).length
 have hpair : ∀ j', j' < (ar l m).length → bxB (g91 (ar l m) j') (g92 (ar l m) j') (g93 (ar l m) j') (g94 (ar l m) j') (g95 (ar l m) j') (g96 (ar l m) j') = true := fun j' hj' => by
  have k := dirA_ok hS (g9_mem hj')
  unfold pairB at k; rw [Bool.and_eq_true] at k; exact k.1
 refine AcT false Tryz.func84 ?_; intro hbel Q hQ
 have g'1 := (jn @hbs @hb0s)
 refine aa g'1 ?_
 refine al (fun h1 => ?_) (fun h1 => ?_)
 ·have h1d := bsT h1
  have h1n := bnT h1
  have hr1 : ¬ r = -1 := by simpa using h1d
  have g'2 := (jn @h1 (jn @h1n (jn @bg (jn @be g'1))))
  refine aa g'2 ?_
  refine af (by kernel_rfl) (jg _ _ l ⟨_, _, _, rfl, by first | exact hb0s _ | exact hbs⟩ (by assumption)) ?_
  refine aa g'2 ?_
  refine ak (fun h2 => ?_) (fun h2 => ?_)
  ·have h2d := bsT h2
   have hfinA := tm (l := l) (m := m) (r := r) (g := g) (.inr h2d)
   have g'3 := (jn @h2 (jn @h2d g'2))
   refine aa g'3 ?_
   refine hQ _ _ (aY (.inl rfl) hbel (x1 := .sl none 0 (some 0)) (l2 := [.cells false 2 []]) (.sl (some (H.length, 0)) 0 none) (ai Tryz.results84) [.cells false 2 []] rfl [1] (by decide) ⟨by first | (rw [hfinA.1]; done) | (rw [hfinA.1]; rfl) | (unfold bh; rw [hfinB]; done) | skip, by first | (rw [hfinA.1, hfinA.2]; rfl) | (unfold bh; rw [hfinB]; rfl) | (unfold bh; rw [hfinB]; done) | skip⟩ ?_)
   exact aV @gB
  ·have h2d := bsT h2
   have htau := h2d
   have hdt := dirA_tau hS htau m
   have hfinB : fu l m r g = swS (ar l m) r g (ar l m).length := by unfold fu; rw [decide_eq_false hr1, htau]; rfl
   have g'4 := (jn @h2 (jn @h2d g'2))
   refine aa g'4 ?_
   refine af (by kernel_rfl) (iv _ _ l m r ⟨_, _, _, rfl, by first | exact hb0s _ | exact hbs⟩ (by assumption)) ?_
   refine aa g'4 ?_
   refine go_loop try_mixed (by kernel_rfl) (fun k F Hx => ∃ i : Nat, i + k = (ar l m).length ∧ F = [(2, .int .i64 g), (4, .ptr (some (H.length, 0))), (7, .sl (some (H.length + 2, 0)) ((swS (ar l m) r g i).length) (bb (swS (ar l m) r g i).length)), (22, .sl (some (H.length + 1, 0)) ((ar l m).length) (bb (ar l m).length)), (23, .int .i64 (((ar l m).length : Nat) : Int)), (24, .int .i64 ((i : Nat) : Int))] ∧ Hx = H ++ [.cells true 0 [.int .i64 m, .int .i64 r], .cells (aX (ar l m).length) 9 (r9 (ar l m)), .cells (aX (swS (ar l m) r g i).length) 2 (prs (swS (ar l m) r g i))]) ((ar l m).length) ?_ ?_
   ·refine ⟨_, _, _, ⟨0, by omega, rfl, rfl⟩, Abs.byG hbel [.cells false 2 []] rfl [0, 1, 2] (by decide) ?_⟩
    exact aD (jn @swS.eq_1 (jn @bi (jn @bo (jn @bZ @bU))))
   ·rintro k0 F Hx ⟨i, hm0, rfl, rfl⟩ J0 hJ0
    have g'5 := (jn @dC (jn @jf (jn @bp (jn @cC g'4))))
    refine aa g'5 ?_
    refine ak (fun h3 => ?_) (fun h3 => ?_)
    ·have h3d := bsT h3
     have hpi := hpair i (by omega)
     have hsi := jG (ar l m) r g i
     have hvl := ku (g91 (ar l m) i) (g92 (ar l m) i) (g93 (ar l m) i) (g94 (ar l m) i) (g97 (ar l m) i) (g98 (ar l m) i) (g99 (ar l m) i) (if 0 < r - g then r - g else 0) (r + g)
     have q4 := r9_load (l := ar l m) (j := i) (by omega)
     have g'6 := (jn @h3 (jn @h3d (jn @q4 g'5)))
     refine aa g'6 ?_
     refine aB (by kernel_rfl) (rect_c _ (g91 (ar l m) i) (g92 (ar l m) i) (g93 (ar l m) i) (g94 (ar l m) i) (g95 (ar l m) i) (g96 (ar l m) i) hpi) ?_
     refine aa g'6 ?_
     refine bV (by kernel_rfl) (by simp) (swept_c _ (g91 (ar l m) i) (g92 (ar l m) i) (g93 (ar l m) i) (g94 (ar l m) i) (g97 (ar l m) i) (g98 (ar l m) i) (g99 (ar l m) i) (if 0 < (r - g) then (r - g) else 0) (r + g)) ?_
     rcases Nat.eq_zero_or_pos ((cB (g91 (ar l m) i) (g92 (ar l m) i) (g93 (ar l m) i) (g94 (ar l m) i) (g97 (ar l m) i) (g98 (ar l m) i) (g99 (ar l m) i) (if 0 < (r - g) then (r - g) else 0) (r + g)).length) with h5 | h5
     ·have h5e : cB (g91 (ar l m) i) (g92 (ar l m) i) (g93 (ar l m) i) (g94 (ar l m) i) (g97 (ar l m) i) (g98 (ar l m) i) (g99 (ar l m) i) (if 0 < (r - g) then (r - g) else 0) (r + g) = [] := List.eq_nil_of_length_eq_zero h5
      rcases Nat.eq_zero_or_pos ((swS (ar l m) r g i).length) with h6 | h6
      ·have h6e : swS (ar l m) r g i = [] := List.eq_nil_of_length_eq_zero h6
       have g'7 := (jn @h5 (jn @h6 (jn @lq (jn @lr g'6))))
       refine aa g'7 ?_
       refine hJ0 _ _ ⟨k0 - 1, by omega, _, _, _, ⟨i + 1, by omega, rfl, rfl⟩, Abs.byG hbel [] rfl [0, 1, 2] (by decide) ?_⟩
       exact aD (jn @swS.eq_2 (jn @List.append_nil.{0} (jn @h5e (jn @h6e (jn @bi (jn @bo (jn @bZ @bU)))))))
      ·have h6c := iX h6
       have h6o := dH h6
       have h6z : ((swS (ar l m) r g i).length == 0) = false := beq_eq_false_iff_ne.2 (by omega)
       have g'8 := (jn @h5 (jn @h6c (jn @h6o (jn @h6z (jn @jv g'6)))))
       refine aa g'8 ?_
       refine hJ0 _ _ ⟨k0 - 1, by omega, _, _, _, ⟨i + 1, by omega, rfl, rfl⟩, Abs.byG hbel [] rfl [0, 1, 5] (by decide) ?_⟩
       exact aD (jn @swS.eq_2 (jn @List.append_nil.{0} (jn @h5e (jn @h6c (jn @h6o (jn @Nat.add_zero (jn @bi (jn @bo (jn @bZ @bU)))))))))
     ·have h5z : decide (0 < (cB (g91 (ar l m) i) (g92 (ar l m) i) (g93 (ar l m) i) (g94 (ar l m) i) (g97 (ar l m) i) (g98 (ar l m) i) (g99 (ar l m) i) (if 0 < (r - g) then (r - g) else 0) (r + g)).length) = true := decide_eq_true h5
      have h5c := iX (n := (swS (ar l m) r g i).length + (cB (g91 (ar l m) i) (g92 (ar l m) i) (g93 (ar l m) i) (g94 (ar l m) i) (g97 (ar l m) i) (g98 (ar l m) i) (g99 (ar l m) i) (if 0 < (r - g) then (r - g) else 0) (r + g)).length) (by omega)
      have h5o := dH (n := (swS (ar l m) r g i).length + (cB (g91 (ar l m) i) (g92 (ar l m) i) (g93 (ar l m) i) (g94 (ar l m) i) (g97 (ar l m) i) (g98 (ar l m) i) (g99 (ar l m) i) (if 0 < (r - g) then (r - g) else 0) (r + g)).length) (by omega)
      have g'9 := (jn @h5 (jn @h5z (jn @jv g'6)))
      refine aa g'9 ?_
      refine hJ0 _ _ ⟨k0 - 1, by omega, _, _, _, ⟨i + 1, by omega, rfl, rfl⟩, Abs.byG hbel [] rfl [0, 1, 5] (by decide) ?_⟩
      exact aD (jn @swS.eq_2 (jn @List.append_nil.{0} (jn @h5c (jn @h5o (jn @bi (jn @bo (jn @bZ @bU)))))))
    ·have h3d := bsT h3
     obtain rfl : i = (ar l m).length := by omega
     have g'10 := (jn @h3 (jn @h3d g'5))
     refine aa g'10 ?_
     refine af (by kernel_rfl) (srtk_c _ _ _ (swS (ar l m) r g (ar l m).length) (by first | (rw [aj]; rfl) | (rw [ag]; rfl) | rfl) (by omega)) ?_
     refine aa g'10 ?_
     refine af (by kernel_rfl) (cptk_c _ _ _ (swS (ar l m) r g (ar l m).length) (by first | (rw [aj]; rfl) | (rw [ag]; rfl) | rfl) (by omega)) ?_
     refine aa g'10 ?_
     refine hQ _ _ (aY (.inl rfl) hbel (x1 := .sl (some (H.length + 2, 0)) ((bL (di (swS (ar l m) r g (ar l m).length))).length) none) (l2 := [.cells (aX (swS (ar l m) r g (ar l m).length).length) 2 (prs (bL (di (swS (ar l m) r g (ar l m).length))))]) (.sl (some (H.length, 0)) ((bL (di (swS (ar l m) r g (ar l m).length))).length) none) (ai Tryz.results84) [] rfl [2] (by decide) ⟨by first | (rw [hfinA.1]; done) | (rw [hfinA.1]; rfl) | (unfold bh; rw [hfinB]; done) | skip, by first | (rw [hfinA.1, hfinA.2]; rfl) | (unfold bh; rw [hfinB]; rfl) | (unfold bh; rw [hfinB]; done) | skip⟩ ?_)
     exact aV @gB
 ·have h1d := bsT h1
  have h1n := bnT h1
  have hr1 : r = -1 := by simpa using h1d
  have hfinA := tm (l := l) (m := m) (g := g) (.inl hr1)
  have g'11 := (jn @h1 (jn @h1n (jn @bg (jn @be g'1))))
  refine aa g'11 ?_
  refine hQ _ _ (aY (.inl rfl) hbel (x1 := .sl none 0 (some 0)) (l2 := [.cells false 2 []]) (.sl (some (H.length, 0)) 0 none) (ai Tryz.results84) [.cells false 2 []] rfl [1] (by decide) ⟨by first | (rw [hfinA.1]; done) | (rw [hfinA.1]; rfl) | (unfold bh; rw [hfinB]; done) | skip, by first | (rw [hfinA.1, hfinA.2]; rfl) | (unfold bh; rw [hfinB]; rfl) | (unfold bh; rw [hfinB]; done) | skip⟩ ?_)
  exact aV @gB
open Go.RowKit
open Go.RowKit
set_option maxRecDepth 100000 in
theorem kE (H : ac) (s : AV) (xs : List Int) (hs : Sl H 1 s xs.length (ints .u8 xs)) (hl : xs.length ≤ 1000000) (h0 : 0 < xs.length) : ACalls Tryz.prog 63 [s] H (fun v H' => v = .sl (some (H.length, 0)) xs.length none ∧ H' = H ++ [.cells true 1 (ints .u8 xs)]) := by
 obtain ⟨b, own, cap, rfl, hb⟩ := hs
 have hbl := getElem?_lt hb
 have hb0 := fun l => aq (l := l) hb
 generalize hm : xs.length = m at *
 refine AcT true Tryz.func63 ?_; intro hbel Q hQ
 have htk : List.take m (ints .u8 xs) = ints .u8 xs := List.take_of_length_le (by rw [ck]; omega)
 have htk1 : List.take (m * 1) (ints .u8 xs) = ints .u8 xs := List.take_of_length_le (by rw [ck]; omega)
 have hm0 : (m == 0) = false := beq_eq_false_iff_ne.2 (by omega)
 have hm1 : (m != 0) = true := bne_iff_ne.2 (by omega)
 simp -implicitDefEqProofs (disch := omega) only [hb, hb0, Option.isNone_some, hm0, h0, htk, htk1, gr, hm1, simprocAttr, aF, aG, Function.comp_apply, one1, lenV, ap, az, aA, aop, AV.ofValue, AV.ofCell, AV.cells, AV.flat, AV.one, arep, aP, av, aE]
 repeat refine And.intro (by omega) ?_
 refine hQ _ _ (end_by (.inl rfl) hbel (x1 := .sl (some (H.length + 1, 0)) m none) (.sl (some (H.length, 0)) m none) (ai Tryz.results63) [1] (by decide) ⟨rfl, rfl⟩ ?_)
 exact absT
theorem susL_own {l : List T6} {m r g : Int} : aX (fu l m r g).length = aX (bh l m r g).length := by
 unfold bh
 have h := ft (fu l m r g)
 generalize di (fu l m r g) = s at *
 match s, h with
 | [], h => rw [← h]; rfl
 | a :: t, h =>
  have h2 : a ∈ bL (a :: t) := fp.2 (List.mem_cons_self ..)
  rw [dH (by rw [← h]; simp), dH (List.length_pos_of_mem h2)]
theorem ksus2_c (H : ac) (s : AV) (l : List T6) (m : Int) (r : Int) (g : Int) (hs : Sl H 6 s l.length (r6 l)) (hS : bX l = true) (hr : -1 ≤ r ∧ r ≤ 1024) (hg : 1 ≤ g ∧ g ≤ 32) : ACalls Tryz.prog 84 [s, .agg [.int .i64 m, .int .i64 r], .int .i64 g] H (fun v H' => v = .sl (some (H.length, 0)) (bh l m r g).length none ∧ H' = H ++ [.cells (aX (bh l m r g).length) 2 (prs (bh l m r g))]) := by
 have h := ksus_c H s l m r g hs hS hr hg
 rw [susL_own] at h
 exact h
theorem learn1_c (H : ac) (c1 : Int) (c2 : Int) (W : Int) (Hh : Int) (pp : AV) (xs : List Int) (bz : Nat) (hpp : Sl H 1 pp xs.length (ints .u8 xs)) (hz : ∃ o, H[bz]? = some (.cells o 0 [.int .i64 W, .int .i64 Hh, pp])) (hV : cl W Hh xs = true) : ACalls Tryz.prog 85 [.agg [.int .i64 c1, .int .i64 c2], .ptr (some (bz, 0))] H (fun v H' => v = .bool (frP W Hh xs (c1, c2)) ∧ H' = H) := by
 obtain ⟨bpp, opp, cpp, rfl, hbpp⟩ := hpp
 have hblpp := getElem?_lt hbpp
 have hb0pp := fun l => aq (l := l) hbpp
 obtain ⟨oz, hbz⟩ := hz
 have hblz := getElem?_lt hbz
 have hb0z := fun l => aq (l := l) hbz
 refine AcT true Tryz.func85 ?_; intro hbel Q hQ
 have g'1 := (jn @hbpp (jn @hb0pp (jn @hbz @hb0z)))
 refine aa g'1 ?_
 refine af (by kernel_rfl) (pat_c _ W Hh _ xs c1 c2 ⟨_, _, _, rfl, by first | exact hb0pp _ | exact hbpp⟩ hV) ?_
 refine aa g'1 ?_
 exact hQ _ _ (ae (.inl rfl) hbel (x := .bool ((atI W Hh xs c1 c2) == 1)) (ai Tryz.results85) rfl ⟨rfl, rfl⟩)
theorem learn_c (H : ac) (W : Int) (Hh : Int) (pp : AV) (xs : List Int) (s : AV) (l : List T6) (q : AV) (sc : List (Int × Int)) (g : Int) (hpp : Sl H 1 pp xs.length (ints .u8 xs)) (hs : Sl H 6 s l.length (r6 l)) (hq : Sl H 2 q sc.length (prs sc)) (hl : l.length ≤ 1000000000) (hsc : sc.length ≤ 1000000000) : ACalls Tryz.prog 50 [.agg [.int .i64 W, .int .i64 Hh, pp], s, q, .int .i64 g] H (fun v H' => v = .tup [.agg [.int .i64 (lnZ W Hh xs l sc g W), .int .i64 (lnZ W Hh xs l sc g Hh), .sl (some (H.length, 0)) ((lnX W Hh xs l sc g).length) none], .int .i64 (lnE W Hh xs l sc g)] ∧ H' = H ++ [.cells (aX (lnX W Hh xs l sc g).length) 1 (ints .u8 (lnX W Hh xs l sc g))]) := by
 obtain ⟨bpp, opp, cpp, rfl, hbpp⟩ := hpp
 have hblpp := getElem?_lt hbpp
 have hb0pp := fun l => aq (l := l) hbpp
 obtain ⟨bs, os, cs, rfl, hbs⟩ := hs
 have hbls := getElem?_lt hbs
 have hb0s := fun l => aq (l := l) hbs
 obtain ⟨bq, oq, cq, rfl, hbq⟩ := hq
 have hblq := getElem?_lt hbq
 have hb0q := fun l => aq (l := l) hbq
 (refine bF Tryz.func50 _ rfl (Nat.le_of_ble_eq_true (by kernel_rfl)) rfl ?_; intro hbel Q hQ hQ' c hc; unfold Tryz.f50 at hc; simp only [Option.some.injEq] at hc; subst hc; clear hQ')
 refine gg false try_mixed (by kernel_rfl) (fun F Hx => look F 1 = .sl (some (bs, 0)) l.length cs ∧ look F 2 = .sl (some (bq, 0)) sc.length cq ∧ look F 3 = .int .i64 g ∧ look F 4 = .ptr (some (H.length, 0)) ∧ look F 8 = .ptr (some (H.length + 1, 0)) ∧ look F 9 = .int .i64 0 ∧ Hx = H ++ [.cells true 0 [.int .i64 W, .int .i64 Hh, .sl (some (bpp, 0)) xs.length cpp], .cells true 0 [.int .i64 0, .int .i64 0, .sl none 0 (some 0)]]) ?_ ?_
 ·skip
  have g'2 := (jn @hbpp (jn @hb0pp (jn @hbs (jn @hb0s (jn @hbq @hb0q)))))
  refine aa g'2 ?_
  refine aS ?_
  exact absT
 rintro F Hx ⟨f1, f2, f3, f4, f5, f6, rfl⟩
 refine gg false try_mixed (by kernel_rfl) (fun F Hx => dk W Hh xs l sc g = true ∧ look F 1 = .sl (some (bs, 0)) l.length cs ∧ look F 2 = .sl (some (bq, 0)) sc.length cq ∧ look F 3 = .int .i64 g ∧ look F 4 = .ptr (some (H.length, 0)) ∧ look F 8 = .ptr (some (H.length + 1, 0)) ∧ look F 9 = .int .i64 0 ∧ Hx = H ++ [.cells true 0 [.int .i64 W, .int .i64 Hh, .sl (some (bpp, 0)) xs.length cpp], .cells true 0 [.int .i64 0, .int .i64 0, .sl none 0 (some 0)]]) ?_ ?_
 ·skip
  have g'3 := (jn @hbpp (jn @hb0pp (jn @hbs (jn @hb0s (jn @hbq (jn @hb0q (jn @f1 (jn @f2 (jn @f3 (jn @f4 (jn @f5 @f6)))))))))))
  refine aa g'3 ?_
  refine af (by kernel_rfl) (kright_c _ W Hh _ xs _ l _ sc g ⟨_, _, _, rfl, by first | exact hb0pp _ | exact hbpp⟩ ⟨_, _, _, rfl, by first | exact hb0s _ | exact hbs⟩ ⟨_, _, _, rfl, by first | exact hb0q _ | exact hbq⟩ (by first | omega | simp) (by first | omega | simp)) ?_
  refine aa g'3 ?_
  refine ak (fun h7 => ?_) (fun h7 => ?_)
  ·have h7d := bsT h7
   have hfinP := ln_1 h7d
   have g'4 := (jn @h7 (jn @h7d g'3))
   refine aa g'4 ?_
   refine hQ _ _ (aY (.inl rfl) hbel (x1 := .tup [.agg [.int .i64 0, .int .i64 0, .sl none 0 (some 0)], .int .i64 1]) (l2 := [.cells false 1 []]) (.tup [.agg [.int .i64 0, .int .i64 0, .sl (some (H.length, 0)) 0 none], .int .i64 1]) (resTf (jn @f1 (jn @f2 (jn @f3 (jn @f4 (jn @f5 @f6))))) Tryz.results50) [.cells false 1 []] rfl [2] (by decide) ⟨by first | (rw [hfinP.1, hfinP.2.1, hfinP.2.2.1, hfinP.2.2.2]; done) | (rw [hfinP.1, hfinP.2.1, hfinP.2.2.1, hfinP.2.2.2]; rfl) | skip, by first | (rw [hfinP.2.1, hfinO]; done) | (rw [hfinP.2.1, hfinO]; rfl) | (rw [hfinP.2.1]; done) | (rw [hfinP.2.1]; rfl) | skip⟩ ?_)
   exact aW
  ·have h7d := bsT h7
   have g'5 := (jn @h7 (jn @h7d g'3))
   refine aa g'5 ?_
   refine aS ?_
   exact absTf (jn @f1 (jn @f2 (jn @f3 (jn @f4 (jn @f5 @f6)))))
 rintro F Hx ⟨h8d, f9, f10, f11, f12, f13, f14, rfl⟩
 have hR := h8d
 obtain ⟨hV, hl0, hS, hsB, hg⟩ := kq.1 hR
 have hVV := cJ.1 hV
 have hpp2 := hVV.pos
 have hWb : 1 ≤ W ∧ W ≤ 64 := ⟨hVV.w0, hVV.w1⟩
 have hHb : 1 ≤ Hh ∧ Hh ≤ 64 := ⟨hVV.h0, hVV.h1⟩
 have hx00 := (hVV.idx (show inB W Hh 0 0 = true from dV.2 (by have := hVV.w0; have := hVV.h0; omega))).2.2.2.2.1
 have hx0 : 0 < xs.length := by omega
 have hx6 : xs.length ≤ 1000000 := by have h4 := hVV.len; have := Int.mul_le_mul hVV.w1 hVV.h1 (by have := hVV.h0; omega) (by decide); omega
 have hsc2 := ef.1 hsB
 have hAl := allL_len (W := W) (Hh := Hh) (l := l) (sc := sc) (g := g)
 have hA : ∀ c ∈ (aM W Hh l sc g), inB W Hh c.1 c.2 = true := fun c hc => allL_in hc
 refine cd false try_mixed [[0, 1, 2, 3, 4, 5, 6, 7, 8, 9], [0, 1, 2, 3, 4, 5, 8, 6, 7, 9]] (by kernel_rfl) (fun F2 H2 => F2 = [(1, .sl (some (bs, 0)) l.length cs), (2, .sl (some (bq, 0)) sc.length cq), (3, .int .i64 g), (4, .ptr (some (H.length, 0))), (8, .ptr (some (H.length + 1, 0))), (9, .int .i64 0), (10, .ptr (some (H.length + 3, 0)))] ∧ H2 = H ++ [.cells true 0 [.int .i64 W, .int .i64 Hh, .sl (some (bpp, 0)) xs.length cpp], .cells true 0 [.int .i64 0, .int .i64 0, .sl none 0 (some 0)], .cells true 1 (ints .u8 xs), .cells true 0 [.int .i64 W, .int .i64 Hh, .sl (some (H.length + 2, 0)) xs.length none]]) ?_ ?_
 ·refine aC ?_ (aC ?_ (ce)) <;> intro J hJ
  ·skip
   have g'6 := (jn @hbpp (jn @hb0pp (jn @hbs (jn @hb0s (jn @hbq (jn @hb0q (jn @f1 (jn @f2 (jn @f3 (jn @f4 (jn @f5 (jn @f6 (jn @f9 (jn @f10 (jn @f11 (jn @f12 (jn @f13 (jn @f14 @h8d))))))))))))))))))
   refine aw g'6 ?_
   refine bV (by kernel_rfl) (by simp) (kE _ _ xs ⟨_, _, _, rfl, by first | exact hb0pp _ | exact hbpp⟩ hx6 hx0) ?_
   refine aw g'6 ?_
   refine aS (hJ _ _ ⟨_, _, _, ⟨rfl, rfl⟩, Abs.byG hbel [] rfl [0, 1, 2, 3] (by decide) ?_⟩)
   exact aD (jn @f1 (jn @f2 (jn @f3 (jn @f4 (jn @f5 (jn @f6 (jn @f9 (jn @f10 (jn @f11 (jn @f12 (jn @f13 @f14)))))))))))
  ·skip
   have g'7 := (jn @hbpp (jn @hb0pp (jn @hbs (jn @hb0s (jn @hbq (jn @hb0q (jn @f1 (jn @f2 (jn @f3 (jn @f4 (jn @f5 (jn @f6 (jn @f9 (jn @f10 (jn @f11 (jn @f12 (jn @f13 (jn @f14 @h8d))))))))))))))))))
   refine aw g'7 ?_
   refine bV (by kernel_rfl) (by simp) (kE _ _ xs ⟨_, _, _, rfl, by first | exact hb0pp _ | exact hbpp⟩ hx6 hx0) ?_
   refine aw g'7 ?_
   refine aS (hJ _ _ ⟨_, _, _, ⟨rfl, rfl⟩, Abs.byG hbel [] rfl [0, 1, 3, 2] (by decide) ?_⟩)
   exact aD (jn @f1 (jn @f2 (jn @f3 (jn @f4 (jn @f5 (jn @f6 (jn @f9 (jn @f10 (jn @f11 (jn @f12 (jn @f13 @f14)))))))))))
 rintro F2 H2 ⟨rfl, rfl⟩
 refine aI false try_mixed (by kernel_rfl) ?_
 have g'8 := (jn @hbpp (jn @hb0pp (jn @hbs (jn @hb0s (jn @hbq (jn @hb0q (jn @h8d (jn @ck @cZ))))))))
 refine aa g'8 ?_
 refine af (by kernel_rfl) (jg _ _ l ⟨_, _, _, rfl, by first | exact hb0s _ | exact hbs⟩ (by assumption)) ?_
 refine aa g'8 ?_
 refine ak (fun h15 => ?_) (fun h15 => ?_)
 ·have h15d := bsT h15
  have hfinP := ln_0 hR (if_neg (by rw [h15d]; decide))
  have hfinO := dH hx0
  have g'9 := (jn @h15 (jn @h15d g'8))
  refine aa g'9 ?_
  refine hQ _ _ (aY (.inl rfl) hbel (x1 := .tup [.agg [.int .i64 W, .int .i64 Hh, .sl (some (H.length + 2, 0)) xs.length none], .int .i64 0]) (l2 := [.cells true 1 (ints .u8 xs)]) (.tup [.agg [.int .i64 W, .int .i64 Hh, .sl (some (H.length, 0)) xs.length none], .int .i64 0]) (ai Tryz.results50) [] rfl [2] (by decide) ⟨by first | (rw [hfinP.1, hfinP.2.1, hfinP.2.2.1, hfinP.2.2.2]; done) | (rw [hfinP.1, hfinP.2.1, hfinP.2.2.1, hfinP.2.2.2]; rfl) | skip, by first | (rw [hfinP.2.1, hfinO]; done) | (rw [hfinP.2.1, hfinO]; rfl) | (rw [hfinP.2.1]; done) | (rw [hfinP.2.1]; rfl) | skip⟩ ?_)
  exact aW
 ·have h15d := bsT h15
  have htau := h15d
  have g'10 := (jn @h15 (jn @h15d g'8))
  refine aa g'10 ?_
  refine af (by kernel_rfl) (kall_c _ W Hh _ xs _ l _ sc g ⟨_, _, _, rfl, by first | exact hb0pp _ | exact hbpp⟩ ⟨_, _, _, rfl, by first | exact hb0s _ | exact hbs⟩ ⟨_, _, _, rfl, by first | exact hb0q _ | exact hbq⟩ hV hS hl0 hsB (by omega)) ?_
  refine aa g'10 ?_
  refine go_loop try_mixed (by kernel_rfl) (fun k F Hx => ∃ i : Nat, i + k = (aM W Hh l sc g).length ∧ lrnF W Hh (aM W Hh l sc g) xs = lrnF W Hh ((aM W Hh l sc g).drop i) (lfS W (aM W Hh l sc g) xs i) ∧ F = [(1, .sl (some (bs, 0)) l.length cs), (2, .sl (some (bq, 0)) sc.length cq), (3, .int .i64 g), (4, .ptr (some (H.length, 0))), (8, .ptr (some (H.length + 1, 0))), (10, .ptr (some (H.length + 3, 0))), (41, .sl (some (H.length + 4, 0)) ((aM W Hh l sc g).length) none), (42, .int .i64 (((aM W Hh l sc g).length : Nat) : Int)), (43, .int .i64 ((i : Nat) : Int))] ∧ Hx = H ++ [.cells true 0 [.int .i64 W, .int .i64 Hh, .sl (some (bpp, 0)) xs.length cpp], .cells true 0 [.int .i64 0, .int .i64 0, .sl none 0 (some 0)], .cells true 1 (ints .u8 (lfS W (aM W Hh l sc g) xs i)), .cells true 0 [.int .i64 W, .int .i64 Hh, .sl (some (H.length + 2, 0)) ((lfS W (aM W Hh l sc g) xs i).length) none], .cells (aX (rowA W Hh l sc g).length) 2 (prs (aM W Hh l sc g))]) ((aM W Hh l sc g).length) ?_ ?_
  ·refine ⟨_, _, _, ⟨0, by omega, rfl, rfl, rfl⟩, Abs.byG hbel [] rfl [0, 1, 2, 3, 4] (by decide) ?_⟩
   exact aD @lfS.eq_1
  ·rintro k0 F Hx ⟨i, hm0, hrem, rfl, rfl⟩ J0 hJ0
   have g'11 := (jn @bp (jn @cC g'10))
   refine aa g'11 ?_
   refine ak (fun h16 => ?_) (fun h16 => ?_)
   ·have h16d := bsT h16
    have hlt : i < (aM W Hh l sc g).length := by omega
    have hfv := hP (W := W) (A := (aM W Hh l sc g)) hV i
    obtain ⟨j1, j2, j3, j4, j5, -⟩ := (cJ.1 hfv).idx (gin_mem hlt hA)
    have q17 := cA (l := aM W Hh l sc g) (j := i) (by omega)
    have q18 := dh (k := .u8) (xs := lfS W (aM W Hh l sc g) xs i) (j := (((g2 (aM W Hh l sc g) i) * W) + (g1 (aM W Hh l sc g) i)).toNat) (by omega)
    have g'12 := (jn @h16 (jn @h16d (jn @q17 (jn @q18 g'11))))
    refine aa g'12 ?_
    refine ak (fun h19 => ?_) (fun h19 => ?_)
    ·have h19d := bsT h19
     have h19n := bnT h19
     have hfinP := ln_11 hR (by unfold lnO; rw [if_pos htau, hrem, pA hlt hA, if_pos (by simpa using h19d)]; rfl)
     have g'13 := (jn @h19 (jn @h19n (jn @bg (jn @be g'12))))
     refine aa g'13 ?_
     refine hQ _ _ (aY (.inl rfl) hbel (x1 := .tup [.agg [.int .i64 0, .int .i64 0, .sl none 0 (some 0)], .int .i64 11]) (l2 := [.cells false 1 []]) (.tup [.agg [.int .i64 0, .int .i64 0, .sl (some (H.length, 0)) 0 none], .int .i64 11]) (ai Tryz.results50) [.cells false 1 []] rfl [6] (by decide) ⟨by first | (rw [hfinP.1, hfinP.2.1, hfinP.2.2.1, hfinP.2.2.2]; done) | (rw [hfinP.1, hfinP.2.1, hfinP.2.2.1, hfinP.2.2.2]; rfl) | skip, by first | (rw [hfinP.2.1, hfinO]; done) | (rw [hfinP.2.1, hfinO]; rfl) | (rw [hfinP.2.1]; done) | (rw [hfinP.2.1]; rfl) | skip⟩ ?_)
     exact aW
    ·have h19d := bsT h19
     have h19n := bnT h19
     have hne : ¬ gi (lfS W (aM W Hh l sc g) xs i) (((g2 (aM W Hh l sc g) i) * W) + (g1 (aM W Hh l sc g) i)).toNat = 2 := by simpa using h19d
     have g'14 := (jn @h19 (jn @h19n (jn @bg (jn @be (jn @jc (jn @List.length_set.{0} g'12))))))
     refine aa g'14 ?_
     refine hJ0 _ _ ⟨k0 - 1, by omega, _, _, _, ⟨i + 1, by omega, hrem.trans ((pA hlt hA).trans (if_neg hne)), rfl, rfl⟩, Abs.byG hbel [] rfl [0, 1, 2, 3, 4] (by decide) ?_⟩
     exact aD (jn @lfS.eq_2 @List.length_set.{0})
   ·have h16d := bsT h16
    obtain rfl : i = (aM W Hh l sc g).length := by omega
    rw [List.drop_length] at hrem
    have g'15 := (jn @h16 (jn @h16d g'11))
    refine aa g'15 ?_
    refine go_loop try_mixed (by kernel_rfl) (fun k F Hx => ∃ i : Nat, i + k = sc.length ∧ lnO W Hh xs l sc g = fM W Hh (echL l (sc.drop i) g) (lwS W Hh l sc g (lfS W (aM W Hh l sc g) xs (aM W Hh l sc g).length) i) ∧ F = [(1, .sl (some (bs, 0)) l.length cs), (3, .int .i64 g), (4, .ptr (some (H.length, 0))), (8, .ptr (some (H.length + 1, 0))), (10, .ptr (some (H.length + 3, 0))), (66, .sl (some (bq, 0)) sc.length cq), (67, .int .i64 ((sc.length : Nat) : Int)), (68, .int .i64 ((i : Nat) : Int))] ∧ Hx = H ++ [.cells true 0 [.int .i64 W, .int .i64 Hh, .sl (some (bpp, 0)) xs.length cpp], .cells true 0 [.int .i64 0, .int .i64 0, .sl none 0 (some 0)], .cells true 1 (ints .u8 (lwS W Hh l sc g (lfS W (aM W Hh l sc g) xs (aM W Hh l sc g).length) i)), .cells true 0 [.int .i64 W, .int .i64 Hh, .sl (some (H.length + 2, 0)) ((lwS W Hh l sc g (lfS W (aM W Hh l sc g) xs (aM W Hh l sc g).length) i).length) none]]) (sc.length) ?_ ?_
    ·refine ⟨_, _, _, ⟨0, by omega, by unfold lnO; rw [if_pos htau, hrem]; rfl, rfl, rfl⟩, Abs.byG hbel [] rfl [0, 1, 2, 3] (by decide) ?_⟩
     exact aD @lwS.eq_1
    ·rintro k1 F Hx ⟨i, hm1, hrem2, rfl, rfl⟩ J1 hJ1
     refine aa g'15 ?_
     refine ak (fun h20 => ?_) (fun h20 => ?_)
     ·have h20d := bsT h20
      have hlt : i < sc.length := by omega
      have hbi := kp.1 (hsc2.2 _ (List.getElem_mem hlt))
      rw [← ct hlt] at hbi
      have hwv := hZ (W := W) (Hh := Hh) (l := l) (sc := sc) (g := g) (hP (W := W) (A := (aM W Hh l sc g)) hV (aM W Hh l sc g).length) i
      have hsl := tp (l := l) (m := g1 sc i) (r := g2 sc i) (g := g) hS
      have q21 := cA (l := sc) (j := i) (by omega)
      have g'16 := (jn @h20 (jn @h20d (jn @q21 g'15)))
      refine aa g'16 ?_
      refine ak (fun h22 => ?_) (fun h22 => ?_)
      ·have h22d := bsT h22
       have h22n := bnT h22
       have hr1 : g2 sc i = -1 := by simpa using h22d
       have hst := lwS_skip (W := W) (Hh := Hh) (l := l) (g := g) (o := (lfS W (aM W Hh l sc g) xs (aM W Hh l sc g).length)) hr1
       have hnx := tn (W := W) (Hh := Hh) (l := l) (g := g) (o := (lfS W (aM W Hh l sc g) xs (aM W Hh l sc g).length)) hlt (.inl hr1)
       have g'17 := (jn @h22 (jn @h22n (jn @bg (jn @be g'16))))
       refine aa g'17 ?_
       refine hJ1 _ _ ⟨k1 - 1, by omega, _, _, _, ⟨i + 1, by omega, hrem2.trans hnx, rfl, rfl⟩, Abs.byG hbel [] rfl [0, 1, 2, 3] (by decide) ?_⟩
       exact aD (jn @hst @List.length_set.{0})
      ·have h22d := bsT h22
       have h22n := bnT h22
       have hr1 : ¬ g2 sc i = -1 := by simpa using h22d
       have g'18 := (jn @h22 (jn @h22n (jn @bg (jn @be g'16))))
       refine aa g'18 ?_
       refine af (by kernel_rfl) (ksus2_c _ _ l (g1 sc i) (g2 sc i) g ⟨_, _, _, rfl, by first | exact hb0s _ | exact hbs⟩ hS (by omega) (by omega)) ?_
       refine aa g'18 ?_
       refine af (by kernel_rfl) (del_cell _ _ _ (bh l (g1 sc i) (g2 sc i) g) (by rw [aj]; rfl) (Nat.le_trans (tp hS) (by decide)) _ [.ptr (some (H.length + 3, 0))] (by kernel_rfl) (by simp [AV.bels, AV.bel]) (frP W Hh (lwS W Hh l sc g (lfS W (aM W Hh l sc g) xs (aM W Hh l sc g).length) i)) (fun X e L he => learn1_c _ e.1 e.2 W Hh (.sl (some (H.length + 2, 0)) (lwS W Hh l sc g (lfS W (aM W Hh l sc g) xs (aM W Hh l sc g).length) i).length none) (lwS W Hh l sc g (lfS W (aM W Hh l sc g) xs (aM W Hh l sc g).length) i) _ ⟨_, _, _, rfl, by rw [ik, List.append_assoc, aj]; rfl⟩ ⟨_, by rw [ik, List.append_assoc, aj]; rfl⟩ (hZ (hP hV _) _))) ?_
       refine aa g'18 ?_
       refine ak (fun h23 => ?_) (fun h23 => ?_)
       ·have h23d := bsT h23
        have h23n := bnT h23
        have hd0 : (bI (frP W Hh (lwS W Hh l sc g (lfS W (aM W Hh l sc g) xs (aM W Hh l sc g).length) i)) (bh l (g1 sc i) (g2 sc i) g)).length = 0 := by have q := h23d; omega
        have hfinP := ln_11 hR (hrem2.trans (lwS_bad hlt hr1 hd0))
        have g'19 := (jn @h23 (jn @h23n g'18))
        refine aa g'19 ?_
        refine hQ _ _ (aY (.inl rfl) hbel (x1 := .tup [.agg [.int .i64 0, .int .i64 0, .sl none 0 (some 0)], .int .i64 11]) (l2 := [.cells false 1 []]) (.tup [.agg [.int .i64 0, .int .i64 0, .sl (some (H.length, 0)) 0 none], .int .i64 11]) (ai Tryz.results50) [.cells false 1 []] rfl [6] (by decide) ⟨by first | (rw [hfinP.1, hfinP.2.1, hfinP.2.2.1, hfinP.2.2.2]; done) | (rw [hfinP.1, hfinP.2.1, hfinP.2.2.1, hfinP.2.2.2]; rfl) | skip, by first | (rw [hfinP.2.1, hfinO]; done) | (rw [hfinP.2.1, hfinO]; rfl) | (rw [hfinP.2.1]; done) | (rw [hfinP.2.1]; rfl) | skip⟩ ?_)
        exact aW
       ·have h23d := bsT h23
        have h23n := bnT h23
        have hd0 : ¬ (bI (frP W Hh (lwS W Hh l sc g (lfS W (aM W Hh l sc g) xs (aM W Hh l sc g).length) i)) (bh l (g1 sc i) (g2 sc i) g)).length = 0 := by have q := h23d; first | omega | (rw [beq_eq_false_iff_ne] at q; omega)
        have hp1 : g1 (du (bh l (g1 sc i) (g2 sc i) g).length (bI (frP W Hh (lwS W Hh l sc g (lfS W (aM W Hh l sc g) xs (aM W Hh l sc g).length) i)) (bh l (g1 sc i) (g2 sc i) g))) 0 = g1 (bI (frP W Hh (lwS W Hh l sc g (lfS W (aM W Hh l sc g) xs (aM W Hh l sc g).length) i)) (bh l (g1 sc i) (g2 sc i) g)) 0 := pad_g1 hd0
        have hp2 : g2 (du (bh l (g1 sc i) (g2 sc i) g).length (bI (frP W Hh (lwS W Hh l sc g (lfS W (aM W Hh l sc g) xs (aM W Hh l sc g).length) i)) (bh l (g1 sc i) (g2 sc i) g))) 0 = g2 (bI (frP W Hh (lwS W Hh l sc g (lfS W (aM W Hh l sc g) xs (aM W Hh l sc g).length) i)) (bh l (g1 sc i) (g2 sc i) g)) 0 := pad_g2 hd0
        have hsfp := pad_len (p := frP W Hh (lwS W Hh l sc g (lfS W (aM W Hh l sc g) xs (aM W Hh l sc g).length) i)) (l := (bh l (g1 sc i) (g2 sc i) g))
        have hpn := delL_le (p := frP W Hh (lwS W Hh l sc g (lfS W (aM W Hh l sc g) xs (aM W Hh l sc g).length) i)) (l := (bh l (g1 sc i) (g2 sc i) g))
        have hnx := tn (W := W) (Hh := Hh) (l := l) (g := g) (o := (lfS W (aM W Hh l sc g) xs (aM W Hh l sc g).length)) hlt (.inr hd0)
        have q24 := (show List.take 2 (prs (du (bh l (g1 sc i) (g2 sc i) g).length (bI (frP W Hh (lwS W Hh l sc g (lfS W (aM W Hh l sc g) xs (aM W Hh l sc g).length) i)) (bh l (g1 sc i) (g2 sc i) g)))) = [.int .i64 (g1 (du (bh l (g1 sc i) (g2 sc i) g).length (bI (frP W Hh (lwS W Hh l sc g (lfS W (aM W Hh l sc g) xs (aM W Hh l sc g).length) i)) (bh l (g1 sc i) (g2 sc i) g))) 0), .int .i64 (g2 (du (bh l (g1 sc i) (g2 sc i) g).length (bI (frP W Hh (lwS W Hh l sc g (lfS W (aM W Hh l sc g) xs (aM W Hh l sc g).length) i)) (bh l (g1 sc i) (g2 sc i) g))) 0)] from by have q := cA (l := du (bh l (g1 sc i) (g2 sc i) g).length (bI (frP W Hh (lwS W Hh l sc g (lfS W (aM W Hh l sc g) xs (aM W Hh l sc g).length) i)) (bh l (g1 sc i) (g2 sc i) g))) (j := 0) (by omega); rwa [Nat.zero_mul, List.drop_zero] at q)
        have g'20 := (jn @h23 (jn @h23n (jn @hsfp (jn @q24 g'18))))
        refine aa g'20 ?_
        refine al (fun h25 => ?_) (fun h25 => ?_)
        ·have h25d := bsT h25
         have h25n := bnT h25
         have hd1 : (bI (frP W Hh (lwS W Hh l sc g (lfS W (aM W Hh l sc g) xs (aM W Hh l sc g).length) i)) (bh l (g1 sc i) (g2 sc i) g)).length = 1 := by have q := h25d; omega
         have g'21 := (jn @h25 (jn @h25n g'20))
         refine aa g'21 ?_
         refine af (by kernel_rfl) (cN _ (g1 (du (bh l (g1 sc i) (g2 sc i) g).length (bI (frP W Hh (lwS W Hh l sc g (lfS W (aM W Hh l sc g) xs (aM W Hh l sc g).length) i)) (bh l (g1 sc i) (g2 sc i) g))) 0) 0 (W - 1)) ?_
         refine aa g'21 ?_
         refine al (fun h26 => ?_) (fun h26 => ?_)
         ·have h26d := bsT h26
          have hd2 := h26d
          rw [hp1] at hd2
          have g'22 := (jn @h26 (jn @h26d g'21))
          refine aa g'22 ?_
          refine af (by kernel_rfl) (cN _ (g2 (du (bh l (g1 sc i) (g2 sc i) g).length (bI (frP W Hh (lwS W Hh l sc g (lfS W (aM W Hh l sc g) xs (aM W Hh l sc g).length) i)) (bh l (g1 sc i) (g2 sc i) g))) 0) 0 (Hh - 1)) ?_
          refine aa g'22 ?_
          refine ak (fun h27 => ?_) (fun h27 => ?_)
          ·have h27d := bsT h27
           have hd3 := h27d
           rw [hp2] at hd3
           have hst := lwS_set (W := W) (Hh := Hh) (l := l) (g := g) (o := (lfS W (aM W Hh l sc g) xs (aM W Hh l sc g).length)) hr1 ⟨hd1, hd2, hd3⟩
           rw [← hp1, ← hp2] at hst
           obtain ⟨j1, j2, j3, j4, j5, -⟩ := (cJ.1 hwv).idx (x := g1 (du (bh l (g1 sc i) (g2 sc i) g).length (bI (frP W Hh (lwS W Hh l sc g (lfS W (aM W Hh l sc g) xs (aM W Hh l sc g).length) i)) (bh l (g1 sc i) (g2 sc i) g))) 0) (y := g2 (du (bh l (g1 sc i) (g2 sc i) g).length (bI (frP W Hh (lwS W Hh l sc g (lfS W (aM W Hh l sc g) xs (aM W Hh l sc g).length) i)) (bh l (g1 sc i) (g2 sc i) g))) 0) (dV.2 (by rw [hp1, hp2]; have := bN.1 hd2; have := bN.1 hd3; omega))
           have g'23 := (jn @h27 (jn @h27d (jn @jc (jn @List.length_set.{0} g'22))))
           refine aa g'23 ?_
           refine hJ1 _ _ ⟨k1 - 1, by omega, _, _, _, ⟨i + 1, by omega, hrem2.trans hnx, rfl, rfl⟩, Abs.byG hbel [] rfl [0, 1, 2, 3] (by decide) ?_⟩
           exact aD (jn @hst @List.length_set.{0})
          ·have h27d := bsT h27
           have hd3 := h27d
           rw [hp2] at hd3
           have hst := kC (W := W) (Hh := Hh) (l := l) (g := g) (o := (lfS W (aM W Hh l sc g) xs (aM W Hh l sc g).length)) hr1 (fun q => by rw [hd3] at q; exact absurd q.2.2 (by decide))
           have g'24 := (jn @h27 (jn @h27d g'22))
           refine aa g'24 ?_
           refine hJ1 _ _ ⟨k1 - 1, by omega, _, _, _, ⟨i + 1, by omega, hrem2.trans hnx, rfl, rfl⟩, Abs.byG hbel [] rfl [0, 1, 2, 3] (by decide) ?_⟩
           exact aD (jn @hst @List.length_set.{0})
         ·have h26d := bsT h26
          have hd2 := h26d
          rw [hp1] at hd2
          have hst := kC (W := W) (Hh := Hh) (l := l) (g := g) (o := (lfS W (aM W Hh l sc g) xs (aM W Hh l sc g).length)) hr1 (fun q => by rw [hd2] at q; exact absurd q.2.1 (by decide))
          have g'25 := (jn @h26 (jn @h26d g'21))
          refine aa g'25 ?_
          refine hJ1 _ _ ⟨k1 - 1, by omega, _, _, _, ⟨i + 1, by omega, hrem2.trans hnx, rfl, rfl⟩, Abs.byG hbel [] rfl [0, 1, 2, 3] (by decide) ?_⟩
          exact aD (jn @hst @List.length_set.{0})
        ·have h25d := bsT h25
         have h25n := bnT h25
         have hd1 : ¬ (bI (frP W Hh (lwS W Hh l sc g (lfS W (aM W Hh l sc g) xs (aM W Hh l sc g).length) i)) (bh l (g1 sc i) (g2 sc i) g)).length = 1 := by have q := h25d; first | omega | (rw [beq_eq_false_iff_ne] at q; omega)
         have hst := kC (W := W) (Hh := Hh) (l := l) (g := g) (o := (lfS W (aM W Hh l sc g) xs (aM W Hh l sc g).length)) hr1 (fun q => hd1 q.1)
         have g'26 := (jn @h25 (jn @h25n g'20))
         refine aa g'26 ?_
         refine hJ1 _ _ ⟨k1 - 1, by omega, _, _, _, ⟨i + 1, by omega, hrem2.trans hnx, rfl, rfl⟩, Abs.byG hbel [] rfl [0, 1, 2, 3] (by decide) ?_⟩
         exact aD (jn @hst @List.length_set.{0})
     ·have h20d := bsT h20
      obtain rfl : i = sc.length := by omega
      rw [List.drop_length] at hrem2
      have hfinP := ln_0 hR hrem2
      have hfinO : aX (lwS W Hh l sc g (lfS W (aM W Hh l sc g) xs (aM W Hh l sc g).length) sc.length).length = true := dH (by have := vld_pos (hZ (W := W) (Hh := Hh) (l := l) (sc := sc) (g := g) (hP (W := W) (A := (aM W Hh l sc g)) hV (aM W Hh l sc g).length) sc.length); omega)
      have g'27 := (jn @h20 (jn @h20d g'15))
      refine aa g'27 ?_
      refine hQ _ _ (aY (.inl rfl) hbel (x1 := .tup [.agg [.int .i64 W, .int .i64 Hh, .sl (some (H.length + 2, 0)) ((lwS W Hh l sc g (lfS W (aM W Hh l sc g) xs (aM W Hh l sc g).length) sc.length).length) none], .int .i64 0]) (l2 := [.cells true 1 (ints .u8 (lwS W Hh l sc g (lfS W (aM W Hh l sc g) xs (aM W Hh l sc g).length) sc.length))]) (.tup [.agg [.int .i64 W, .int .i64 Hh, .sl (some (H.length, 0)) ((lwS W Hh l sc g (lfS W (aM W Hh l sc g) xs (aM W Hh l sc g).length) sc.length).length) none], .int .i64 0]) (ai Tryz.results50) [] rfl [2] (by decide) ⟨by first | (rw [hfinP.1, hfinP.2.1, hfinP.2.2.1, hfinP.2.2.2]; done) | (rw [hfinP.1, hfinP.2.1, hfinP.2.2.1, hfinP.2.2.2]; rfl) | skip, by first | (rw [hfinP.2.1, hfinO]; done) | (rw [hfinP.2.1, hfinO]; rfl) | (rw [hfinP.2.1]; done) | (rw [hfinP.2.1]; rfl) | skip⟩ ?_)
      exact aW
open Go.RowKit
def lsB (l : List T6) : Bool := decide (0 < ((l.length : Nat) : Int)) && (decide (((l.length : Nat) : Int) ≤ 16) && !(l.any fun b => !bJ b))
theorem dI {l : List T6} : lsB l = true ↔ 0 < l.length ∧ bX l = true := by
 rw [bY]; unfold lsB
 simp only [Bool.and_eq_true, decide_eq_true_eq, Bool.not_eq_true', List.any_eq_false, Bool.not_eq_true', Bool.not_eq_false]
 constructor
 ·rintro ⟨h1, h2, h3⟩; exact ⟨by omega, by omega, fun b hb => by simpa using h3 b hb⟩
 ·rintro ⟨h1, h2, h3⟩; exact ⟨by omega, by omega, fun b hb => by simpa using h3 b hb⟩
theorem lvs1_c (H : ac) (x0 : Int) (y0 : Int) (x1 : Int) (y1 : Int) (f : Int) (c : Int) : ACalls Tryz.prog 59 [.agg [.int .i64 x0, .int .i64 y0, .int .i64 x1, .int .i64 y1, .int .i64 f, .int .i64 c]] H (fun v H' => v = .bool (!(bJ (x0, y0, x1, y1, f, c))) ∧ H' = H) := by
 refine AcT true Tryz.func59 ?_; intro hbel Q hQ
 refine aQ ?_
 refine af (by kernel_rfl) (eE _ x0 y0 x1 y1 f c) ?_
 refine aQ ?_
 exact hQ _ _ (ae (.inl rfl) hbel (x := .bool (!(bxB x0 y0 x1 y1 f c))) (ai Tryz.results59) rfl ⟨by first | rfl | (simp [bJ, true_and]; done), rfl⟩)
theorem jI (H : ac) (s : AV) (l : List T6) (hs : Sl H 6 s l.length (r6 l)) (hl : l.length ≤ 1000000000) : ACalls Tryz.prog 28 [s] H (fun v H' => v = .bool (lsB l) ∧ H' = H) := by
 obtain ⟨bs, os, cs, rfl, hbs⟩ := hs
 have hbls := getElem?_lt hbs
 have hb0s := fun l => aq (l := l) hbs
 refine AcT true Tryz.func28 ?_; intro hbel Q hQ
 have g'1 := (jn @hbs @hb0s)
 refine aa g'1 ?_
 refine al (fun h1 => ?_) (fun h1 => ?_)
 ·have h1d := bsT h1
  have g'2 := (jn @h1 (jn @h1d g'1))
  refine aa g'2 ?_
  refine al (fun h2 => ?_) (fun h2 => ?_)
  ·have h2d := bsT h2
   have g'3 := (jn @h2 (jn @h2d g'2))
   refine aa g'3 ?_
   refine af (by kernel_rfl) (jz _ _ l ⟨_, _, _, rfl, by first | exact hb0s _ | exact hbs⟩ (by omega) _ [] (by kernel_rfl) rfl (fun b => !bJ b) (fun j hj => lvs1_c _ _ _ _ _ _ _)) ?_
   refine aa g'3 ?_
   exact hQ _ _ (au (.inl rfl) hbel (x := .bool (!(l.any (fun b => !bJ b)))) (ai Tryz.results28) rfl ⟨by first | (simp [lsB, h1d, h2d]; done) | (unfold lsB; simp only [h1, h2]; rfl), rfl⟩)
  ·have h2d := bsT h2
   have g'4 := (jn @h2 (jn @h2d g'2))
   refine aa g'4 ?_
   exact hQ _ _ (au (.inl rfl) hbel (x := .bool false) (ai Tryz.results28) rfl ⟨by first | (simp [lsB, h1d, h2d]; done) | (unfold lsB; simp only [h1, h2]; rfl), rfl⟩)
 ·have h1d := bsT h1
  have g'5 := (jn @h1 (jn @h1d g'1))
  refine aa g'5 ?_
  exact hQ _ _ (au (.inl rfl) hbel (x := .bool false) (ai Tryz.results28) rfl ⟨by first | (simp [lsB, h1d]; done) | (unfold lsB; simp only [h1]; rfl), rfl⟩)
theorem lvc1_c (H : ac) (m : Int) (r : Int) : ACalls Tryz.prog 71 [.agg [.int .i64 m, .int .i64 r]] H (fun v H' => v = .bool (!(eJ (m, r))) ∧ H' = H) := by
 refine AcT true Tryz.func71 ?_; intro hbel Q hQ
 refine aQ ?_
 refine al (fun h1 => ?_) (fun h1 => ?_)
 ·have h1d := bsT h1
  have g'6 := (jn @h1 @h1d)
  refine aa g'6 ?_
  refine al (fun h2 => ?_) (fun h2 => ?_)
  ·have h2d := bsT h2
   have g'7 := (jn @h2 (jn @h2d g'6))
   refine aa g'7 ?_
   refine al (fun h3 => ?_) (fun h3 => ?_)
   ·have h3d := bsT h3
    have g'8 := (jn @h3 (jn @h3d g'7))
    refine aa g'8 ?_
    exact hQ _ _ (ae (.inl rfl) hbel (x := .bool (decide (1024 < r))) (ai Tryz.results71) rfl ⟨by first | (simp [eJ, dA, btw, h1d, h2d, h3d]; done) | (by_cases hq : 1024 < r <;> simp [eJ, dA, btw, hq] <;> omega), rfl⟩)
   ·have h3d := bsT h3
    have g'9 := (jn @h3 (jn @h3d g'7))
    refine aa g'9 ?_
    exact hQ _ _ (ae (.inl rfl) hbel (x := .bool true) (ai Tryz.results71) rfl ⟨by first | (simp [eJ, dA, btw, h1d, h2d, h3d]; done) | (by_cases hq : 1024 < r <;> simp [eJ, dA, btw, hq] <;> omega), rfl⟩)
  ·have h2d := bsT h2
   have g'10 := (jn @h2 (jn @h2d g'6))
   refine aa g'10 ?_
   exact hQ _ _ (ae (.inl rfl) hbel (x := .bool true) (ai Tryz.results71) rfl ⟨by first | (simp [eJ, dA, btw, h1d, h2d]; done) | (by_cases hq : 1024 < r <;> simp [eJ, dA, btw, hq] <;> omega), rfl⟩)
 ·have h1d := bsT h1
  have g'11 := (jn @h1 @h1d)
  refine aa g'11 ?_
  exact hQ _ _ (ae (.inl rfl) hbel (x := .bool true) (ai Tryz.results71) rfl ⟨by first | (simp [eJ, dA, btw, h1d]; done) | (by_cases hq : 1024 < r <;> simp [eJ, dA, btw, hq] <;> omega), rfl⟩)
theorem tr (H : ac) (q : AV) (sc : List (Int × Int)) (hq : Sl H 2 q sc.length (prs sc)) (hl : sc.length ≤ 1000000000) : ACalls Tryz.prog 47 [q] H (fun v H' => v = .bool (cw sc) ∧ H' = H) := by
 obtain ⟨bq, oq, cq, rfl, hbq⟩ := hq
 have hblq := getElem?_lt hbq
 have hb0q := fun l => aq (l := l) hbq
 refine AcT true Tryz.func47 ?_; intro hbel Q hQ
 have g'12 := (jn @hbq @hb0q)
 refine aa g'12 ?_
 refine al (fun h1 => ?_) (fun h1 => ?_)
 ·have h1d := bsT h1
  have g'13 := (jn @h1 (jn @h1d g'12))
  refine aa g'13 ?_
  refine af (by kernel_rfl) (has_m _ _ sc ⟨_, _, _, rfl, by first | exact hb0q _ | exact hbq⟩ (by omega) _ [] (by kernel_rfl) rfl (fun e => !eJ e) (fun j hj => lvc1_c _ _ _)) ?_
  refine aa g'13 ?_
  exact hQ _ _ (au (.inl rfl) hbel (x := .bool (!(sc.any (fun e => !eJ e)))) (ai Tryz.results47) rfl ⟨by first | (simp [cw, h1d]; done) | (unfold cw; simp only [h1]; rfl), rfl⟩)
 ·have h1d := bsT h1
  have g'14 := (jn @h1 (jn @h1d g'12))
  refine aa g'14 ?_
  exact hQ _ _ (au (.inl rfl) hbel (x := .bool false) (ai Tryz.results47) rfl ⟨by first | (simp [cw, h1d]; done) | (unfold cw; simp only [h1]; rfl), rfl⟩)
theorem lcop_c (H : ac) (W : Int) (Hh : Int) (pp : AV) (xs : List Int) (hpp : Sl H 1 pp xs.length (ints .u8 xs)) (hx6 : xs.length ≤ 1000000) (hx0 : 0 < xs.length) : ACalls Tryz.prog 30 [.agg [.int .i64 W, .int .i64 Hh, pp]] H (fun v H' => v = .agg [.int .i64 W, .int .i64 Hh, .sl (some (H.length, 0)) xs.length none] ∧ H' = H ++ [.cells true 1 (ints .u8 xs)]) := by
 obtain ⟨bpp, opp, cpp, rfl, hbpp⟩ := hpp
 have hblpp := getElem?_lt hbpp
 have hb0pp := fun l => aq (l := l) hbpp
 refine AcT false Tryz.func30 ?_; intro hbel Q hQ
 have g'15 := (jn @hbpp @hb0pp)
 refine aa g'15 ?_
 refine bV (by kernel_rfl) (by simp) (kE _ _ xs ⟨_, _, _, rfl, by first | exact hb0pp _ | exact hbpp⟩ hx6 hx0) ?_
 refine aa g'15 ?_
 refine hQ _ _ (aY (.inl rfl) hbel (x1 := .agg [.int .i64 W, .int .i64 Hh, .sl (some (H.length + 2, 0)) xs.length none]) (l2 := [.cells true 1 (ints .u8 xs)]) (.agg [.int .i64 W, .int .i64 Hh, .sl (some (H.length, 0)) xs.length none]) (ai Tryz.results30) [] rfl [2] (by decide) ⟨rfl, rfl⟩ ?_)
 exact aW
open Go.RowKit
theorem lnew_y (H : ac) (W : Int) (Hh : Int) (pp : AV) (xs : List Int) (s : AV) (l : List T6) (tu : Int) (le : Int) (sl : Int) (ra : Int) (hpp : Sl H 1 pp xs.length (ints .u8 xs)) (hs : Sl H 6 s l.length (r6 l)) (hV : cl W Hh xs = true) (hL : lsB l = true) (hB : cu tu le sl ra = true) : ACalls Tryz.prog 8 [.agg [.int .i64 W, .int .i64 Hh, pp], s, .agg [.int .i64 tu, .int .i64 le, .int .i64 sl, .int .i64 ra]] H (fun v H' => v = .tup [.ptr (some (H.length + 2, 0)), .int .i64 0] ∧ H' = H ++ [.cells true 1 (ints .u8 xs), .cells true 6 (r6 l), .cells true 0 [.int .i64 W, .int .i64 Hh, .sl (some (H.length, 0)) xs.length none, .sl (some (H.length + 1, 0)) l.length none, .int .i64 tu, .int .i64 le, .int .i64 sl, .int .i64 ra, .bool false]]) := by
 obtain ⟨bpp, opp, cpp, rfl, hbpp⟩ := hpp
 have hblpp := getElem?_lt hbpp
 have hb0pp := fun l => aq (l := l) hbpp
 obtain ⟨bs, os, cs, rfl, hbs⟩ := hs
 have hbls := getElem?_lt hbs
 have hb0s := fun l => aq (l := l) hbs
 have hVV := cJ.1 hV
 have hx6 : xs.length ≤ 1000000 := by have h4 := hVV.len; have := Int.mul_le_mul hVV.w1 hVV.h1 (by have := hVV.h0; omega) (by decide); omega
 have hx0 : 0 < xs.length := by have := (hVV.idx (show inB W Hh 0 0 = true from dV.2 (by have := hVV.w0; have := hVV.h0; omega))).2.2.2.2.1; omega
 have hLL := dI.1 hL
 have hS16 := (bY.1 hLL.2).1
 have hl0 := hLL.1
 (refine bF Tryz.func8 _ rfl (Nat.le_of_ble_eq_true (by kernel_rfl)) rfl ?_; intro hbel Q hQ hQ' c hc; unfold Tryz.f8 at hc; simp only [Option.some.injEq] at hc; subst hc; clear hQ')
 refine aN fun Q1 hn1 hr1 he1 => ?_
 have hQ1 := fun F H' h => hr1 F H' (hQ F H' h)
 refine aI false try_mixed (by kernel_rfl) ?_
 have g'1 := (jn @hbpp (jn @hb0pp (jn @hbs (jn @hb0s (jn @hV (jn @hL @hB))))))
 refine aa g'1 ?_
 refine hn1 _ _ ?_
 refine aN fun Q2 hn2 hr2 he2 => ?_
 have hQ2 := fun F H' h => hr2 F H' (hQ F H' h)
 refine aI false try_mixed (by kernel_rfl) ?_
 refine aa g'1 ?_
 refine af (by kernel_rfl) (hI _ W Hh _ xs (.inr ⟨_, _, _, rfl, by first | exact hb0pp _ | exact hbpp⟩)) ?_
 refine aa g'1 ?_
 refine af (by kernel_rfl) (jI _ _ l ⟨_, _, _, rfl, by first | exact hb0s _ | exact hbs⟩ (by omega)) ?_
 refine aa g'1 ?_
 refine af (by kernel_rfl) (ja _ tu le sl ra) ?_
 refine aa g'1 ?_
 refine hn2 _ _ ?_
 refine cd false try_mixed [[0, 1, 2, 3, 4, 5, 6, 7, 8]] (by kernel_rfl) (fun F2 H2 => F2 = [(6, .ptr (some (H.length + 2, 0))), (7, .int .i64 0)] ∧ H2 = H ++ [.cells true 1 (ints .u8 xs), .cells true 6 (r6 l), .cells true 0 [.int .i64 W, .int .i64 Hh, .sl (some (H.length, 0)) xs.length none, .sl (some (H.length + 1, 0)) l.length none, .int .i64 tu, .int .i64 le, .int .i64 sl, .int .i64 ra, .bool false]]) ?_ ?_
 ·refine aC ?_ (ce) <;> intro J hJ
  ·skip
   refine aw g'1 ?_
   refine bV (by kernel_rfl) (by simp) (lcop_c _ W Hh _ xs ⟨_, _, _, rfl, by first | exact hb0pp _ | exact hbpp⟩ hx6 hx0) ?_
   refine aw g'1 ?_
   refine bV (by kernel_rfl) (by simp) (iw _ _ l ⟨_, _, _, rfl, by first | exact hb0s _ | exact hbs⟩ (by first | omega | (simp only [List.length_cons, List.length_nil]; omega)) (by first | omega | simp)) ?_
   refine aw g'1 ?_
   refine aS (hJ _ _ ⟨_, _, _, ⟨rfl, rfl⟩, Abs.byG hbel [] rfl [2, 3, 4] (by decide) ?_⟩)
   exact aD (jn @bx (jn @bk (jn @bW @bA)))
 rintro F2 H2 ⟨rfl, rfl⟩
 refine aI false try_mixed (by kernel_rfl) ?_
 have g'2 := (jn @ck (jn @cZ (jn @bM (jn @dw g'1))))
 refine aa g'2 ?_
 refine hQ _ _ (aY (.inl rfl) hbel (x1 := .tup [.ptr (some (H.length + 2, 0)), .int .i64 0]) (l2 := [.cells true 1 (ints .u8 xs), .cells true 6 (r6 l), .cells true 0 [.int .i64 W, .int .i64 Hh, .sl (some (H.length, 0)) xs.length none, .sl (some (H.length + 1, 0)) l.length none, .int .i64 tu, .int .i64 le, .int .i64 sl, .int .i64 ra, .bool false]]) (.tup [.ptr (some (H.length + 2, 0)), .int .i64 0]) (ai Tryz.results8) [] rfl [0, 1, 2] (by decide) ⟨rfl, rfl⟩ ?_)
 exact aV @bA
theorem lnew_n (H : ac) (W : Int) (Hh : Int) (pp : AV) (xs : List Int) (s : AV) (l : List T6) (tu : Int) (le : Int) (sl : Int) (ra : Int) (hpp : Sl H 1 pp xs.length (ints .u8 xs)) (hs : Sl H 6 s l.length (r6 l)) (hl : l.length ≤ 1000000000) (hn : (cl W Hh xs && lsB l && cu tu le sl ra) = false) : ACalls Tryz.prog 8 [.agg [.int .i64 W, .int .i64 Hh, pp], s, .agg [.int .i64 tu, .int .i64 le, .int .i64 sl, .int .i64 ra]] H (fun v H' => v = .tup [.ptr none, .int .i64 1] ∧ H' = H) := by
 obtain ⟨bpp, opp, cpp, rfl, hbpp⟩ := hpp
 have hblpp := getElem?_lt hbpp
 have hb0pp := fun l => aq (l := l) hbpp
 obtain ⟨bs, os, cs, rfl, hbs⟩ := hs
 have hbls := getElem?_lt hbs
 have hb0s := fun l => aq (l := l) hbs
 refine AcT true Tryz.func8 ?_; intro hbel Q hQ
 have g'3 := (jn @hbpp (jn @hb0pp (jn @hbs @hb0s)))
 refine aa g'3 ?_
 refine af (by kernel_rfl) (hI _ W Hh _ xs (.inr ⟨_, _, _, rfl, by first | exact hb0pp _ | exact hbpp⟩)) ?_
 refine aa g'3 ?_
 refine al (fun h1 => ?_) (fun h1 => ?_)
 ·have h1d := bsT h1
  have hV := h1d
  have g'4 := (jn @h1 (jn @h1d g'3))
  refine aa g'4 ?_
  refine af (by kernel_rfl) (jI _ _ l ⟨_, _, _, rfl, by first | exact hb0s _ | exact hbs⟩ (by omega)) ?_
  refine aa g'4 ?_
  refine al (fun h2 => ?_) (fun h2 => ?_)
  ·have h2d := bsT h2
   have hL := h2d
   have g'5 := (jn @h2 (jn @h2d g'4))
   refine aa g'5 ?_
   refine af (by kernel_rfl) (ja _ tu le sl ra) ?_
   refine aa g'5 ?_
   refine ak (fun h3 => ?_) (fun h3 => ?_)
   ·have h3d := bsT h3
    have g'6 := (jn @h3 (jn @h3d g'5))
    refine aa g'6 ?_
    exact hQ _ _ (ae (.inl rfl) hbel (x := .tup [.ptr none, .int .i64 1]) (ai Tryz.results8) rfl ⟨rfl, rfl⟩)
   ·have h3d := bsT h3
    rw [hV, hL, h3d] at hn
    exact absurd hn (by decide)
  ·have h2d := bsT h2
   have g'7 := (jn @h2 (jn @h2d g'4))
   refine aa g'7 ?_
   exact hQ _ _ (ae (.inl rfl) hbel (x := .tup [.ptr none, .int .i64 1]) (ai Tryz.results8) rfl ⟨rfl, rfl⟩)
 ·have h1d := bsT h1
  have g'8 := (jn @h1 (jn @h1d g'3))
  refine aa g'8 ?_
  exact hQ _ _ (ae (.inl rfl) hbel (x := .tup [.ptr none, .int .i64 1]) (ai Tryz.results8) rfl ⟨rfl, rfl⟩)
open Go.RowKit
theorem gQ (H : ac) (s : AV) (l : List T6) (hs : Sl H 6 s l.length (r6 l)) (hl : l.length ≤ 1000000000) : ACalls Tryz.prog 33 [s] H (fun v H' => v = .bool (lsB l) ∧ H' = H) := by
 obtain ⟨bs, os, cs, rfl, hbs⟩ := hs
 have hbls := getElem?_lt hbs
 have hb0s := fun l => aq (l := l) hbs
 refine AcT true Tryz.func33 ?_; intro hbel Q hQ
 have g'1 := (jn @hbs @hb0s)
 refine aa g'1 ?_
 refine af (by kernel_rfl) (bset_c _ _ l ⟨_, _, _, rfl, by first | exact hb0s _ | exact hbs⟩ (by omega)) ?_
 refine aa g'1 ?_
 refine al (fun h1 => ?_) (fun h1 => ?_)
 ·have h1d := bsT h1
  have hS := h1d
  have hfinL : lsB l = decide (0 < l.length) := by
   cases hq : decide (0 < l.length)
   ·rw [← Bool.not_eq_true]; intro k; exact absurd (dI.1 k).1 (by simpa using hq)
   ·exact dI.2 ⟨by simpa using hq, hS⟩
  have g'2 := (jn @h1 (jn @h1d g'1))
  refine aa g'2 ?_
  exact hQ _ _ (au (.inl rfl) hbel (x := .bool (decide (0 < ((l.length : Nat) : Int)))) (ai Tryz.results33) rfl ⟨by first | (rw [hfinL]; done) | (rw [hfinL]; simp) | (rw [hfinL]; rfl), rfl⟩)
 ·have h1d := bsT h1
  have hfinL : lsB l = false := by rw [← Bool.not_eq_true]; intro k; exact absurd ((dI.1 k).2.symm.trans h1d) (by decide)
  have g'3 := (jn @h1 (jn @h1d g'1))
  refine aa g'3 ?_
  exact hQ _ _ (au (.inl rfl) hbel (x := .bool false) (ai Tryz.results33) rfl ⟨by first | (rw [hfinL]; done) | (rw [hfinL]; simp) | (rw [hfinL]; rfl), rfl⟩)
theorem rflost_c (H : ac) (W : Int) (Hh : Int) (pp : AV) (xs : List Int) (s : AV) (l : List T6) (tu : Int) (le : Int) (sl : Int) (ra : Int) (lost : Bool) (bz : Nat) (hpp : Sl H 1 pp xs.length (ints .u8 xs)) (hs : Sl H 6 s l.length (r6 l)) (hz : ∃ o, H[bz]? = some (.cells o 0 [.int .i64 W, .int .i64 Hh, pp, s, .int .i64 tu, .int .i64 le, .int .i64 sl, .int .i64 ra, .bool lost])) : ACalls Tryz.prog 39 [.ptr (some (bz, 0))] H (fun v H' => v = .bool lost ∧ H' = H) := by
 obtain ⟨bpp, opp, cpp, rfl, hbpp⟩ := hpp
 have hblpp := getElem?_lt hbpp
 have hb0pp := fun l => aq (l := l) hbpp
 obtain ⟨bs, os, cs, rfl, hbs⟩ := hs
 have hbls := getElem?_lt hbs
 have hb0s := fun l => aq (l := l) hbs
 obtain ⟨oz, hbz⟩ := hz
 have hblz := getElem?_lt hbz
 have hb0z := fun l => aq (l := l) hbz
 refine AcT true Tryz.func39 ?_; intro hbel Q hQ
 have g'4 := (jn @hbpp (jn @hb0pp (jn @hbs (jn @hb0s (jn @hbz (jn @hb0z @Option.isNone_some.{0}))))))
 refine aa g'4 ?_
 exact hQ _ _ (au (.inl rfl) hbel (x := .bool lost) (ai Tryz.results39) rfl ⟨rfl, rfl⟩)
open Go.RowKit
theorem ints_all {k : IntKind} {l : List Int} : (ints k l).take l.length = ints k l ∧ (ints k l).take (l.length * 1) = ints k l := ⟨List.take_of_length_le (by rw [ck]; omega), List.take_of_length_le (by rw [ck]; omega)⟩
section
variable {W Hh : Int} {xs : List Int} {l : List T6} {sc : List (Int × Int)} {g : Int}
end
set_option linter.unusedSimpArgs false
set_option linter.unusedVariables false
open Go.RowKit
set_option maxHeartbeats 4000000
set_option maxRecDepth 100000
theorem ma (b : T6) : 0 ≤ c6 b ∧ c6 b ≤ 1125906929254400 := by
 unfold c6
 split
 ·rename_i h
  have hb := bO.1 h
  have ha := bm.1 hb.2.2
  have m1 := bE (a := b.2.2.1 - b.1 + 1) (b := b.2.2.2.1 - b.2.1 + 1) (A := 2097153) (B := 2097153) (by omega) (by omega)
  have p1 : 0 ≤ (b.2.2.1 - b.1 + 1) * (b.2.2.2.1 - b.2.1 + 1) := Int.mul_nonneg (by omega) (by omega)
  have m2 := bE (a := (b.2.2.1 - b.1 + 1) * (b.2.2.2.1 - b.2.1 + 1)) (b := b.2.2.2.2.2) (A := 4398050705409) (B := 256) (by omega) (by omega)
  have p2 : 0 ≤ (b.2.2.1 - b.1 + 1) * (b.2.2.2.1 - b.2.1 + 1) * b.2.2.2.2.2 := Int.mul_nonneg p1 (by omega)
  omega
 ·omega
def volS (l : List T6) : Nat → Int
 | 0 => 0
 | n + 1 => volS l n + c6 (g6 l n)
theorem mb (l : List T6) : ∀ n : Nat, 0 ≤ volS l n ∧ volS l n ≤ 1125906929254400 * (n : Int)
 | 0 => by simp [volS]
 | n + 1 => by
  have := mb l n
  have e := ma (g6 l n)
  simp only [volS]
  omega
theorem jJ (H : ac) (W : Int) (Hh : Int) (pp : AV) (xs : List Int) (s : AV) (l : List T6) (tu : Int) (le : Int) (sl : Int) (ra : Int) (lost : Bool) (bz : Nat) (hpp : Sl H 1 pp xs.length (ints .u8 xs)) (hs : Sl H 6 s l.length (r6 l)) (hz : ∃ o, H[bz]? = some (.cells o 0 [.int .i64 W, .int .i64 Hh, pp, s, .int .i64 tu, .int .i64 le, .int .i64 sl, .int .i64 ra, .bool lost])) : ACalls Tryz.prog 24 [.ptr (some (bz, 0))] H (fun v H' => v = .bool lost ∧ H' = H) := by
 obtain ⟨bpp, opp, cpp, rfl, hbpp⟩ := hpp
 have hblpp := getElem?_lt hbpp
 have hb0pp := fun l => aq (l := l) hbpp
 obtain ⟨bs, os, cs, rfl, hbs⟩ := hs
 have hbls := getElem?_lt hbs
 have hb0s := fun l => aq (l := l) hbs
 obtain ⟨oz, hbz⟩ := hz
 have hblz := getElem?_lt hbz
 have hb0z := fun l => aq (l := l) hbz
 refine AcT true Tryz.func24 ?_; intro hbel Q hQ
 have g'1 := (jn @hbpp (jn @hb0pp (jn @hbs (jn @hb0s (jn @hbz (jn @hb0z @Option.isNone_some.{0}))))))
 refine aa g'1 ?_
 exact hQ _ _ (au (.inl rfl) hbel (x := .bool lost) (ai Tryz.results24) rfl ⟨rfl, rfl⟩)
theorem lset_c (H : ac) (W : Int) (Hh : Int) (pp : AV) (xs : List Int) (s : AV) (l : List T6) (tu : Int) (le : Int) (sl : Int) (ra : Int) (lost : Bool) (bz : Nat) (hpp : Sl H 1 pp xs.length (ints .u8 xs)) (hs : Sl H 6 s l.length (r6 l)) (hz : ∃ o, H[bz]? = some (.cells o 0 [.int .i64 W, .int .i64 Hh, pp, s, .int .i64 tu, .int .i64 le, .int .i64 sl, .int .i64 ra, .bool lost])) (hl16 : l.length ≤ 16) (hl0 : 0 < l.length) : ACalls Tryz.prog 12 [.ptr (some (bz, 0))] H (fun v H' => v = .sl (some (H.length, 0)) l.length none ∧ H' = H ++ [.cells true 6 (r6 l)]) := by
 obtain ⟨bpp, opp, cpp, rfl, hbpp⟩ := hpp
 have hblpp := getElem?_lt hbpp
 have hb0pp := fun l => aq (l := l) hbpp
 obtain ⟨bs, os, cs, rfl, hbs⟩ := hs
 have hbls := getElem?_lt hbs
 have hb0s := fun l => aq (l := l) hbs
 obtain ⟨oz, hbz⟩ := hz
 have hblz := getElem?_lt hbz
 have hb0z := fun l => aq (l := l) hbz
 refine AcT true Tryz.func12 ?_; intro hbel Q hQ
 have g'2 := (jn @hbpp (jn @hb0pp (jn @hbs (jn @hb0s (jn @hbz (jn @hb0z @Option.isNone_some.{0}))))))
 refine aa g'2 ?_
 refine af (by kernel_rfl) (iw _ _ l ⟨_, _, _, rfl, by first | exact hb0s _ | exact hbs⟩ (by first | omega | (simp only [List.length_cons, List.length_nil]; omega)) (by first | omega | simp)) ?_
 refine aa g'2 ?_
 refine hQ _ _ (aY (.inl rfl) hbel (x1 := .sl (some (H.length, 0)) l.length none) (l2 := [.cells true 6 (r6 l)]) (.sl (some (H.length, 0)) l.length none) (ai Tryz.results12) [] rfl [0] (by decide) ⟨rfl, rfl⟩ ?_)
 exact aV @bA
theorem lplan_c (H : ac) (W : Int) (Hh : Int) (pp : AV) (xs : List Int) (s : AV) (l : List T6) (tu : Int) (le : Int) (sl : Int) (ra : Int) (lost : Bool) (bz : Nat) (hpp : Sl H 1 pp xs.length (ints .u8 xs)) (hs : Sl H 6 s l.length (r6 l)) (hz : ∃ o, H[bz]? = some (.cells o 0 [.int .i64 W, .int .i64 Hh, pp, s, .int .i64 tu, .int .i64 le, .int .i64 sl, .int .i64 ra, .bool lost])) (hx6 : xs.length ≤ 1000000) (hx0 : 0 < xs.length) : ACalls Tryz.prog 14 [.ptr (some (bz, 0))] H (fun v H' => v = .agg [.int .i64 W, .int .i64 Hh, .sl (some (H.length, 0)) xs.length none] ∧ H' = H ++ [.cells true 1 (ints .u8 xs)]) := by
 obtain ⟨bpp, opp, cpp, rfl, hbpp⟩ := hpp
 have hblpp := getElem?_lt hbpp
 have hb0pp := fun l => aq (l := l) hbpp
 obtain ⟨bs, os, cs, rfl, hbs⟩ := hs
 have hbls := getElem?_lt hbs
 have hb0s := fun l => aq (l := l) hbs
 obtain ⟨oz, hbz⟩ := hz
 have hblz := getElem?_lt hbz
 have hb0z := fun l => aq (l := l) hbz
 refine AcT true Tryz.func14 ?_; intro hbel Q hQ
 have g'3 := (jn @hbpp (jn @hb0pp (jn @hbs (jn @hb0s (jn @hbz (jn @hb0z @Option.isNone_some.{0}))))))
 refine aa g'3 ?_
 refine af (by kernel_rfl) (lcop_c _ W Hh _ xs ⟨_, _, _, rfl, by first | exact hb0pp _ | exact hbpp⟩ hx6 hx0) ?_
 refine aa g'3 ?_
 refine hQ _ _ (aY (.inl rfl) hbel (x1 := .agg [.int .i64 W, .int .i64 Hh, .sl (some (H.length + 1, 0)) xs.length none]) (l2 := [.cells true 1 (ints .u8 xs)]) (.agg [.int .i64 W, .int .i64 Hh, .sl (some (H.length, 0)) xs.length none]) (ai Tryz.results14) [] rfl [1] (by decide) ⟨rfl, rfl⟩ ?_)
 exact aW
theorem lvol_c (H : ac) (W : Int) (Hh : Int) (pp : AV) (xs : List Int) (s : AV) (l : List T6) (tu : Int) (le : Int) (sl : Int) (ra : Int) (lost : Bool) (bz : Nat) (hpp : Sl H 1 pp xs.length (ints .u8 xs)) (hs : Sl H 6 s l.length (r6 l)) (hz : ∃ o, H[bz]? = some (.cells o 0 [.int .i64 W, .int .i64 Hh, pp, s, .int .i64 tu, .int .i64 le, .int .i64 sl, .int .i64 ra, .bool lost])) (hl16 : l.length ≤ 16) (hl0 : 0 < l.length) : ACalls Tryz.prog 25 [.ptr (some (bz, 0))] H (fun v H' => v = .int .i64 (volS l l.length) ∧ H' = H) := by
 obtain ⟨bpp, opp, cpp, rfl, hbpp⟩ := hpp
 have hblpp := getElem?_lt hbpp
 have hb0pp := fun l => aq (l := l) hbpp
 obtain ⟨bs, os, cs, rfl, hbs⟩ := hs
 have hbls := getElem?_lt hbs
 have hb0s := fun l => aq (l := l) hbs
 obtain ⟨oz, hbz⟩ := hz
 have hblz := getElem?_lt hbz
 have hb0z := fun l => aq (l := l) hbz
 refine AcT true Tryz.func25 ?_; intro hbel Q hQ
 have g'4 := (jn @hbpp (jn @hb0pp (jn @hbs (jn @hb0s (jn @hbz (jn @hb0z @Option.isNone_some.{0}))))))
 refine aa g'4 ?_
 refine af (by kernel_rfl) (lset_c _ W Hh _ xs _ l tu le sl ra lost _ ⟨_, _, _, rfl, by first | exact hb0pp _ | exact hbpp⟩ ⟨_, _, _, rfl, by first | exact hb0s _ | exact hbs⟩ ⟨_, by first | exact hb0z _ | exact hbz⟩ hl16 hl0) ?_
 refine aa g'4 ?_
 refine go_loop try_mixed (by kernel_rfl) (fun k F Hx => ∃ i : Nat, i + k = l.length ∧ F = [(3, .int .i64 (volS l i)), (7, .sl (some (H.length, 0)) l.length none), (8, .int .i64 ((l.length : Nat) : Int)), (9, .int .i64 ((i : Nat) : Int))] ∧ Hx = H ++ [.cells true 6 (r6 l)]) (l.length) ?_ ?_
 ·refine ⟨_, _, _, ⟨0, by omega, rfl, rfl⟩, Abs.byG hbel [] rfl [0] (by decide) ?_⟩
  exact aD (jn @volS.eq_1 (jn @bx (jn @bk (jn @bW @bA))))
 ·rintro k0 F Hx ⟨i, hm0, rfl, rfl⟩ J0 hJ0
  have g'5 := (jn @bM (jn @dw g'4))
  refine aa g'5 ?_
  refine ak (fun h1 => ?_) (fun h1 => ?_)
  ·have h1d := bsT h1
   have hlt : i < l.length := by omega
   have hvb := ma (g61 l i, g62 l i, g63 l i, g64 l i, g65 l i, g66 l i)
   have hvs := mb l i
   have hve : c6 (g61 l i, g62 l i, g63 l i, g64 l i, g65 l i, g66 l i) = c6 (g6 l i) := rfl
   have q2 := cD (l := l) (j := i) (by omega)
   have g'6 := (jn @h1 (jn @h1d (jn @q2 g'5)))
   refine aa g'6 ?_
   refine af (by kernel_rfl) (vol_c _ (g61 l i) (g62 l i) (g63 l i) (g64 l i) (g65 l i) (g66 l i)) ?_
   refine aa g'6 ?_
   refine hJ0 _ _ ⟨k0 - 1, by omega, _, _, _, ⟨i + 1, by omega, rfl, rfl⟩, Abs.byG hbel [] rfl [0] (by decide) ?_⟩
   exact aD (jn @volS.eq_2 (jn @hve (jn @bx (jn @bk (jn @bW @bA)))))
  ·have h1d := bsT h1
   obtain rfl : i = l.length := by omega
   have g'7 := (jn @h1 (jn @h1d g'5))
   refine aa g'7 ?_
   exact hQ _ _ (ae (.inl rfl) hbel (x := .int .i64 (volS l l.length)) (ai Tryz.results25) rfl ⟨rfl, rfl⟩)
open Go.RowKit
def hulN (l : List T6) : Nat → T6
 | 0 => g6 l 0
 | n + 1 => dY (hulN l n) (g6 l (n + 1))
theorem mc {l : List T6} (h : ∀ b ∈ l, bJ b = true) : ∀ n : Nat, n < l.length → bJ (hulN l n) = true
 | 0, h0 => h _ (cU h0)
 | n + 1, hn => hulB_ok (mc h n (by omega)) (h _ (cU hn))
theorem lbox_c (H : ac) (W : Int) (Hh : Int) (pp : AV) (xs : List Int) (s : AV) (l : List T6) (tu : Int) (le : Int) (sl : Int) (ra : Int) (lost : Bool) (bz : Nat) (hpp : Sl H 1 pp xs.length (ints .u8 xs)) (hs : Sl H 6 s l.length (r6 l)) (hz : ∃ o, H[bz]? = some (.cells o 0 [.int .i64 W, .int .i64 Hh, pp, s, .int .i64 tu, .int .i64 le, .int .i64 sl, .int .i64 ra, .bool lost])) (hS : bX l = true) (hl0 : 0 < l.length) : ACalls Tryz.prog 26 [.ptr (some (bz, 0))] H (fun v H' => v = .tup [.agg [.int .i64 ((hulN l (l.length - 1)).1), .int .i64 ((hulN l (l.length - 1)).2.1), .int .i64 ((hulN l (l.length - 1)).2.2.1), .int .i64 ((hulN l (l.length - 1)).2.2.2.1), .int .i64 ((hulN l (l.length - 1)).2.2.2.2.1), .int .i64 ((hulN l (l.length - 1)).2.2.2.2.2)], .bool true] ∧ H' = H) := by
 obtain ⟨bpp, opp, cpp, rfl, hbpp⟩ := hpp
 have hblpp := getElem?_lt hbpp
 have hb0pp := fun l => aq (l := l) hbpp
 obtain ⟨bs, os, cs, rfl, hbs⟩ := hs
 have hbls := getElem?_lt hbs
 have hb0s := fun l => aq (l := l) hbs
 obtain ⟨oz, hbz⟩ := hz
 have hblz := getElem?_lt hbz
 have hb0z := fun l => aq (l := l) hbz
 have hSS := bY.1 hS
 have hl16 := hSS.1
 refine AcT true Tryz.func26 ?_; intro hbel Q hQ
 have q1 := sZ (l := l) (by omega)
 have g'3 := (jn @hbpp (jn @hb0pp (jn @hbs (jn @hb0s (jn @hbz (jn @hb0z (jn @bM (jn @q1 @Option.isNone_some.{0}))))))))
 refine aa g'3 ?_
 refine go_loop try_mixed (by kernel_rfl) (fun k F Hx => ∃ i : Nat, i + k = l.length - 1 ∧ F = [(2, .ptr (some (H.length, 0))), (4, .ptr (some (H.length + 1, 0))), (20, .sl (some (bs, 6)) (l.length - 1) none), (21, .int .i64 ((l.length - 1 : Nat) : Int)), (22, .int .i64 ((i : Nat) : Int))] ∧ Hx = H ++ [.cells true 0 [.int .i64 0, .int .i64 0, .int .i64 0, .int .i64 0, .int .i64 0, .int .i64 0], .cells true 0 [.int .i64 ((hulN l i).1), .int .i64 ((hulN l i).2.1), .int .i64 ((hulN l i).2.2.1), .int .i64 ((hulN l i).2.2.2.1), .int .i64 ((hulN l i).2.2.2.2.1), .int .i64 ((hulN l i).2.2.2.2.2)]]) (l.length - 1) ?_ ?_
 ·refine ⟨_, _, _, ⟨0, by omega, rfl, rfl⟩, Abs.byG hbel [] rfl [0, 1] (by decide) ?_⟩
  exact aV @hulN.eq_1
 ·rintro k0 F Hx ⟨i, hm0, rfl, rfl⟩ J0 hJ0
  refine aa g'3 ?_
  refine ak (fun h2 => ?_) (fun h2 => ?_)
  ·have h2d := bsT h2
   have hlt : i + 1 < l.length := by omega
   have hb1 : bxB ((hulN l i).1) ((hulN l i).2.1) ((hulN l i).2.2.1) ((hulN l i).2.2.2.1) ((hulN l i).2.2.2.2.1) ((hulN l i).2.2.2.2.2) = true := mc hSS.2 i (by omega)
   have hb2 : bxB (g61 l (i + 1)) (g62 l (i + 1)) (g63 l (i + 1)) (g64 l (i + 1)) (g65 l (i + 1)) (g66 l (i + 1)) = true := hSS.2 _ (cU hlt)
   have hs0 : (hulN l (i + 1)).1 = mnI ((hulN l i).1) (g61 l (i + 1)) := rfl
   have hs1 : (hulN l (i + 1)).2.1 = mnI ((hulN l i).2.1) (g62 l (i + 1)) := rfl
   have hs2 : (hulN l (i + 1)).2.2.1 = mxI ((hulN l i).2.2.1) (g63 l (i + 1)) := rfl
   have hs3 : (hulN l (i + 1)).2.2.2.1 = mxI ((hulN l i).2.2.2.1) (g64 l (i + 1)) := rfl
   have hs4 : (hulN l (i + 1)).2.2.2.2.1 = (bG ((hulN l i).2.2.2.2.1) ((hulN l i).2.2.2.2.2) (g65 l (i + 1)) (g66 l (i + 1))).1 := rfl
   have hs5 : (hulN l (i + 1)).2.2.2.2.2 = (bG ((hulN l i).2.2.2.2.1) ((hulN l i).2.2.2.2.2) (g65 l (i + 1)) (g66 l (i + 1))).2 := rfl
   have q3 := r6_load1 (l := l) (j := i) (by omega)
   have g'4 := (jn @h2 (jn @h2d (jn @q3 g'3)))
   refine aa g'4 ?_
   refine af (by kernel_rfl) (bhull_c _ ((hulN l i).1) ((hulN l i).2.1) ((hulN l i).2.2.1) ((hulN l i).2.2.2.1) ((hulN l i).2.2.2.2.1) ((hulN l i).2.2.2.2.2) (g61 l (i + 1)) (g62 l (i + 1)) (g63 l (i + 1)) (g64 l (i + 1)) (g65 l (i + 1)) (g66 l (i + 1)) (by assumption) (by assumption)) ?_
   refine aa g'4 ?_
   refine hJ0 _ _ ⟨k0 - 1, by omega, _, _, _, ⟨i + 1, by omega, rfl, rfl⟩, Abs.byG hbel [] rfl [0, 1] (by decide) ?_⟩
   exact aV (jn @hs0 (jn @hs1 (jn @hs2 (jn @hs3 (jn @hs4 @hs5)))))
  ·have h2d := bsT h2
   obtain rfl : i = l.length - 1 := by omega
   have g'5 := (jn @h2 (jn @h2d g'3))
   refine aa g'5 ?_
   exact hQ _ _ (ae (.inl rfl) hbel (x := .tup [.agg [.int .i64 ((hulN l (l.length - 1)).1), .int .i64 ((hulN l (l.length - 1)).2.1), .int .i64 ((hulN l (l.length - 1)).2.2.1), .int .i64 ((hulN l (l.length - 1)).2.2.2.1), .int .i64 ((hulN l (l.length - 1)).2.2.2.2.1), .int .i64 ((hulN l (l.length - 1)).2.2.2.2.2)], .bool true]) (ai Tryz.results26) rfl ⟨rfl, rfl⟩)
open Go.RowKit
theorem eU {α : Type} {H l : List α} {x : α} {b : Nat} (h : b < H.length) : (H ++ l).set b x = H.set b x ++ l := List.set_append_left _ _ h
theorem fx {α : Type} {H l : List α} {x : α} {b : Nat} (h : b < H.length) : (H.set b x ++ l)[b]? = some x := by
 rw [List.getElem?_append_left (by rw [List.length_set]; exact h), List.getElem?_set_self h]
theorem eN {α : Type} {H : List α} {x : α} {b : Nat} (h : b < H.length) : (H.set b x)[b]? = some x := List.getElem?_set_self h
theorem ep {α : Type} {H l : List α} {x y : α} {b : Nat} (h : b < H.length) : (H.set b x ++ l).set b y = H.set b y ++ l := by
 rw [eU (by rw [List.length_set]; exact h), List.set_set]
theorem fG {α : Type} {H l : List α} {x : α} {b k : Nat} : (H.set b x ++ l)[H.length + k]? = l[k]? := by
 rw [List.getElem?_append_right (by rw [List.length_set]; omega), List.length_set]; congr 1; omega
theorem gF {α : Type} {H l : List α} {x : α} {b : Nat} : (H.set b x ++ l)[H.length]? = l[0]? := fG (k := 0)
theorem fH {α : Type} {H l : List α} {x y : α} {b k : Nat} : (H.set b x ++ l).set (H.length + k) y = H.set b x ++ l.set k y := by
 rw [List.set_append_right _ _ (by rw [List.length_set]; omega), List.length_set]; congr 2; omega
theorem gG {α : Type} {H l : List α} {x y : α} {b : Nat} : (H.set b x ++ l).set H.length y = H.set b x ++ l.set 0 y := fH (k := 0)
theorem Abs0.put {n : Nat} {σ : Nat → Nat} {F1 F2 : Fr} {H1 H2 : ac} (h : Abs0 n σ F1 H1 F2 H2) (hs : ∀ c, n ≤ c → n ≤ σ c) (hi : ∀ b, σ b < H1.length → b < H2.length) (ho : ∀ (b : Nat) (x : ABlk), H2[b]? = some x → x.owned = true → ∃ x', H1[σ b]? = some x' ∧ x'.owned = true) {bf : Nat} (hb : bf < n) (hd : H1[bf]? = some .dead) (y : ABlk) : Abs0 n σ F1 (H1.set bf (y.mv σ)) F2 (H2.set bf y) := by
 have lt1 : bf < H1.length := getElem?_lt hd
 have lt2 : bf < H2.length := Nat.lt_of_lt_of_le hb h.len
 have hsb : ∀ c, c ≠ bf → σ c ≠ bf := fun c hc => by
  by_cases hcn : c < n
  ·rw [h.small c hcn]; exact hc
  ·have := hs c (by omega); omega
 have own : ∀ (b : Nat) (x : ABlk), (H2.set bf y)[b]? = some x → x.owned = true → ∃ x', (H1.set bf (y.mv σ))[σ b]? = some x' ∧ x'.owned = true := fun b x hx ox => by
  by_cases e : bf = b
  ·subst e
   rw [List.getElem?_set_self lt2] at hx; injection hx with hx; subst hx
   rw [h.small _ hb, List.getElem?_set_self lt1]
   exact ⟨_, rfl, by cases y <;> exact ox⟩
  ·rw [List.getElem?_set_ne e] at hx
   rw [List.getElem?_set_ne (hsb b (fun k => e k.symm)).symm]
   exact ho b x hx ox
 refine ⟨h.small, by rw [List.length_set]; exact h.len, fun E E' e1 e2 e3 t v hv => h.frame E E' (by rw [e1, List.length_set]) (by rw [e2, List.length_set]) e3 t v hv, fun E E' e1 e2 eB e3 w hw b x hx => ?_, fun b c x z hx hz ox oz hbc => ⟨?_, own b x hx ox, own c z hz oz⟩⟩
 ·rw [List.length_set] at e1 e2
  by_cases e : bf = b
  ·subst e
   rw [List.getElem?_set_self lt2] at hx; injection hx with hx; subst hx
   have k := hw bf _ (List.getElem?_set_self lt1)
   rw [e3, h.small _ hb]
   exact kP eB e3 (fun b hb => by rw [e2]; exact hi b (by rw [← e1]; exact hb)) k
  ·rw [List.getElem?_set_ne e] at hx
   refine h.heap E E' e1 e2 eB e3 w (fun c z hz => ?_) b x hx
   by_cases e' : bf = c
   ·subst e'; rw [hd] at hz; injection hz with hz; subst hz; trivial
   ·exact hw c z (by rw [List.getElem?_set_ne e']; exact hz)
 ·by_cases e : bf = b
  ·subst e; rw [h.small _ hb]; exact (hsb c (fun k => hbc k.symm)).symm
  ·by_cases e' : bf = c
   ·subst e'; rw [h.small _ hb]; exact hsb b (fun k => e k.symm)
   ·rw [List.getElem?_set_ne e] at hx
    rw [List.getElem?_set_ne e'] at hz
    exact (h.inj b c x z hx hz ox oz hbc).1
theorem Abs.byP {H M l1 l2 : ac} {F1 F2 : Fr} {bf : Nat} {b1 : ABlk} (b2 : ABlk) (hbel : HBel H.length H) (hbf : bf < H.length) (hM : M = H.set bf b1 ++ l1) (G : ac) (hG : G.all eV = true) (sel : List Nat) (hnd : sel.Nodup)
  (h : er (H.length + (l1 ++ G).length) (sig H.length (l1 ++ G).length sel) F1 F2 ∧ b1 = b2.mv (sig H.length (l1 ++ G).length sel) ∧ eu (H.length + (l1 ++ G).length) (sig H.length (l1 ++ G).length sel) (l1 ++ G) sel l2) : Abs H.length (sig H.length (l1 ++ G).length sel) F1 M F2 (H.set bf b2 ++ l2) := by
 subst hM
 obtain ⟨hF, hb, ha⟩ := h
 have hl := (dO ha).1
 have hH := (dO ha).2
 have hn : (H.set bf .dead).length = H.length := List.length_set
 have hbel2 : HBel H.length (H.set bf .dead) := fun b x hx => by
  by_cases e : bf = b
  ·subst e; rw [List.getElem?_set_self hbf] at hx; injection hx with hx; subst hx; rfl
  ·rw [List.getElem?_set_ne e] at hx; exact hbel b x hx
 have k := Abs0.of (n := H.length) (H0 := H.set bf .dead) (l1 := l1 ++ G) (l2 := l2) (F1 := F1) (F2 := F2) hn hbel2 sel hnd (ke hF) hl hH
 have small : ∀ b, b < H.length → sig H.length (l1 ++ G).length sel b = b := fun b hb => by simp [sig, hb]
 have k2 := k.put (bf := bf) (fun c hc => by
   unfold sig
   rw [if_neg (by omega)]
   split <;> omega) (fun b hb => by
   simp only [List.length_append, List.length_set] at hb ⊢
   unfold sig at hb
   split at hb
   ·omega
   ·split at hb
    ·rename_i q; have := getElem?_lt q; omega
    ·omega) (fun b x hx ho => by
   by_cases hbn : b < H.length
   ·rw [small b hbn, List.getElem?_append_left (by rw [hn]; exact hbn)]
    rw [List.getElem?_append_left (by rw [hn]; exact hbn)] at hx
    exact ⟨x, hx, ho⟩
   ·rw [List.getElem?_append_right (by rw [hn]; omega), hn] at hx
    have hlt := getElem?_lt hx
    have h1 : sel[b - H.length]? = some (sel[b - H.length]'(by omega)) := List.getElem?_eq_getElem _
    have h2 : sig H.length (l1 ++ G).length sel b = H.length + sel[b - H.length]'(by omega) := by unfold sig; rw [if_neg hbn, h1]
    rw [h2, List.getElem?_append_right (by rw [hn]; omega), hn, show ∀ i : Nat, H.length + i - H.length = i from fun i => by omega]
    rcases hH _ _ x h1 hx with rfl | h4 | h4
    ·cases ho
    ·exact ⟨_, h4, by cases x <;> exact ho⟩
    ·exact h4.own (by cases x <;> exact ho)) hbf (by rw [List.getElem?_append_left (by rw [hn]; exact hbf)]; exact List.getElem?_set_self hbf) b2
 rw [ep hbf, ep hbf, ← hb, ← List.append_assoc] at k2
 exact ⟨G, hG, k2⟩
theorem ia {P : Program} {fn : Func} {H M l1 l2 : ac} {bf : Nat} {b1 : ABlk} (b2 : ABlk) {R : AV → ac → Prop} {F : Fr} {e : Exit} (he : e = .ret ∨ e = .normal) (hbel : HBel H.length H) (hbf : bf < H.length) (hM : M = H.set bf b1 ++ l1) {x1 : AV} (x2 : AV) (hx : cM P fn F M = some x1) (G : ac) (hG : G.all eV = true) (sel : List Nat) (hnd : sel.Nodup) (hR : R x2 (H.set bf b2 ++ l2))
  (h : W (H.length + (l1 ++ G).length) x1 (x2.mv (sig H.length (l1 ++ G).length sel)) ∧ b1 = b2.mv (sig H.length (l1 ++ G).length sel) ∧ eu (H.length + (l1 ++ G).length) (sig H.length (l1 ++ G).length sel) (l1 ++ G) sel l2) : dr P fn H.length R e F M := by
 have kk := Abs.byP (F1 := [(0, x1)]) (F2 := [(0, x2)]) b2 hbel hbf hM G hG sel hnd ⟨⟨h.1, trivial⟩, h.2⟩
 rcases he with rfl | rfl
 ·exact ⟨x1, hx, _, x2, _, hR, kk⟩
 ·exact ⟨x1, hx, _, x2, _, hR, kk⟩
open Go.RowKit
theorem md (H : ac) (W : Int) (Hh : Int) (pp : AV) (xs : List Int) (hpp : Sl H 1 pp xs.length (ints .u8 xs)) (hx6 : xs.length ≤ 1000000) (hx0 : 0 < xs.length) : ACalls Tryz.prog 35 [.agg [.int .i64 W, .int .i64 Hh, pp]] H (fun v H' => v = .agg [.int .i64 W, .int .i64 Hh, .sl (some (H.length, 0)) xs.length none] ∧ H' = H ++ [.cells true 1 (ints .u8 xs)]) := by
 obtain ⟨bpp, opp, cpp, rfl, hbpp⟩ := hpp
 have hblpp := getElem?_lt hbpp
 have hb0pp := fun l => aq (l := l) hbpp
 have hz1 : (xs.length == 0) = false := beq_eq_false_iff_ne.2 (by omega)
 have hz2 : decide (0 < xs.length) = true := decide_eq_true (by omega)
 refine AcT false Tryz.func35 ?_; intro hbel Q hQ
 have g'1 := (jn @hbpp (jn @hb0pp (jn @ck (jn @cZ (jn @ints_all (jn @hz1 @hz2))))))
 refine aa g'1 ?_
 refine hQ _ _ (aY (.inl rfl) hbel (x1 := .agg [.int .i64 W, .int .i64 Hh, .sl (some (H.length + 3, 0)) xs.length none]) (l2 := [.cells true 1 (ints .u8 xs)]) (.agg [.int .i64 W, .int .i64 Hh, .sl (some (H.length, 0)) xs.length none]) (ai Tryz.results35) [] rfl [3] (by decide) ⟨rfl, rfl⟩ ?_)
 exact aW
theorem rgset_c (H : ac) (W : Int) (Hh : Int) (pp : AV) (xs : List Int) (s : AV) (l : List T6) (tu : Int) (le : Int) (sl : Int) (ra : Int) (lost : Bool) (bz : Nat) (hpp : Sl H 1 pp xs.length (ints .u8 xs)) (hs : Sl H 6 s l.length (r6 l)) (hz : ∃ o, H[bz]? = some (.cells o 0 [.int .i64 W, .int .i64 Hh, pp, s, .int .i64 tu, .int .i64 le, .int .i64 sl, .int .i64 ra, .bool lost])) (hl16 : l.length ≤ 16) (hl0 : 0 < l.length) : ACalls Tryz.prog 37 [.ptr (some (bz, 0))] H (fun v H' => v = .sl (some (H.length, 0)) l.length none ∧ H' = H ++ [.cells true 6 (r6 l)]) := by
 obtain ⟨bpp, opp, cpp, rfl, hbpp⟩ := hpp
 have hblpp := getElem?_lt hbpp
 have hb0pp := fun l => aq (l := l) hbpp
 obtain ⟨bs, os, cs, rfl, hbs⟩ := hs
 have hbls := getElem?_lt hbs
 have hb0s := fun l => aq (l := l) hbs
 obtain ⟨oz, hbz⟩ := hz
 have hblz := getElem?_lt hbz
 have hb0z := fun l => aq (l := l) hbz
 have hz1 : (l.length == 0) = false := beq_eq_false_iff_ne.2 (by omega)
 have hz2 : decide (0 < l.length) = true := decide_eq_true (by omega)
 refine AcT false Tryz.func37 ?_; intro hbel Q hQ
 have g'2 := (jn @hbpp (jn @hb0pp (jn @hbs (jn @hb0s (jn @hbz (jn @hb0z (jn @bM (jn @dw (jn @je (jn @hz1 (jn @hz2 @Option.isNone_some.{0})))))))))))
 refine aa g'2 ?_
 refine hQ _ _ (aY (.inl rfl) hbel (x1 := .sl (some (H.length + 1, 0)) l.length none) (l2 := [.cells true 6 (r6 l)]) (.sl (some (H.length, 0)) l.length none) (ai Tryz.results37) [] rfl [1] (by decide) ⟨rfl, rfl⟩ ?_)
 exact aV @bA
theorem rgplan_c (H : ac) (W : Int) (Hh : Int) (pp : AV) (xs : List Int) (s : AV) (l : List T6) (tu : Int) (le : Int) (sl : Int) (ra : Int) (lost : Bool) (bz : Nat) (hpp : Sl H 1 pp xs.length (ints .u8 xs)) (hs : Sl H 6 s l.length (r6 l)) (hz : ∃ o, H[bz]? = some (.cells o 0 [.int .i64 W, .int .i64 Hh, pp, s, .int .i64 tu, .int .i64 le, .int .i64 sl, .int .i64 ra, .bool lost])) (hx6 : xs.length ≤ 1000000) (hx0 : 0 < xs.length) : ACalls Tryz.prog 38 [.ptr (some (bz, 0))] H (fun v H' => v = .agg [.int .i64 W, .int .i64 Hh, .sl (some (H.length, 0)) xs.length none] ∧ H' = H ++ [.cells true 1 (ints .u8 xs)]) := by
 obtain ⟨bpp, opp, cpp, rfl, hbpp⟩ := hpp
 have hblpp := getElem?_lt hbpp
 have hb0pp := fun l => aq (l := l) hbpp
 obtain ⟨bs, os, cs, rfl, hbs⟩ := hs
 have hbls := getElem?_lt hbs
 have hb0s := fun l => aq (l := l) hbs
 obtain ⟨oz, hbz⟩ := hz
 have hblz := getElem?_lt hbz
 have hb0z := fun l => aq (l := l) hbz
 refine AcT true Tryz.func38 ?_; intro hbel Q hQ
 have g'3 := (jn @hbpp (jn @hb0pp (jn @hbs (jn @hb0s (jn @hbz (jn @hb0z @Option.isNone_some.{0}))))))
 refine aa g'3 ?_
 refine af (by kernel_rfl) (md _ W Hh _ xs ⟨_, _, _, rfl, by first | exact hb0pp _ | exact hbpp⟩ hx6 hx0) ?_
 refine aa g'3 ?_
 refine hQ _ _ (aY (.inl rfl) hbel (x1 := .agg [.int .i64 W, .int .i64 Hh, .sl (some (H.length + 1, 0)) xs.length none]) (l2 := [.cells true 1 (ints .u8 xs)]) (.agg [.int .i64 W, .int .i64 Hh, .sl (some (H.length, 0)) xs.length none]) (ai Tryz.results38) [] rfl [1] (by decide) ⟨rfl, rfl⟩ ?_)
 exact aW
theorem rgnew_y (H : ac) (W : Int) (Hh : Int) (pp : AV) (xs : List Int) (s : AV) (l : List T6) (tu : Int) (le : Int) (sl : Int) (ra : Int) (hpp : Sl H 1 pp xs.length (ints .u8 xs)) (hs : Sl H 6 s l.length (r6 l)) (hV : cl W Hh xs = true) (hL : lsB l = true) (hB : cu tu le sl ra = true) : ACalls Tryz.prog 9 [.agg [.int .i64 W, .int .i64 Hh, pp], s, .agg [.int .i64 tu, .int .i64 le, .int .i64 sl, .int .i64 ra]] H (fun v H' => v = .tup [.ptr (some (H.length + 2, 0)), .int .i64 0] ∧ H' = H ++ [.cells true 1 (ints .u8 xs), .cells true 6 (r6 l), .cells true 0 [.int .i64 W, .int .i64 Hh, .sl (some (H.length, 0)) xs.length none, .sl (some (H.length + 1, 0)) l.length none, .int .i64 tu, .int .i64 le, .int .i64 sl, .int .i64 ra, .bool false]]) := by
 obtain ⟨bpp, opp, cpp, rfl, hbpp⟩ := hpp
 have hblpp := getElem?_lt hbpp
 have hb0pp := fun l => aq (l := l) hbpp
 obtain ⟨bs, os, cs, rfl, hbs⟩ := hs
 have hbls := getElem?_lt hbs
 have hb0s := fun l => aq (l := l) hbs
 have hVV := cJ.1 hV
 have hx6 : xs.length ≤ 1000000 := by have h4 := hVV.len; have := Int.mul_le_mul hVV.w1 hVV.h1 (by have := hVV.h0; omega) (by decide); omega
 have hx0 : 0 < xs.length := by have := (hVV.idx (show inB W Hh 0 0 = true from dV.2 (by have := hVV.w0; have := hVV.h0; omega))).2.2.2.2.1; omega
 have hLL := dI.1 hL
 have hS16 := (bY.1 hLL.2).1
 have hl0 := hLL.1
 have hz1 : (l.length == 0) = false := beq_eq_false_iff_ne.2 (by omega)
 have hz2 : decide (0 < l.length) = true := decide_eq_true (by omega)
 (refine bF Tryz.func9 _ rfl (Nat.le_of_ble_eq_true (by kernel_rfl)) rfl ?_; intro hbel Q hQ hQ' c hc; unfold Tryz.f9 at hc; simp only [Option.some.injEq] at hc; subst hc; clear hQ')
 refine aN fun Q1 hn1 hr1 he1 => ?_
 have hQ1 := fun F H' h => hr1 F H' (hQ F H' h)
 refine aI false try_mixed (by kernel_rfl) ?_
 have g'4 := (jn @hbpp (jn @hb0pp (jn @hbs (jn @hb0s (jn @hV (jn @hL (jn @hB (jn @hz1 @hz2))))))))
 refine aa g'4 ?_
 refine hn1 _ _ ?_
 refine aN fun Q2 hn2 hr2 he2 => ?_
 have hQ2 := fun F H' h => hr2 F H' (hQ F H' h)
 refine aI false try_mixed (by kernel_rfl) ?_
 refine aa g'4 ?_
 refine af (by kernel_rfl) (rplan_a _ W Hh _ xs (.inr ⟨_, _, _, rfl, by first | exact hb0pp _ | exact hbpp⟩)) ?_
 refine aa g'4 ?_
 refine af (by kernel_rfl) (gQ _ _ l ⟨_, _, _, rfl, by first | exact hb0s _ | exact hbs⟩ (by omega)) ?_
 refine aa g'4 ?_
 refine af (by kernel_rfl) (bbnd_c _ tu le sl ra) ?_
 refine aa g'4 ?_
 refine hn2 _ _ ?_
 refine cd false try_mixed [[0, 1, 2, 3, 4, 5, 6, 7, 8, 9], [0, 2, 1, 3, 4, 5, 6, 7, 8, 9]] (by kernel_rfl) (fun F2 H2 => F2 = [(6, .ptr (some (H.length + 2, 0))), (7, .int .i64 0)] ∧ H2 = H ++ [.cells true 1 (ints .u8 xs), .cells true 6 (r6 l), .cells true 0 [.int .i64 W, .int .i64 Hh, .sl (some (H.length, 0)) xs.length none, .sl (some (H.length + 1, 0)) l.length none, .int .i64 tu, .int .i64 le, .int .i64 sl, .int .i64 ra, .bool false]]) ?_ ?_
 ·refine aC ?_ (aC ?_ (ce)) <;> intro J hJ
  ·skip
   refine aw g'4 ?_
   refine bV (by kernel_rfl) (by simp) (md _ W Hh _ xs ⟨_, _, _, rfl, by first | exact hb0pp _ | exact hbpp⟩ hx6 hx0) ?_
   have g'5 := (jn @bM (jn @dw (jn @je g'4)))
   refine aw g'5 ?_
   refine aS (hJ _ _ ⟨_, _, _, ⟨rfl, rfl⟩, Abs.byG hbel [] rfl [2, 4, 5] (by decide) ?_⟩)
   exact aD (jn @bx (jn @bk (jn @bW @bA)))
  ·skip
   refine aw g'4 ?_
   refine bV (by kernel_rfl) (by simp) (md _ W Hh _ xs ⟨_, _, _, rfl, by first | exact hb0pp _ | exact hbpp⟩ hx6 hx0) ?_
   have g'6 := (jn @bM (jn @dw (jn @je g'4)))
   refine aw g'6 ?_
   refine aS (hJ _ _ ⟨_, _, _, ⟨rfl, rfl⟩, Abs.byG hbel [] rfl [3, 4, 5] (by decide) ?_⟩)
   exact aD (jn @bx (jn @bk (jn @bW @bA)))
 rintro F2 H2 ⟨rfl, rfl⟩
 refine aI false try_mixed (by kernel_rfl) ?_
 have g'7 := (jn @ck (jn @cZ (jn @bM (jn @dw g'4))))
 refine aa g'7 ?_
 refine hQ _ _ (aY (.inl rfl) hbel (x1 := .tup [.ptr (some (H.length + 2, 0)), .int .i64 0]) (l2 := [.cells true 1 (ints .u8 xs), .cells true 6 (r6 l), .cells true 0 [.int .i64 W, .int .i64 Hh, .sl (some (H.length, 0)) xs.length none, .sl (some (H.length + 1, 0)) l.length none, .int .i64 tu, .int .i64 le, .int .i64 sl, .int .i64 ra, .bool false]]) (.tup [.ptr (some (H.length + 2, 0)), .int .i64 0]) (ai Tryz.results9) [] rfl [0, 1, 2] (by decide) ⟨rfl, rfl⟩ ?_)
 exact aV @bA
theorem rgnew_n (H : ac) (W : Int) (Hh : Int) (pp : AV) (xs : List Int) (s : AV) (l : List T6) (tu : Int) (le : Int) (sl : Int) (ra : Int) (hpp : Sl H 1 pp xs.length (ints .u8 xs)) (hs : Sl H 6 s l.length (r6 l)) (hl : l.length ≤ 1000000000) (hn : (cl W Hh xs && lsB l && cu tu le sl ra) = false) : ACalls Tryz.prog 9 [.agg [.int .i64 W, .int .i64 Hh, pp], s, .agg [.int .i64 tu, .int .i64 le, .int .i64 sl, .int .i64 ra]] H (fun v H' => v = .tup [.ptr none, .int .i64 1] ∧ H' = H) := by
 obtain ⟨bpp, opp, cpp, rfl, hbpp⟩ := hpp
 have hblpp := getElem?_lt hbpp
 have hb0pp := fun l => aq (l := l) hbpp
 obtain ⟨bs, os, cs, rfl, hbs⟩ := hs
 have hbls := getElem?_lt hbs
 have hb0s := fun l => aq (l := l) hbs
 (refine bF Tryz.func9 _ rfl (Nat.le_of_ble_eq_true (by kernel_rfl)) rfl ?_; intro hbel Q hQ hQ' c hc; unfold Tryz.f9 at hc; simp only [Option.some.injEq] at hc; subst hc; clear hQ')
 refine aN fun Q3 hn3 hr3 he3 => ?_
 have hQ3 := fun F H' h => hr3 F H' (hQ F H' h)
 refine aI true try_mixed (by kernel_rfl) ?_
 have g'8 := (jn @hbpp (jn @hb0pp (jn @hbs @hb0s)))
 refine aa g'8 ?_
 refine hn3 _ _ ?_
 refine aN fun Q4 hn4 hr4 he4 => ?_
 have hQ4 := fun F H' h => hr4 F H' (hQ F H' h)
 refine aI true try_mixed (by kernel_rfl) ?_
 refine aa g'8 ?_
 refine af (by kernel_rfl) (rplan_a _ W Hh _ xs (.inr ⟨_, _, _, rfl, by first | exact hb0pp _ | exact hbpp⟩)) ?_
 refine aa g'8 ?_
 refine al (fun h1 => ?_) (fun h1 => ?_)
 ·have h1d := bsT h1
  have hV := h1d
  have g'9 := (jn @h1 (jn @h1d g'8))
  refine aa g'9 ?_
  refine af (by kernel_rfl) (gQ _ _ l ⟨_, _, _, rfl, by first | exact hb0s _ | exact hbs⟩ (by omega)) ?_
  refine aa g'9 ?_
  refine al (fun h2 => ?_) (fun h2 => ?_)
  ·have h2d := bsT h2
   have hL := h2d
   have g'10 := (jn @h2 (jn @h2d g'9))
   refine aa g'10 ?_
   refine af (by kernel_rfl) (bbnd_c _ tu le sl ra) ?_
   refine aa g'10 ?_
   refine ak (fun h3 => ?_) (fun h3 => ?_)
   ·have h3d := bsT h3
    have g'11 := (jn @h3 (jn @h3d g'10))
    refine aa g'11 ?_
    exact hQ4 _ _ (ae (.inl rfl) hbel (x := .tup [.ptr none, .int .i64 1]) (ai Tryz.results9) rfl ⟨rfl, rfl⟩)
   ·have h3d := bsT h3
    rw [hV, hL, h3d] at hn
    exact absurd hn (by decide)
  ·have h2d := bsT h2
   have g'12 := (jn @h2 (jn @h2d g'9))
   refine aa g'12 ?_
   exact hQ4 _ _ (ae (.inl rfl) hbel (x := .tup [.ptr none, .int .i64 1]) (ai Tryz.results9) rfl ⟨rfl, rfl⟩)
 ·have h1d := bsT h1
  have g'13 := (jn @h1 (jn @h1d g'8))
  refine aa g'13 ?_
  exact hQ4 _ _ (ae (.inl rfl) hbel (x := .tup [.ptr none, .int .i64 1]) (ai Tryz.results9) rfl ⟨rfl, rfl⟩)
theorem rgrs_n (H : ac) (W : Int) (Hh : Int) (pp : AV) (xs : List Int) (s : AV) (l : List T6) (tu : Int) (le : Int) (sl : Int) (ra : Int) (lost : Bool) (bz : Nat) (q : AV) (m : List T6) (hpp : Sl H 1 pp xs.length (ints .u8 xs)) (hs : Sl H 6 s l.length (r6 l)) (hz : ∃ o, H[bz]? = some (.cells o 0 [.int .i64 W, .int .i64 Hh, pp, s, .int .i64 tu, .int .i64 le, .int .i64 sl, .int .i64 ra, .bool lost])) (hq : Sl H 6 q m.length (r6 m)) (hm9 : m.length ≤ 1000000000) (hm : lsB m = false) : ACalls Tryz.prog 17 [.ptr (some (bz, 0)), q] H (fun v H' => v = .int .i64 1 ∧ H' = H) := by
 obtain ⟨bpp, opp, cpp, rfl, hbpp⟩ := hpp
 have hblpp := getElem?_lt hbpp
 have hb0pp := fun l => aq (l := l) hbpp
 obtain ⟨bs, os, cs, rfl, hbs⟩ := hs
 have hbls := getElem?_lt hbs
 have hb0s := fun l => aq (l := l) hbs
 obtain ⟨bq, oq, cq, rfl, hbq⟩ := hq
 have hblq := getElem?_lt hbq
 have hb0q := fun l => aq (l := l) hbq
 obtain ⟨oz, hbz⟩ := hz
 have hblz := getElem?_lt hbz
 have hb0z := fun l => aq (l := l) hbz
 refine AcT true Tryz.func17 ?_; intro hbel Q hQ
 have g'14 := (jn @hbpp (jn @hb0pp (jn @hbs (jn @hb0s (jn @hbq (jn @hb0q (jn @hbz (jn @hb0z (jn @hm @Option.isNone_some.{0})))))))))
 refine aa g'14 ?_
 refine af (by kernel_rfl) (gQ _ _ m ⟨_, _, _, rfl, by first | exact hb0q _ | exact hbq⟩ (by omega)) ?_
 refine aa g'14 ?_
 exact hQ _ _ (au (.inl rfl) hbel (x := .int .i64 1) (ai Tryz.results17) rfl ⟨rfl, rfl⟩)
theorem rgrs_y (H : ac) (W : Int) (Hh : Int) (pp : AV) (xs : List Int) (s : AV) (l : List T6) (tu : Int) (le : Int) (sl : Int) (ra : Int) (lost : Bool) (bz : Nat) (q : AV) (m : List T6) (hpp : Sl H 1 pp xs.length (ints .u8 xs)) (hs : Sl H 6 s l.length (r6 l)) (hz : H[bz]? = some (.cells true 0 [.int .i64 W, .int .i64 Hh, pp, s, .int .i64 tu, .int .i64 le, .int .i64 sl, .int .i64 ra, .bool lost])) (hq : Sl H 6 q m.length (r6 m)) (hm : lsB m = true) : ACalls Tryz.prog 17 [.ptr (some (bz, 0)), q] H (fun v H' => v = .int .i64 0 ∧ H' = H.set bz (.cells true 0 [.int .i64 W, .int .i64 Hh, pp, .sl (some (H.length, 0)) m.length none, .int .i64 tu, .int .i64 le, .int .i64 sl, .int .i64 ra, .bool false]) ++ [.cells true 6 (r6 m)]) := by
 obtain ⟨bpp, opp, cpp, rfl, hbpp⟩ := hpp
 have hblpp := getElem?_lt hbpp
 have hb0pp := fun l => aq (l := l) hbpp
 obtain ⟨bs, os, cs, rfl, hbs⟩ := hs
 have hbls := getElem?_lt hbs
 have hb0s := fun l => aq (l := l) hbs
 obtain ⟨bq, oq, cq, rfl, hbq⟩ := hq
 have hblq := getElem?_lt hbq
 have hb0q := fun l => aq (l := l) hbq
 have hbz := hz
 have hblz := getElem?_lt hbz
 have hb0z := fun l => aq (l := l) hbz
 have hmm := dI.1 hm
 have hm16 := (bY.1 hmm.2).1
 have hm0 := hmm.1
 have hz1 : (m.length == 0) = false := beq_eq_false_iff_ne.2 (by omega)
 have hz2 : decide (0 < m.length) = true := decide_eq_true (by omega)
 refine AcT false Tryz.func17 ?_; intro hbel Q hQ
 have g'15 := (jn @hbpp (jn @hb0pp (jn @hbs (jn @hb0s (jn @hbq (jn @hb0q (jn @hbz (jn @hb0z (jn @hm (jn @hz1 (jn @hz2 @Option.isNone_some.{0})))))))))))
 refine aa g'15 ?_
 refine af (by kernel_rfl) (gQ _ _ m ⟨_, _, _, rfl, by first | exact hb0q _ | exact hbq⟩ (by omega)) ?_
 have g'16 := (jn @bM (jn @dw (jn @je (jn @hblz (jn @ep (jn @eU (jn @fx (jn @eN (jn @fG (jn @gF (jn @fH (jn @gG (jn @List.length_set.{0} (jn @List.set_set.{0} g'15))))))))))))))
 refine aa g'16 ?_
 refine hQ _ _ (ia (b1 := .cells true 0 [.int .i64 W, .int .i64 Hh, .sl (some (bpp, 0)) xs.length cpp, .sl (some (H.length + 1, 0)) m.length none, .int .i64 tu, .int .i64 le, .int .i64 sl, .int .i64 ra, .bool false]) (.cells true 0 [.int .i64 W, .int .i64 Hh, .sl (some (bpp, 0)) xs.length cpp, .sl (some (H.length, 0)) m.length none, .int .i64 tu, .int .i64 le, .int .i64 sl, .int .i64 ra, .bool false]) (l1 := [.cells true 6 [], .cells true 6 (r6 m)]) (l2 := [.cells true 6 (r6 m)]) (.inl rfl) hbel hblz (by first | rfl | simp) (x1 := .int .i64 0) (.int .i64 0) (ai Tryz.results17) [] rfl [1] (by decide) ⟨rfl, rfl⟩ ?_)
 exact aV (jn @bA (jn @hblpp (jn @hbls (jn @hblz @hblq))))
open Go.RowKit
section
variable {W Hh : Int} {xs : List Int} {x y h m g z : Int} {c : Int × Int}
end
set_option linter.unusedSimpArgs false
set_option linter.unusedVariables false
open Go.RowKit
open Go.RowKit
theorem rem_n3 (a : Nat) : Int.tmod (a : Int) 3 = ((a % 3 : Nat) : Int) := rfl
def ow (i : Nat) : Bool := match i with
 | 0 => false
 | _ + 1 => true
open Go.RowKit
open Go.RowKit
open Go.RowKit
open Go.RowKit
open Go.RowKit
open Go.RowKit
open Go.RowKit
abbrev C4 := Int × Int × Int × T6
def chN (l : List T6) (i j : Nat) : Int := c6 (dY (g6 l i) (g6 l j)) - c6 (g6 l i) - c6 (g6 l j)
def chU (l : List T6) (i k : Nat) (s : C4) : C4 := if s.1 < 0 ∨ chN l i (i + 1 + k) < s.2.2.1 then ((i : Int), (i : Int) + 1 + (k : Int), chN l i (i + 1 + k), dY (g6 l i) (g6 l (i + 1 + k))) else s
def chR (l : List T6) (i : Nat) (s : C4) : Nat → C4
 | 0 => s
 | k + 1 => chU l i k (chR l i s k)
def chO (l : List T6) : Nat → C4
 | 0 => (-1, -1, 0, (0, 0, 0, 0, 0, 0))
 | n + 1 => chR l n (chO l n) (l.length - (n + 1))
def chP (l : List T6) (s : C4) : Prop := ∃ i j : Nat, i < j ∧ j < l.length ∧ s.1 = (i : Int) ∧ s.2.1 = (j : Int) ∧ s.2.2.2 = dY (g6 l i) (g6 l j)
theorem ib (b : T6) : 0 ≤ c6 b ∧ c6 b ≤ 1125906929254400 := by
 unfold c6
 split
 ·rename_i h
  have hb := bO.1 h
  have ha := bm.1 hb.2.2
  have m1 := bE (a := b.2.2.1 - b.1 + 1) (b := b.2.2.2.1 - b.2.1 + 1) (A := 2097153) (B := 2097153) (by omega) (by omega)
  have p1 : 0 ≤ (b.2.2.1 - b.1 + 1) * (b.2.2.2.1 - b.2.1 + 1) := Int.mul_nonneg (by omega) (by omega)
  have m2 := bE (a := (b.2.2.1 - b.1 + 1) * (b.2.2.2.1 - b.2.1 + 1)) (b := b.2.2.2.2.2) (A := 4398050705409) (B := 256) (by omega) (by omega)
  have p2 : 0 ≤ (b.2.2.1 - b.1 + 1) * (b.2.2.2.1 - b.2.1 + 1) * b.2.2.2.2.2 := Int.mul_nonneg p1 (by omega)
  omega
 ·omega
theorem chN_bd (l : List T6) (i j : Nat) : -2251813858508800 ≤ chN l i j ∧ chN l i j ≤ 1125906929254400 := by
 have h1 := ib (dY (g6 l i) (g6 l j))
 have h2 := ib (g6 l i)
 have h3 := ib (g6 l j)
 unfold chN; omega
theorem chU_c (l : List T6) (i k : Nat) (s : C4) : (chU l i k s = ((i : Int), (i : Int) + 1 + (k : Int), chN l i (i + 1 + k), dY (g6 l i) (g6 l (i + 1 + k))) ∧ (s.1 < 0 ∨ chN l i (i + 1 + k) < s.2.2.1)) ∨ (chU l i k s = s ∧ ¬ s.1 < 0 ∧ ¬ chN l i (i + 1 + k) < s.2.2.1) := by
 unfold chU
 split
 ·rename_i h; exact .inl ⟨rfl, h⟩
 ·rename_i h; exact .inr ⟨rfl, fun q => h (.inl q), fun q => h (.inr q)⟩
def chI (l : List T6) (s : C4) : Prop := (s.1 = -1 ∧ s.2.1 = -1 ∧ s.2.2.1 = 0) ∨ (chP l s ∧ -2251813858508800 ≤ s.2.2.1 ∧ s.2.2.1 ≤ 1125906929254400)
theorem chU_i {l : List T6} {i k : Nat} {s : C4} (h : chI l s) (hk : i + 1 + k < l.length) : chI l (chU l i k s) ∧ ¬ (chU l i k s).1 < 0 := by
 have e : ((i : Int) + 1 + (k : Int)) = ((i + 1 + k : Nat) : Int) := by omega
 rcases chU_c l i k s with ⟨q, -⟩ | ⟨q, h1, h2⟩
 ·rw [q]
  exact ⟨.inr ⟨⟨i, i + 1 + k, by omega, hk, rfl, e, rfl⟩, chN_bd l i (i + 1 + k)⟩, by simp only; omega⟩
 ·rw [q]; exact ⟨h, h1⟩
theorem chR_i {l : List T6} {i : Nat} {s : C4} (h : chI l s) : ∀ k : Nat, k ≤ l.length - (i + 1) → chI l (chR l i s k) ∧ (0 < k → ¬ (chR l i s k).1 < 0) ∧ (¬ s.1 < 0 → ¬ (chR l i s k).1 < 0)
 | 0, _ => ⟨h, fun q => by omega, fun q => q⟩
 | k + 1, hk => by
  have ih := chR_i (i := i) h k (by omega)
  have u := chU_i (k := k) (i := i) ih.1 (by omega)
  exact ⟨u.1, fun _ => u.2, fun _ => u.2⟩
theorem chO_i (l : List T6) : ∀ n : Nat, n ≤ l.length → chI l (chO l n) ∧ (0 < n → 2 ≤ l.length → ¬ (chO l n).1 < 0)
 | 0, _ => ⟨.inl ⟨rfl, rfl, rfl⟩, fun q => by omega⟩
 | n + 1, hn => by
  have ih := chO_i l n (by omega)
  have r := chR_i (i := n) ih.1 (l.length - (n + 1)) (Nat.le_refl _)
  refine ⟨r.1, fun _ h2 => ?_⟩
  rcases Nat.eq_zero_or_pos n with h0 | h0
  ·exact r.2.1 (by omega)
  ·exact r.2.2 (ih.2 h0 h2)
theorem chO_p {l : List T6} (h : 2 ≤ l.length) : chP l (chO l l.length) := by
 have k := chO_i l l.length (Nat.le_refl _)
 have k2 := k.2 (by omega) h
 rcases k.1 with ⟨q, -⟩ | ⟨q, -⟩
 ·omega
 ·exact q
theorem chO_bd {l : List T6} {n : Nat} (h : n ≤ l.length) : (-1 ≤ (chO l n).1 ∧ (chO l n).1 ≤ (l.length : Int)) ∧ -2251813858508800 ≤ (chO l n).2.2.1 ∧ (chO l n).2.2.1 ≤ 1125906929254400 := by
 rcases (chO_i l n h).1 with ⟨a, b, c⟩ | ⟨⟨i, j, h1, h2, a, b, c⟩, d⟩ <;> omega
theorem chR_bd {l : List T6} {n k : Nat} (h : n ≤ l.length) (hk : k ≤ l.length - (n + 1)) : (-1 ≤ (chR l n (chO l n) k).1 ∧ (chR l n (chO l n) k).1 ≤ (l.length : Int)) ∧ -2251813858508800 ≤ (chR l n (chO l n) k).2.2.1 ∧ (chR l n (chO l n) k).2.2.1 ≤ 1125906929254400 := by
 rcases (chR_i (i := n) (chO_i l n h).1 k hk).1 with ⟨a, b, c⟩ | ⟨⟨i, j, h1, h2, a, b, c⟩, d⟩ <;> omega
def cpA (l : List T6) : List T6 := l.set (chO l l.length).1.toNat (chO l l.length).2.2.2
def cpS (l : List T6) : List T6 := (cpA l).take (chO l l.length).2.1.toNat ++ (cpA l).drop ((chO l l.length).2.1.toNat + 1)
def cpI : Nat → List T6 → List T6
 | 0, l => l
 | n + 1, l => cpI n (cpS l)
def cpL (l : List T6) : List T6 := cpI (l.length - 16) l
theorem cpA_len (l : List T6) : (cpA l).length = l.length := List.length_set
theorem cpS_len {l : List T6} (h : 2 ≤ l.length) : (cpS l).length = l.length - 1 := by
 obtain ⟨i, j, h1, h2, a, b, c⟩ := chO_p h
 unfold cpS
 rw [List.length_append, List.length_take, List.length_drop, cpA_len, b]
 omega
theorem cpS_mem {l : List T6} (h : 2 ≤ l.length) : ∃ i j : Nat, i < j ∧ j < l.length ∧ dY (g6 l i) (g6 l j) ∈ cpS l ∧ (∀ b ∈ cpS l, b ∈ l ∨ b = dY (g6 l i) (g6 l j)) ∧ ∀ n : Nat, n < l.length → n ≠ i → n ≠ j → g6 l n ∈ cpS l := by
 obtain ⟨i, j, h1, h2, a, b, c⟩ := chO_p h
 have eA : cpA l = l.set i (dY (g6 l i) (g6 l j)) := by unfold cpA; rw [a, c]; rfl
 have eS : cpS l = (l.set i (dY (g6 l i) (g6 l j))).take j ++ (l.set i (dY (g6 l i) (g6 l j))).drop (j + 1) := by unfold cpS; rw [eA, b]; rfl
 have hin : ∀ n : Nat, (hn : n < (l.set i (dY (g6 l i) (g6 l j))).length) → n ≠ j → (l.set i (dY (g6 l i) (g6 l j)))[n] ∈ cpS l := fun n hn hne => by
  rw [eS]
  rcases Nat.lt_or_ge n j with q | q
  ·refine List.mem_append_left _ (List.mem_iff_getElem.2 ⟨n, by rw [List.length_take]; omega, ?_⟩)
   rw [List.getElem_take]
  ·refine List.mem_append_right _ (List.mem_iff_getElem.2 ⟨n - (j + 1), by rw [List.length_drop]; omega, ?_⟩)
   rw [List.getElem_drop]
   congr 1; omega
 refine ⟨i, j, h1, h2, ?_, fun b hb => ?_, fun n hn hi hj => ?_⟩
 ·have := hin i (by rw [List.length_set]; omega) (by omega)
  rwa [List.getElem_set_self] at this
 ·rw [eS] at hb
  have hb' : b ∈ l.set i (dY (g6 l i) (g6 l j)) := by
   rcases List.mem_append.1 hb with q | q
   ·exact List.mem_of_mem_take q
   ·exact List.mem_of_mem_drop q
  exact (List.mem_or_eq_of_mem_set hb').imp id id
 ·have := hin n (by rw [List.length_set]; exact hn) hj
  rw [List.getElem_set_ne (fun q => hi q.symm)] at this
  rw [show g6 l n = l[n] from g6_eq hn]; exact this
theorem cpS_ok {l : List T6} (h : 2 ≤ l.length) (hv : ∀ b ∈ l, bJ b = true) : ∀ b ∈ cpS l, bJ b = true := fun b hb => by
 obtain ⟨i, j, h1, h2, -, k, -⟩ := cpS_mem h
 rcases k b hb with q | q
 ·exact hv b q
 ·rw [q]; exact hulB_ok (hv _ (cU (by omega))) (hv _ (cU h2))
theorem cpI_ok : ∀ (n : Nat) (l : List T6), n + 1 ≤ l.length → (∀ b ∈ l, bJ b = true) → (∀ b ∈ cpI n l, bJ b = true) ∧ (cpI n l).length = l.length - n
 | 0, l, _, hv => ⟨hv, rfl⟩
 | n + 1, l, h, hv => by
  have e := cpS_len (l := l) (by omega)
  have ih := cpI_ok n (cpS l) (by omega) (cpS_ok (by omega) hv)
  exact ⟨ih.1, by rw [cpI, ih.2, e]; omega⟩
theorem cpL_ok {l : List T6} (h0 : 0 < l.length) (hv : ∀ b ∈ l, bJ b = true) : bX (cpL l) = true ∧ 0 < (cpL l).length := by
 have k := cpI_ok (l.length - 16) l (by omega) hv
 refine ⟨bY.2 ⟨?_, k.1⟩, ?_⟩
 ·show (cpI (l.length - 16) l).length ≤ 16; rw [k.2]; omega
 ·show 0 < (cpI (l.length - 16) l).length; rw [k.2]; omega
open Go.RowKit
open Go.RowKit
open Go.RowKit
open Go.RowKit
set_option maxHeartbeats 4000000
set_option maxRecDepth 100000
theorem boxes_p (H : ac) (s : AV) (l : List T6) (t : Int) (g : Int) (tu : Int) (le : Int) (sl : Int) (ra : Int) (still : Bool) (hs : Sl H 6 s l.length (r6 l)) (hS : bX l = true) (hl0 : 0 < l.length) (hC : dt t g = true) (hB : cu tu le sl ra = true) (hA : imA l t (stF still g) tu le sl = true) : ACalls Tryz.prog 44 [s, .agg [.int .i64 t, .int .i64 g], .agg [.int .i64 tu, .int .i64 le, .int .i64 sl, .int .i64 ra], .bool still] H (fun v H' => v = .tup [.sl (some (H.length, 0)) ((imS l t (stF still g) tu le sl l.length).length) none, .int .i64 0] ∧ H' = H ++ [.cells true 6 (r6 (imS l t (stF still g) tu le sl l.length))]) := by
 have k := boxes_y H s l t g tu le sl ra still hs hS hC hB hA
 rw [iX (by rw [fo]; exact hl0), dH (by rw [fo]; exact hl0)] at k
 exact k
theorem lmv_y (H : ac) (W : Int) (Hh : Int) (pp : AV) (xs : List Int) (s : AV) (l : List T6) (tu : Int) (le : Int) (sl : Int) (ra : Int)  (bz : Nat) (t : Int) (g : Int) (still : Bool) (hpp : Sl H 1 pp xs.length (ints .u8 xs)) (hs : Sl H 6 s l.length (r6 l)) (hz : H[bz]? = some (.cells true 0 [.int .i64 W, .int .i64 Hh, pp, s, .int .i64 tu, .int .i64 le, .int .i64 sl, .int .i64 ra, .bool false])) (hS : bX l = true) (hl0 : 0 < l.length) (hC : dt t g = true) (hB : cu tu le sl ra = true) (hA : imA l t (stF still g) tu le sl = true) : ACalls Tryz.prog 19 [.ptr (some (bz, 0)), .agg [.int .i64 t, .int .i64 g], .bool still] H (fun v H' => v = .int .i64 0 ∧ H' = H.set bz (.cells true 0 [.int .i64 W, .int .i64 Hh, pp, .sl (some (H.length, 0)) ((imS l t (stF still g) tu le sl l.length).length) none, .int .i64 tu, .int .i64 le, .int .i64 sl, .int .i64 ra, .bool false]) ++ [.cells true 6 (r6 (imS l t (stF still g) tu le sl l.length))]) := by
 obtain ⟨bpp, opp, cpp, rfl, hbpp⟩ := hpp
 have hblpp := getElem?_lt hbpp
 have hb0pp := fun l => aq (l := l) hbpp
 obtain ⟨bs, os, cs, rfl, hbs⟩ := hs
 have hbls := getElem?_lt hbs
 have hb0s := fun l => aq (l := l) hbs
 have hbz := hz
 have hblz := getElem?_lt hbz
 have hb0z := fun l => aq (l := l) hbz
 refine AcT false Tryz.func19 ?_; intro hbel Q hQ
 have g'1 := (jn @hbpp (jn @hb0pp (jn @hbs (jn @hb0s (jn @hbz (jn @hb0z (jn @hC (jn @hB (jn @hA @Option.isNone_some.{0})))))))))
 refine aa g'1 ?_
 refine af (by kernel_rfl) (i9 _ t g) ?_
 refine aa g'1 ?_
 rcases Bool.eq_false_or_eq_true (imA l t (stF still g) tu le sl) with h1 | h1
 ·have h1d := h1
  refine bV (by kernel_rfl) (by simp) (boxes_p _ _ l t g tu le sl ra still ⟨_, _, _, rfl, by first | exact hb0s _ | exact hbs⟩ (by assumption) hl0 hC hB hA) ?_
  have g'2 := (jn @h1 (jn @h1d (jn @hblz (jn @ep (jn @eU (jn @fx (jn @eN (jn @fG (jn @gF (jn @fH (jn @gG (jn @List.length_set.{0} (jn @List.set_set.{0} g'1)))))))))))))
  refine aa g'2 ?_
  refine hQ _ _ (ia (b1 := .cells true 0 [.int .i64 W, .int .i64 Hh, .sl (some (bpp, 0)) xs.length cpp, .sl (some (H.length + 1, 0)) ((imS l t (stF still g) tu le sl l.length).length) none, .int .i64 tu, .int .i64 le, .int .i64 sl, .int .i64 ra, .bool false]) (.cells true 0 [.int .i64 W, .int .i64 Hh, .sl (some (bpp, 0)) xs.length cpp, .sl (some (H.length, 0)) ((imS l t (stF still g) tu le sl l.length).length) none, .int .i64 tu, .int .i64 le, .int .i64 sl, .int .i64 ra, .bool false]) (l1 := [.cells true 0 [.int .i64 t, .int .i64 g], .cells true 6 (r6 (imS l t (stF still g) tu le sl l.length))]) (l2 := [.cells true 6 (r6 (imS l t (stF still g) tu le sl l.length))]) (.inl rfl) hbel hblz (by first | rfl | simp) (x1 := .int .i64 0) (.int .i64 0) (ai Tryz.results19) [] rfl [1] (by decide) ⟨rfl, rfl⟩ ?_)
  exact aV (jn @bA (jn @hblpp (jn @hbls @hblz)))
 ·have h1d := h1
  exact absurd (hA.symm.trans h1d) (by decide)
theorem lmv_s (H : ac) (W : Int) (Hh : Int) (pp : AV) (xs : List Int) (s : AV) (l : List T6) (tu : Int) (le : Int) (sl : Int) (ra : Int)  (bz : Nat) (t : Int) (g : Int) (still : Bool) (hpp : Sl H 1 pp xs.length (ints .u8 xs)) (hs : Sl H 6 s l.length (r6 l)) (hz : ∃ o, H[bz]? = some (.cells o 0 [.int .i64 W, .int .i64 Hh, pp, s, .int .i64 tu, .int .i64 le, .int .i64 sl, .int .i64 ra, .bool true])) (hC : dt t g = true) : ACalls Tryz.prog 19 [.ptr (some (bz, 0)), .agg [.int .i64 t, .int .i64 g], .bool still] H (fun v H' => v = .int .i64 9 ∧ H' = H) := by
 obtain ⟨bpp, opp, cpp, rfl, hbpp⟩ := hpp
 have hblpp := getElem?_lt hbpp
 have hb0pp := fun l => aq (l := l) hbpp
 obtain ⟨bs, os, cs, rfl, hbs⟩ := hs
 have hbls := getElem?_lt hbs
 have hb0s := fun l => aq (l := l) hbs
 obtain ⟨oz, hbz⟩ := hz
 have hblz := getElem?_lt hbz
 have hb0z := fun l => aq (l := l) hbz
 refine AcT true Tryz.func19 ?_; intro hbel Q hQ
 have g'6 := (jn @hbpp (jn @hb0pp (jn @hbs (jn @hb0s (jn @hbz (jn @hb0z (jn @hC @Option.isNone_some.{0})))))))
 refine aa g'6 ?_
 refine af (by kernel_rfl) (i9 _ t g) ?_
 refine aa g'6 ?_
 exact hQ _ _ (ae (.inl rfl) hbel (x := .int .i64 9) (ai Tryz.results19) rfl ⟨rfl, rfl⟩)
theorem lrs_n (H : ac) (W : Int) (Hh : Int) (pp : AV) (xs : List Int) (s : AV) (l : List T6) (tu : Int) (le : Int) (sl : Int) (ra : Int) (lost : Bool) (bz : Nat) (q : AV) (m : List T6) (hpp : Sl H 1 pp xs.length (ints .u8 xs)) (hs : Sl H 6 s l.length (r6 l)) (hz : ∃ o, H[bz]? = some (.cells o 0 [.int .i64 W, .int .i64 Hh, pp, s, .int .i64 tu, .int .i64 le, .int .i64 sl, .int .i64 ra, .bool lost])) (hq : Sl H 6 q m.length (r6 m)) (hm9 : m.length ≤ 1000000000) (hm : lsB m = false) : ACalls Tryz.prog 16 [.ptr (some (bz, 0)), q] H (fun v H' => v = .int .i64 1 ∧ H' = H) := by
 obtain ⟨bpp, opp, cpp, rfl, hbpp⟩ := hpp
 have hblpp := getElem?_lt hbpp
 have hb0pp := fun l => aq (l := l) hbpp
 obtain ⟨bs, os, cs, rfl, hbs⟩ := hs
 have hbls := getElem?_lt hbs
 have hb0s := fun l => aq (l := l) hbs
 obtain ⟨bq, oq, cq, rfl, hbq⟩ := hq
 have hblq := getElem?_lt hbq
 have hb0q := fun l => aq (l := l) hbq
 obtain ⟨oz, hbz⟩ := hz
 have hblz := getElem?_lt hbz
 have hb0z := fun l => aq (l := l) hbz
 refine AcT true Tryz.func16 ?_; intro hbel Q hQ
 have g'7 := (jn @hbpp (jn @hb0pp (jn @hbs (jn @hb0s (jn @hbq (jn @hb0q (jn @hbz (jn @hb0z (jn @hm @Option.isNone_some.{0})))))))))
 refine aa g'7 ?_
 refine af (by kernel_rfl) (jI _ _ m ⟨_, _, _, rfl, by first | exact hb0q _ | exact hbq⟩ (by omega)) ?_
 refine aa g'7 ?_
 exact hQ _ _ (au (.inl rfl) hbel (x := .int .i64 1) (ai Tryz.results16) rfl ⟨rfl, rfl⟩)
theorem lrs_y (H : ac) (W : Int) (Hh : Int) (pp : AV) (xs : List Int) (s : AV) (l : List T6) (tu : Int) (le : Int) (sl : Int) (ra : Int) (lost : Bool) (bz : Nat) (q : AV) (m : List T6) (hpp : Sl H 1 pp xs.length (ints .u8 xs)) (hs : Sl H 6 s l.length (r6 l)) (hz : H[bz]? = some (.cells true 0 [.int .i64 W, .int .i64 Hh, pp, s, .int .i64 tu, .int .i64 le, .int .i64 sl, .int .i64 ra, .bool lost])) (hq : Sl H 6 q m.length (r6 m)) (hm : lsB m = true) : ACalls Tryz.prog 16 [.ptr (some (bz, 0)), q] H (fun v H' => v = .int .i64 0 ∧ H' = H.set bz (.cells true 0 [.int .i64 W, .int .i64 Hh, pp, .sl (some (H.length, 0)) m.length none, .int .i64 tu, .int .i64 le, .int .i64 sl, .int .i64 ra, .bool false]) ++ [.cells true 6 (r6 m)]) := by
 obtain ⟨bpp, opp, cpp, rfl, hbpp⟩ := hpp
 have hblpp := getElem?_lt hbpp
 have hb0pp := fun l => aq (l := l) hbpp
 obtain ⟨bs, os, cs, rfl, hbs⟩ := hs
 have hbls := getElem?_lt hbs
 have hb0s := fun l => aq (l := l) hbs
 obtain ⟨bq, oq, cq, rfl, hbq⟩ := hq
 have hblq := getElem?_lt hbq
 have hb0q := fun l => aq (l := l) hbq
 have hbz := hz
 have hblz := getElem?_lt hbz
 have hb0z := fun l => aq (l := l) hbz
 have hmm := dI.1 hm
 have hm16 := (bY.1 hmm.2).1
 have hm0 := hmm.1
 refine AcT false Tryz.func16 ?_; intro hbel Q hQ
 have g'8 := (jn @hbpp (jn @hb0pp (jn @hbs (jn @hb0s (jn @hbq (jn @hb0q (jn @hbz (jn @hb0z (jn @hm @Option.isNone_some.{0})))))))))
 refine aa g'8 ?_
 refine af (by kernel_rfl) (jI _ _ m ⟨_, _, _, rfl, by first | exact hb0q _ | exact hbq⟩ (by omega)) ?_
 refine aa g'8 ?_
 refine af (by kernel_rfl) (iw _ _ m ⟨_, _, _, rfl, by first | exact hb0q _ | exact hbq⟩ (by first | omega | (simp only [List.length_cons, List.length_nil]; omega)) (by first | omega | simp)) ?_
 have g'9 := (jn @hblz (jn @ep (jn @eU (jn @fx (jn @eN (jn @fG (jn @gF (jn @fH (jn @gG (jn @List.length_set.{0} (jn @List.set_set.{0} g'8)))))))))))
 refine aa g'9 ?_
 refine hQ _ _ (ia (b1 := .cells true 0 [.int .i64 W, .int .i64 Hh, .sl (some (bpp, 0)) xs.length cpp, .sl (some (H.length, 0)) m.length none, .int .i64 tu, .int .i64 le, .int .i64 sl, .int .i64 ra, .bool false]) (.cells true 0 [.int .i64 W, .int .i64 Hh, .sl (some (bpp, 0)) xs.length cpp, .sl (some (H.length, 0)) m.length none, .int .i64 tu, .int .i64 le, .int .i64 sl, .int .i64 ra, .bool false]) (l1 := [.cells true 6 (r6 m)]) (l2 := [.cells true 6 (r6 m)]) (.inl rfl) hbel hblz (by first | rfl | simp) (x1 := .int .i64 0) (.int .i64 0) (ai Tryz.results16) [] rfl [0] (by decide) ⟨rfl, rfl⟩ ?_)
 exact aV (jn @bA (jn @hblpp (jn @hbls (jn @hblz @hblq))))
open Go.RowKit

theorem Ints.drew {w : World} {k : IntKind} {A : Option Addr} {xs : List Int} (h : Ints w k A xs) : Ints w.drew k A xs := h

open Go.RowKit
theorem bxInfo : (Tryz.prog.info? 56).map (fun i => (i.zero, i.size, i.bytes)) = some (some (.agg #[.int .i64 0, .int .i64 0, .int .i64 0, .int .i64 0, .int .i64 0, .int .i64 0]), 6, 48) := by kernel_rfl
theorem pI (z : Array Value) : (Builtin.zeroCells z 1).toList = z.toList := by
 simp only [Builtin.zeroCells, Nat.one_mul]
 apply List.ext_getElem
 ·simp
 ·intro i h1 h2
  simp only [Array.toList_map, Array.toList_range, List.getElem_map, List.getElem_range, Array.getElem_toList]
  have h3 : i < z.size := by simpa using h2
  rw [Nat.mod_eq_of_lt h3, getElem!_pos z i h3]
theorem run_clear1 {P : Program} (w : World) (t e ty : TypeId) (z : Value) (ht : P.underlying t = some (.slice e)) (hv : (zeroValue e).run P w = .ok z w) (h1 : ∀ v ∈ z.cells.toList, v.oneCell' = true) (b o c : Nat)
  (hc : ∀ j, j < z.cells.toList.length → (w.cell? ⟨b, o + j, none⟩).isSome = true) (hf : ∀ j, j < z.cells.toList.length → w.frozen? ⟨b, o + j, none⟩ = false) :
  (Builtin.clear_ #[t] ty #[.slice (some ⟨b, o, none⟩) 1 c]).run P w = .ok (.tuple #[]) (w.setCells b o z.cells.toList) := by
 have hst := run_storeCells_cells (P := P) b o z.cells.toList 0 w hc hf h1
 simp only [Nat.add_zero] at hst
 simp [Builtin.clear_, run_underlying ht, hv, pI, hst]
set_option maxHeartbeats 4000000 in
set_option maxRecDepth 1000000 in
theorem del_w (g off cap n i j : Nat) (w : World) (news : List Value) (hl : news.length = (n - j) * 6) (hnews : ∀ t u, news[t]? = some u → w.cell? ⟨g, off + j * 6 + t, none⟩ = some u) (h1 : ∀ u ∈ news, u.oneCell' = true) (hc : ∀ t, t < n * 6 → (w.cell? ⟨g, off + t, none⟩).isSome = true ∧ w.frozen? ⟨g, off + t, none⟩ = false) (hi : i < n) (hj1 : j = i + 1) (hn : n ≤ cap) (hm : cap ≤ 9223372036854775807)
  (W1 : World) (hW1 : W1 = w.drew.setCells g (off + i * 6) news) (hc1 : ∀ t, t < n * 6 → (W1.cell? ⟨g, off + t, none⟩).isSome = true ∧ W1.frozen? ⟨g, off + t, none⟩ = false) :
  Calls Tryz.prog 79 #[.slice (some ⟨g, off, none⟩) n cap, .int .i64 (i : Int), .int .i64 (j : Int)] w fun e w' => e = .returned (.slice (some ⟨g, off, none⟩) (i + (n - j)) cap) ∧ w' = W1.setCells g (off + (i + (n - j)) * 6) (List.replicate 6 (.int .i64 0)) := by
 obtain ⟨i0, hi0, hz0, hz1, hz2⟩ := info_parts bxInfo
 obtain ⟨A, hA, hsrc⟩ : ∃ A : Addr, (if cap = j then (some (⟨g, off, none⟩ : Addr)) else some ⟨g, off + j * 6, none⟩) = some A ∧ Hid (∀ t u, news[t]? = some u → w.drew.cell? (A.add t) = some u) := by
  by_cases h : cap = j
  ·refine ⟨⟨g, off, none⟩, by simp [h], fun t u hu => ?_⟩
   have h0 : news.length = 0 := by rw [hl]; omega
   rw [List.length_eq_zero_iff.1 h0] at hu
   simp at hu
  ·refine ⟨⟨g, off + j * 6, none⟩, by simp [h], fun t u hu => ?_⟩
   rw [Addr.add_lit]
   exact hnews t u hu
 have s1 : Hid (news.length = (n - j) * 6) := hl
 have s2 : Hid (∀ u ∈ news, u.oneCell' = true) := h1
 have s3 : Hid (∀ t, t < news.length → (w.drew.cell? ⟨g, off + i * 6 + t, none⟩).isSome = true ∧ w.drew.frozen? ⟨g, off + i * 6 + t, none⟩ = false) := by
  intro t ht
  rw [hl] at ht
  have := hc (i * 6 + t) (by omega)
  rw [← Nat.add_assoc] at this
  exact this
 have hcl : ∀ ty, (Builtin.clear_ #[25] ty #[.slice (some ⟨g, off + (i + (n - j)) * 6, none⟩) (n - (i + (n - j))) (cap - (i + (n - j)))]).run Tryz.prog W1 = .ok (.tuple #[]) (W1.setCells g (off + (i + (n - j)) * 6) (List.replicate 6 (.int .i64 0))) := fun ty => by
  have hzv : (zeroValue 56).run Tryz.prog W1 = .ok (.agg #[.int .i64 0, .int .i64 0, .int .i64 0, .int .i64 0, .int .i64 0, .int .i64 0]) W1 := by simp [zeroValue, typeInfo, hi0, hz0]
  have hzl : (Value.agg #[.int .i64 0, .int .i64 0, .int .i64 0, .int .i64 0, .int .i64 0, .int .i64 0]).cells.toList = List.replicate 6 (.int .i64 0) := rfl
  have k := run_clear1 (P := Tryz.prog) W1 25 56 ty (.agg #[.int .i64 0, .int .i64 0, .int .i64 0, .int .i64 0, .int .i64 0, .int .i64 0]) Tryz.underlying25 hzv (by rw [hzl]; intro v hv; rw [List.eq_of_mem_replicate hv]; rfl) g (off + (i + (n - j)) * 6) (cap - (i + (n - j))) (fun t ht => by rw [hzl, List.length_replicate] at ht; rw [Nat.add_assoc]; exact (hc1 _ (by omega)).1) (fun t ht => by rw [hzl, List.length_replicate] at ht; rw [Nat.add_assoc]; exact (hc1 _ (by omega)).2)
  rw [hzl] at k
  rw [show n - (i + (n - j)) = 1 by omega]
  exact k
 have hW : Hid (W1 = w.drew.setCells g (off + i * 6) news) := hW1
 have hHi := hid hi0
 have hHz := hid hz1
 have hij : i ≤ j := by omega
 have hne : ¬ (i = j) := by omega
 have hj : j ≤ n := by omega
 have hic : i ≤ cap := by omega
 have hjc : j ≤ cap := by omega
 have hlt : i < j := by omega
 have hr := hid hj1
 clear hW1 hnews hl hc hc1 hi0 hz0 hz1 hz2 hj1
 go_enter Tryz.func79, Tryz.ntmps79
 go_wp2_with fail
 go_region_law (refine step_append_room rfl (.tmp 22) (.tmp 25) 25 rfl 56 i0 6 Tryz.underlying25 hHi.out hHz.out g off i cap (by simp [Act.eval, Act.put]) A (n - j) (cap - j) news (by simp [Act.eval, Act.put]) s1.out hsrc.out s2.out (by omega) s3.out ?_; rw [← hW.out])
 go_wp2
 go_ret
 exact ⟨rfl, rfl⟩
theorem tZ {E : Env} {b o n : Nat} {cap : Option Nat} {v : Value} (h : Rel E (.sl (some (b, o)) n cap) v) (hn : 0 < n) : ∃ c, v = .slice (some ⟨(E.loc b).blk, (E.loc b).off + o, none⟩) n c ∧ b < E.n ∧ n ≤ c ∧ c ≤ maxLen ∧ o + c * (E.loc b).es ≤ (E.loc b).sz := by
 generalize hx : AV.sl (some (b, o)) n cap = x at h
 cases h with
 | nils b' cap' hb hc => cases hx; omega
 | sl b' o' len cap' c a h0 h1 h2 h3 h4 h5 =>
  cases hx
  rcases h4 with h4 | h4
  ·omega
  ·subst h4; exact ⟨c, rfl, h0, h1, h2, h5⟩
 | _ => cases hx
theorem pD : ∀ (ys xs : List AV) (o : Nat), o + ys.length ≤ xs.length → splice xs o ys = xs.take o ++ ys ++ xs.drop (o + ys.length)
 | [], xs, o, h => by
  rw [splice, List.append_nil, List.length_nil, Nat.add_zero, List.take_append_drop]
 | y :: ys, xs, o, h => by
  simp only [List.length_cons] at h
  rw [splice, pD ys _ _ (by rw [List.length_set]; omega)]
  have ho : o < xs.length := by omega
  rw [List.take_succ_eq_append_getElem (by simpa using ho), List.getElem_set_self, List.take_set_of_le (Nat.le_refl _), List.drop_set_of_lt (by omega), List.length_cons, show o + 1 + ys.length = o + (ys.length + 1) by omega]
  simp
theorem r6_takeB {l : List T6} {j : Nat} : (r6 l).take (j * 6) = r6 (l.take j) := by
 induction l generalizing j with
 | nil => simp [bW]
 | cons p l ih =>
  cases j with
  | zero => simp [bW]
  | succ j => rw [bk, show (j + 1) * 6 = j * 6 + 1 + 1 + 1 + 1 + 1 + 1 by omega, List.take_succ_cons, List.take_succ_cons, List.take_succ_cons, List.take_succ_cons, List.take_succ_cons, List.take_succ_cons, ih]; rfl
theorem r6_dropB {l : List T6} {j : Nat} : (r6 l).drop (j * 6) = r6 (l.drop j) := by
 induction l generalizing j with
 | nil => simp [bW]
 | cons p l ih =>
  cases j with
  | zero => simp
  | succ j => rw [bk, show (j + 1) * 6 = j * 6 + 1 + 1 + 1 + 1 + 1 + 1 by omega, List.drop_succ_cons, List.drop_succ_cons, List.drop_succ_cons, List.drop_succ_cons, List.drop_succ_cons, List.drop_succ_cons, ih]; rfl
def r6z : List AV := [.int .i64 0, .int .i64 0, .int .i64 0, .int .i64 0, .int .i64 0, .int .i64 0]
theorem r6_oneB : ∀ {l : List T6}, (r6 l).all AV.one = true
 | [] => rfl
 | p :: l => by rw [bk]; simp only [List.all_cons, AV.one, Bool.true_and]; exact r6_oneB
theorem del_b (H : ac) (b : Nat) (cap : Option Nat) (l : List T6) (z : Int) (hb : H[b]? = some (.cells true 6 (r6 l))) (h0 : 0 ≤ z) (hz : z < (l.length : Int)) : ACalls Tryz.prog 79 [.sl (some (b, 0)) l.length cap, .int .i64 z, .int .i64 (z + 1)] H (fun v H' => v = .sl (some (b, 0)) (l.take z.toNat ++ l.drop (z.toNat + 1)).length none ∧ H' = H.set b (.cells true 6 (r6 (l.take z.toNat ++ l.drop (z.toNat + 1)) ++ r6z))) := by
 obtain ⟨i, rfl⟩ : ∃ i : Nat, z = (i : Int) := ⟨z.toNat, by omega⟩
 rw [Int.toNat_natCast]
 have hi : i < l.length := by omega
 intro E w vs hE hv
 match vs, hv with
 | [], hv => exact absurd hv.1 (by simp)
 | [_], hv => exact absurd hv.1 (by simp)
 | [_, _], hv => exact absurd hv.1 (by simp)
 | _ :: _ :: _ :: _ :: _, hv => exact absurd hv.1 (by simp)
 | [v0, v1, v2], hv =>
 obtain ⟨r0, hv⟩ := hv.uncons
 obtain ⟨r1, hv⟩ := hv.uncons
 obtain ⟨r2, -⟩ := hv.uncons
 have e1 : v1 = .int .i64 (i : Int) := by cases r1; rfl
 have e2 : v2 = .int .i64 ((i + 1 : Nat) : Int) := by cases r2; rfl
 subst e1 e2
 obtain ⟨c, rfl, hbn, hnc, hcm, hsz⟩ := tZ r0 (by omega)
 rw [Nat.add_zero]
 rw [Nat.zero_add] at hsz
 have hcells : ∀ {H' : ac} {w' : World} {ys : List AV}, Emb E H' w' → H'[b]? = some (.cells true 6 ys) → ∀ t, t < l.length * 6 → ys.length = l.length * 6 → (w'.cell? ⟨(E.loc b).blk, (E.loc b).off + t, none⟩).isSome = true ∧ w'.frozen? ⟨(E.loc b).blk, (E.loc b).off + t, none⟩ = false := fun hE' hb' t ht hy => by
  have k := (hE'.blk b _ hb').2.1 rfl
  exact k.2.2.2.2 t (by omega)
 have hlen : (r6 (l.drop (i + 1))).length = (l.length - (i + 1)) * 6 := by rw [bM, List.length_drop]
 have hr : ards H b ((i + 1) * 6) ((l.length - (i + 1)) * 6) = some (r6 (l.drop (i + 1))) := by
  unfold ards; rw [hb]
  simp only
  rw [if_pos (.inl (by rw [bM]; omega)), r6_dropB, List.take_of_length_le (by rw [hlen]; omega)]
 obtain ⟨o1, o2, ovs, o3, o4⟩ := d6 hE hr
 have hol : ovs.length = (l.length - (i + 1)) * 6 := by rw [← o3.1, hlen]
 have hw1 : awrite H b (i * 6) (r6 (l.drop (i + 1))) = some (H.set b (.cells true 6 (splice (r6 l) (i * 6) (r6 (l.drop (i + 1)))))) := by
  unfold awrite; rw [hb]
  simp only
  rw [if_pos ⟨by rw [hlen, bM]; omega, r6_oneB⟩]
 obtain ⟨x1, -, -, hE1⟩ := hE.drew.write o3 hw1
 have hblt : b < H.length := getElem?_lt hb
 have hs1 : splice (r6 l) (i * 6) (r6 (l.drop (i + 1))) = r6 (l.take i ++ l.drop (i + 1)) ++ (r6 l).drop ((l.length - 1) * 6) := by
  rw [pD _ _ _ (by rw [hlen, bM]; omega), r6_takeB, bx, hlen, show i * 6 + (l.length - (i + 1)) * 6 = (l.length - 1) * 6 by omega]
 have hlA : (r6 (l.take i ++ l.drop (i + 1))).length = (l.length - 1) * 6 := by rw [bM, List.length_append, List.length_take, List.length_drop]; omega
 have hlB : ((r6 l).drop ((l.length - 1) * 6)).length = 6 := by rw [List.length_drop, bM]; omega
 rw [hs1] at hE1
 have hb1 : (H.set b (.cells true 6 (r6 (l.take i ++ l.drop (i + 1)) ++ (r6 l).drop ((l.length - 1) * 6))))[b]? = some (.cells true 6 (r6 (l.take i ++ l.drop (i + 1)) ++ (r6 l).drop ((l.length - 1) * 6))) := List.getElem?_set_self hblt
 have hw2 : awrite (H.set b (.cells true 6 (r6 (l.take i ++ l.drop (i + 1)) ++ (r6 l).drop ((l.length - 1) * 6)))) b ((l.length - 1) * 6) r6z = some (H.set b (.cells true 6 (r6 (l.take i ++ l.drop (i + 1)) ++ r6z))) := by
  unfold awrite; rw [hb1]
  simp only
  rw [if_pos ⟨by rw [List.length_append, hlA, hlB]; exact Nat.le_refl _, rfl⟩, List.set_set, gS _ _ _ (by rw [List.length_append, hlA, hlB]; rfl), List.take_append_of_le_length (by rw [hlA]; exact Nat.le_refl _), List.take_of_length_le (by rw [hlA]; exact Nat.le_refl _)]
 have hz6 : RelL E r6z (List.replicate 6 (.int .i64 0)) := .cons (.int _ _) (.cons (.int _ _) (.cons (.int _ _) (.cons (.int _ _) (.cons (.int _ _) (.cons (.int _ _) (.nil E))))))
 obtain ⟨-, -, -, hE2⟩ := hE1.write hz6 hw2
 refine (del_w (E.loc b).blk (E.loc b).off c l.length i (i + 1) w ovs hol (fun t u hu => by
   exact o4 t u hu) x1 (fun t ht => hcells hE hb t ht bM) hi rfl hnc hcm _ rfl (fun t ht => hcells hE1 hb1 t ht (by rw [List.length_append, hlA, hlB]; omega))).mono ?_
 rintro e w' ⟨rfl, rfl⟩
 refine ⟨E, _, _, _, rfl, ⟨rfl, rfl⟩, .refl E, ?_, ?_⟩
 ·have e3 : (l.take i ++ l.drop (i + 1)).length = i + (l.length - (i + 1)) := by rw [List.length_append, List.length_take, List.length_drop]; omega
  rw [e3]
  have k := Rel.sl (E := E) b 0 (i + (l.length - (i + 1))) none c ⟨(E.loc b).blk, (E.loc b).off + 0, none⟩ hbn (by omega) hcm (.inl rfl) (.inr rfl) (by rw [Nat.zero_add]; exact hsz)
  rw [Nat.add_zero] at k
  exact k
 ·rw [show i + (l.length - (i + 1)) = l.length - 1 by omega]
  exact hE2
open Go.RowKit
theorem r6_set : ∀ {l : List T6} {j : Nat} {a b c d e f : Int}, j < l.length → ((((((r6 l).set (j * 6) (.int .i64 a)).set (j * 6 + 1) (.int .i64 b)).set (j * 6 + 2) (.int .i64 c)).set (j * 6 + 3) (.int .i64 d)).set (j * 6 + 4) (.int .i64 e)).set (j * 6 + 5) (.int .i64 f) = r6 (l.set j (a, b, c, d, e, f))
 | [], j, _, _, _, _, _, _, h => by simp at h
 | p :: l, 0, _, _, _, _, _, _, _ => by simp [bk]
 | p :: l, j + 1, a, b, c, d, e, f, h => by
  have ih := r6_set (l := l) (j := j) (a := a) (b := b) (c := c) (d := d) (e := e) (f := f) (by simpa using h)
  have k : (j + 1) * 6 = j * 6 + 1 + 1 + 1 + 1 + 1 + 1 := by omega
  rw [bk, k]
  simp only [List.set_cons_succ]
  rw [bk, ← ih]
theorem BW_pre' {m e : Nat} {o : Bool} {ys zs : List AV} : BW m (some (.cells o e (ys ++ zs))) (.cells o e ys) = True := eq_true BW.pre
theorem chp_c (H : ac) (s : AV) (l : List T6) (hs : Sl H 6 s l.length (r6 l)) (hv : ∀ b ∈ l, bJ b = true) (hl2 : l.length ≤ 256) (hl0 : 0 < l.length) : ACalls Tryz.prog 78 [s] H (fun v H' => v = .tup [.int .i64 ((chO l l.length).1), .int .i64 ((chO l l.length).2.1), .agg [.int .i64 ((chO l l.length).2.2.2.1), .int .i64 ((chO l l.length).2.2.2.2.1), .int .i64 ((chO l l.length).2.2.2.2.2.1), .int .i64 ((chO l l.length).2.2.2.2.2.2.1), .int .i64 ((chO l l.length).2.2.2.2.2.2.2.1), .int .i64 ((chO l l.length).2.2.2.2.2.2.2.2)]] ∧ H' = H) := by
 obtain ⟨bs, os, cs, rfl, hbs⟩ := hs
 have hbls := getElem?_lt hbs
 have hb0s := fun l => aq (l := l) hbs
 refine AcT true Tryz.func78 ?_; intro hbel Q hQ
 have g'1 := (jn @hbs @hb0s)
 refine aa g'1 ?_
 refine go_loop try_mixed (by kernel_rfl) (fun k F Hx => ∃ i : Nat, i + k = l.length ∧ F = [(0, .sl (some (bs, 0)) l.length cs), (4, .ptr (some (H.length, 0))), (5, .int .i64 ((chO l i).1)), (6, .int .i64 ((chO l i).2.1)), (7, .int .i64 ((chO l i).2.2.1)), (8, .ptr (some (H.length + 1, 0))), (16, .sl (some (bs, 0)) l.length cs), (17, .int .i64 ((l.length : Nat) : Int)), (18, .int .i64 ((i : Nat) : Int))] ∧ Hx = H ++ [.cells true 0 [.int .i64 0, .int .i64 0, .int .i64 0, .int .i64 0, .int .i64 0, .int .i64 0], .cells true 0 [.int .i64 ((chO l i).2.2.2.1), .int .i64 ((chO l i).2.2.2.2.1), .int .i64 ((chO l i).2.2.2.2.2.1), .int .i64 ((chO l i).2.2.2.2.2.2.1), .int .i64 ((chO l i).2.2.2.2.2.2.2.1), .int .i64 ((chO l i).2.2.2.2.2.2.2.2)]]) (l.length) ?_ ?_
 ·refine ⟨_, _, _, ⟨0, by omega, rfl, rfl⟩, Abs.byG hbel [] rfl [0, 1] (by decide) ?_⟩
  exact aV @chO.eq_1
 ·rintro k0 F Hx ⟨i, hm0, rfl, rfl⟩ J0 hJ0
  refine aa g'1 ?_
  refine ak (fun h1 => ?_) (fun h1 => ?_)
  ·have h1d := bsT h1
   have hlt : i < l.length := by omega
   have hva : bxB (g61 l i) (g62 l i) (g63 l i) (g64 l i) (g65 l i) (g66 l i) = true := hv _ (cU hlt)
   have hcb := chO_bd (l := l) (n := i) (by omega)
   have q2 := cD (l := l) (j := i) (by omega)
   have g'2 := (jn @h1 (jn @h1d (jn @bM (jn @q2 g'1))))
   refine aa g'2 ?_
   refine go_loop try_mixed (by kernel_rfl) (fun k F Hx => ∃ j : Nat, j + k = l.length - (i + 1) ∧ F = [(0, .sl (some (bs, 0)) l.length cs), (4, .ptr (some (H.length, 0))), (5, .int .i64 ((chR l i (chO l i) j).1)), (6, .int .i64 ((chR l i (chO l i) j).2.1)), (7, .int .i64 ((chR l i (chO l i) j).2.2.1)), (8, .ptr (some (H.length + 1, 0))), (9, .int .i64 ((i : Nat) : Int)), (10, .ptr (some (H.length + 2, 0))), (16, .sl (some (bs, 0)) l.length cs), (17, .int .i64 ((l.length : Nat) : Int)), (18, .int .i64 ((i : Nat) : Int)), (26, .sl (some (bs, (i + 1) * 6)) (l.length - (i + 1)) none), (27, .int .i64 ((l.length - (i + 1) : Nat) : Int)), (28, .int .i64 ((j : Nat) : Int))] ∧ Hx = H ++ [.cells true 0 [.int .i64 0, .int .i64 0, .int .i64 0, .int .i64 0, .int .i64 0, .int .i64 0], .cells true 0 [.int .i64 ((chR l i (chO l i) j).2.2.2.1), .int .i64 ((chR l i (chO l i) j).2.2.2.2.1), .int .i64 ((chR l i (chO l i) j).2.2.2.2.2.1), .int .i64 ((chR l i (chO l i) j).2.2.2.2.2.2.1), .int .i64 ((chR l i (chO l i) j).2.2.2.2.2.2.2.1), .int .i64 ((chR l i (chO l i) j).2.2.2.2.2.2.2.2)], .cells true 0 [.int .i64 (g61 l i), .int .i64 (g62 l i), .int .i64 (g63 l i), .int .i64 (g64 l i), .int .i64 (g65 l i), .int .i64 (g66 l i)]]) (l.length - (i + 1)) ?_ ?_
   ·refine ⟨_, _, _, ⟨0, by omega, rfl, rfl⟩, Abs.byG hbel [] rfl [0, 1, 2] (by decide) ?_⟩
    exact aV @chR.eq_1
   ·rintro k1 F Hx ⟨j, hm1, rfl, rfl⟩ J1 hJ1
    refine aa g'2 ?_
    refine ak (fun h3 => ?_) (fun h3 => ?_)
    ·have h3d := bsT h3
     have hkt : j < l.length - (i + 1) := by omega
     have hvb : bxB (g61 l (i + 1 + j)) (g62 l (i + 1 + j)) (g63 l (i + 1 + j)) (g64 l (i + 1 + j)) (g65 l (i + 1 + j)) (g66 l (i + 1 + j)) = true := hv _ (cU (by omega))
     have hsfo : (i + 1) * 6 + j * 6 = (i + 1 + j) * 6 := by omega
     have hrb := chR_bd (l := l) (n := i) (k := j) (by omega) (by omega)
     have hv1 := ib (mnI (g61 l i) (g61 l (i + 1 + j)), mnI (g62 l i) (g62 l (i + 1 + j)), mxI (g63 l i) (g63 l (i + 1 + j)), mxI (g64 l i) (g64 l (i + 1 + j)), (bG (g65 l i) (g66 l i) (g65 l (i + 1 + j)) (g66 l (i + 1 + j))).1, (bG (g65 l i) (g66 l i) (g65 l (i + 1 + j)) (g66 l (i + 1 + j))).2)
     have hv2 := ib ((g61 l i), (g62 l i), (g63 l i), (g64 l i), (g65 l i), (g66 l i))
     have hv3 := ib ((g61 l (i + 1 + j)), (g62 l (i + 1 + j)), (g63 l (i + 1 + j)), (g64 l (i + 1 + j)), (g65 l (i + 1 + j)), (g66 l (i + 1 + j)))
     have q4 := cD (l := l) (j := i + 1 + j) (by omega)
     have g'3 := (jn @h3 (jn @h3d (jn @hsfo (jn @q4 g'2))))
     refine aa g'3 ?_
     refine af (by kernel_rfl) (bhull_c _ (g61 l i) (g62 l i) (g63 l i) (g64 l i) (g65 l i) (g66 l i) (g61 l (i + 1 + j)) (g62 l (i + 1 + j)) (g63 l (i + 1 + j)) (g64 l (i + 1 + j)) (g65 l (i + 1 + j)) (g66 l (i + 1 + j)) (by assumption) (by assumption)) ?_
     refine aa g'3 ?_
     refine aB (by kernel_rfl) (vol_c _ (mnI (g61 l i) (g61 l (i + 1 + j))) (mnI (g62 l i) (g62 l (i + 1 + j))) (mxI (g63 l i) (g63 l (i + 1 + j))) (mxI (g64 l i) (g64 l (i + 1 + j))) ((bG (g65 l i) (g66 l i) (g65 l (i + 1 + j)) (g66 l (i + 1 + j))).1) ((bG (g65 l i) (g66 l i) (g65 l (i + 1 + j)) (g66 l (i + 1 + j))).2)) ?_
     refine aa g'3 ?_
     refine aB (by kernel_rfl) (vol_c _ (g61 l i) (g62 l i) (g63 l i) (g64 l i) (g65 l i) (g66 l i)) ?_
     refine aa g'3 ?_
     refine aB (by kernel_rfl) (vol_c _ (g61 l (i + 1 + j)) (g62 l (i + 1 + j)) (g63 l (i + 1 + j)) (g64 l (i + 1 + j)) (g65 l (i + 1 + j)) (g66 l (i + 1 + j))) ?_
     refine aa g'3 ?_
     refine al (fun h5 => ?_) (fun h5 => ?_)
     ·have h5d := bsT h5
      have hk5 := h5d
      have g'4 := (jn @h5 (jn @h5d g'3))
      refine aa g'4 ?_
      refine ak (fun h6 => ?_) (fun h6 => ?_)
      ·have h6d := bsT h6
       have hU : chU l i j (chR l i (chO l i) j) = ((i : Int), (i : Int) + 1 + (j : Int), chN l i (i + 1 + j), dY (g6 l i) (g6 l (i + 1 + j))) := if_pos (.inr h6d)
       have hc1 : (chU l i j (chR l i (chO l i) j)).1 = ((i : Nat) : Int) := by rw [hU]
       have hc2 : (chU l i j (chR l i (chO l i) j)).2.1 = ((i : Nat) : Int) + 1 + ((j : Nat) : Int) := by rw [hU]
       have hc3 : (chU l i j (chR l i (chO l i) j)).2.2.1 = (((c6 ((mnI (g61 l i) (g61 l (i + 1 + j))), (mnI (g62 l i) (g62 l (i + 1 + j))), (mxI (g63 l i) (g63 l (i + 1 + j))), (mxI (g64 l i) (g64 l (i + 1 + j))), ((bG (g65 l i) (g66 l i) (g65 l (i + 1 + j)) (g66 l (i + 1 + j))).1), ((bG (g65 l i) (g66 l i) (g65 l (i + 1 + j)) (g66 l (i + 1 + j))).2))) - (c6 (g6 l i))) - (c6 (g6 l (i + 1 + j)))) := by rw [hU]; rfl
       have hd0 : (chU l i j (chR l i (chO l i) j)).2.2.2.1 = mnI (g61 l i) (g61 l (i + 1 + j)) := by rw [hU]; rfl
       have hd1 : (chU l i j (chR l i (chO l i) j)).2.2.2.2.1 = mnI (g62 l i) (g62 l (i + 1 + j)) := by rw [hU]; rfl
       have hd2 : (chU l i j (chR l i (chO l i) j)).2.2.2.2.2.1 = mxI (g63 l i) (g63 l (i + 1 + j)) := by rw [hU]; rfl
       have hd3 : (chU l i j (chR l i (chO l i) j)).2.2.2.2.2.2.1 = mxI (g64 l i) (g64 l (i + 1 + j)) := by rw [hU]; rfl
       have hd4 : (chU l i j (chR l i (chO l i) j)).2.2.2.2.2.2.2.1 = (bG (g65 l i) (g66 l i) (g65 l (i + 1 + j)) (g66 l (i + 1 + j))).1 := by rw [hU]; rfl
       have hd5 : (chU l i j (chR l i (chO l i) j)).2.2.2.2.2.2.2.2 = (bG (g65 l i) (g66 l i) (g65 l (i + 1 + j)) (g66 l (i + 1 + j))).2 := by rw [hU]; rfl
       have g'5 := (jn @h6 (jn @h6d g'4))
       refine aa g'5 ?_
       refine hJ1 _ _ ⟨k1 - 1, by omega, _, _, _, ⟨j + 1, by omega, rfl, rfl⟩, Abs.byG hbel [] rfl [0, 1, 2] (by decide) ?_⟩
       exact aV (jn @chR.eq_2 (jn @hc1 (jn @hc2 (jn @hc3 (jn @hd0 (jn @hd1 (jn @hd2 (jn @hd3 (jn @hd4 @hd5)))))))))
      ·have h6d := bsT h6
       have hU : chU l i j (chR l i (chO l i) j) = (chR l i (chO l i) j) := if_neg (fun q => q.elim (fun q => hk5 q) (fun q => absurd q h6d))
       have g'6 := (jn @h6 (jn @h6d g'4))
       refine aa g'6 ?_
       refine hJ1 _ _ ⟨k1 - 1, by omega, _, _, _, ⟨j + 1, by omega, rfl, rfl⟩, Abs.byG hbel [] rfl [0, 1, 2] (by decide) ?_⟩
       exact aV (jn @chR.eq_2 @hU)
     ·have h5d := bsT h5
      have hU : chU l i j (chR l i (chO l i) j) = ((i : Int), (i : Int) + 1 + (j : Int), chN l i (i + 1 + j), dY (g6 l i) (g6 l (i + 1 + j))) := if_pos (.inl h5d)
      have hc1 : (chU l i j (chR l i (chO l i) j)).1 = ((i : Nat) : Int) := by rw [hU]
      have hc2 : (chU l i j (chR l i (chO l i) j)).2.1 = ((i : Nat) : Int) + 1 + ((j : Nat) : Int) := by rw [hU]
      have hc3 : (chU l i j (chR l i (chO l i) j)).2.2.1 = (((c6 ((mnI (g61 l i) (g61 l (i + 1 + j))), (mnI (g62 l i) (g62 l (i + 1 + j))), (mxI (g63 l i) (g63 l (i + 1 + j))), (mxI (g64 l i) (g64 l (i + 1 + j))), ((bG (g65 l i) (g66 l i) (g65 l (i + 1 + j)) (g66 l (i + 1 + j))).1), ((bG (g65 l i) (g66 l i) (g65 l (i + 1 + j)) (g66 l (i + 1 + j))).2))) - (c6 (g6 l i))) - (c6 (g6 l (i + 1 + j)))) := by rw [hU]; rfl
      have hd0 : (chU l i j (chR l i (chO l i) j)).2.2.2.1 = mnI (g61 l i) (g61 l (i + 1 + j)) := by rw [hU]; rfl
      have hd1 : (chU l i j (chR l i (chO l i) j)).2.2.2.2.1 = mnI (g62 l i) (g62 l (i + 1 + j)) := by rw [hU]; rfl
      have hd2 : (chU l i j (chR l i (chO l i) j)).2.2.2.2.2.1 = mxI (g63 l i) (g63 l (i + 1 + j)) := by rw [hU]; rfl
      have hd3 : (chU l i j (chR l i (chO l i) j)).2.2.2.2.2.2.1 = mxI (g64 l i) (g64 l (i + 1 + j)) := by rw [hU]; rfl
      have hd4 : (chU l i j (chR l i (chO l i) j)).2.2.2.2.2.2.2.1 = (bG (g65 l i) (g66 l i) (g65 l (i + 1 + j)) (g66 l (i + 1 + j))).1 := by rw [hU]; rfl
      have hd5 : (chU l i j (chR l i (chO l i) j)).2.2.2.2.2.2.2.2 = (bG (g65 l i) (g66 l i) (g65 l (i + 1 + j)) (g66 l (i + 1 + j))).2 := by rw [hU]; rfl
      have g'7 := (jn @h5 (jn @h5d g'3))
      refine aa g'7 ?_
      refine hJ1 _ _ ⟨k1 - 1, by omega, _, _, _, ⟨j + 1, by omega, rfl, rfl⟩, Abs.byG hbel [] rfl [0, 1, 2] (by decide) ?_⟩
      exact aV (jn @chR.eq_2 (jn @hc1 (jn @hc2 (jn @hc3 (jn @hd0 (jn @hd1 (jn @hd2 (jn @hd3 (jn @hd4 @hd5)))))))))
    ·have h3d := bsT h3
     obtain rfl : j = l.length - (i + 1) := by omega
     have g'8 := (jn @h3 (jn @h3d g'2))
     refine aa g'8 ?_
     refine hJ0 _ _ ⟨k0 - 1, by omega, _, _, _, ⟨i + 1, by omega, rfl, rfl⟩, Abs.byG hbel [] rfl [0, 1] (by decide) ?_⟩
     exact aV @chO.eq_2
  ·have h1d := bsT h1
   obtain rfl : i = l.length := by omega
   have g'9 := (jn @h1 (jn @h1d g'1))
   refine aa g'9 ?_
   exact hQ _ _ (ae (.inl rfl) hbel (x := .tup [.int .i64 ((chO l l.length).1), .int .i64 ((chO l l.length).2.1), .agg [.int .i64 ((chO l l.length).2.2.2.1), .int .i64 ((chO l l.length).2.2.2.2.1), .int .i64 ((chO l l.length).2.2.2.2.2.1), .int .i64 ((chO l l.length).2.2.2.2.2.2.1), .int .i64 ((chO l l.length).2.2.2.2.2.2.2.1), .int .i64 ((chO l l.length).2.2.2.2.2.2.2.2)]]) (ai Tryz.results78) rfl ⟨rfl, rfl⟩)
open Go.RowKit
theorem del_n (H : ac) (b n : Nat) (cap : Option Nat) (l : List T6) (z : Int) (hn : n = l.length) (hb : H[b]? = some (.cells true 6 (r6 l))) (h0 : 0 ≤ z) (hz : z < (l.length : Int)) : ACalls Tryz.prog 79 [.sl (some (b, 0)) n cap, .int .i64 z, .int .i64 (z + 1)] H (fun v H' => v = .sl (some (b, 0)) (l.take z.toNat ++ l.drop (z.toNat + 1)).length none ∧ H' = H.set b (.cells true 6 (r6 (l.take z.toNat ++ l.drop (z.toNat + 1)) ++ r6z))) := by
 subst hn; exact del_b H b cap l z hb h0 hz
theorem comp_c (H : ac) (s : AV) (l : List T6)  (hs : Sl H 6 s l.length (r6 l)) (hl : l.length ≤ 64) (hl0 : 0 < l.length) (hv : ∀ b ∈ l, bJ b = true) : ACalls Tryz.prog 49 [s, .int .i64 16] H (fun v H' => v = .tup [.sl (some (H.length, 0)) ((cpL l).length) none, .int .i64 0] ∧ H' = H ++ [.cells true 6 (r6 (cpL l))]) := by
 obtain ⟨bs, os, cs, rfl, hbs⟩ := hs
 have hbls := getElem?_lt hbs
 have hb0s := fun l => aq (l := l) hbs
 have hny : l.any (fun b => !bJ b) = false := List.any_eq_false.2 fun b hb => by rw [hv b hb]; decide
 refine AcT false Tryz.func49 ?_; intro hbel Q hQ
 have g'1 := (jn @hbs (jn @hb0s @hny))
 refine aa g'1 ?_
 refine ak (fun h1 => ?_) (fun h1 => ?_)
 ·have h1d := bsT h1
  omega
 ·have h1d := bsT h1
  have g'2 := (jn @h1 (jn @h1d g'1))
  refine aa g'2 ?_
  refine af (by kernel_rfl) (jz _ _ l ⟨_, _, _, rfl, by first | exact hb0s _ | exact hbs⟩ (by omega) _ [] (by kernel_rfl) rfl (fun b => !bJ b) (fun j hj => cmp1_c _ _ _ _ _ _ _)) ?_
  refine aa g'2 ?_
  refine af (by kernel_rfl) (iw _ _ l ⟨_, _, _, rfl, by first | exact hb0s _ | exact hbs⟩ (by first | omega | (simp only [List.length_cons, List.length_nil]; omega)) (by first | omega | simp)) ?_
  refine aa g'2 ?_
  refine go_loop try_mixed (by kernel_rfl) (fun k F Hx => ∃ QQ : List T6, QQ.length = k ∧ (∀ b ∈ QQ, bJ b = true) ∧ 0 < QQ.length ∧ QQ.length ≤ 64 ∧ cpI (QQ.length - 16) QQ = cpL l ∧ F = [(1, .int .i64 16), (6, .sl (some (H.length, 0)) QQ.length none)] ∧ Hx = H ++ [.cells true 6 (r6 QQ)]) (l.length) ?_ ?_
  ·refine ⟨_, _, _, ⟨l, by omega, hv, hl0, hl, rfl, rfl, rfl⟩, Abs.byG hbel [] rfl [0] (by decide) ?_⟩
   exact aD (jn @bx (jn @bk (jn @bW @bA)))
  ·rintro k0 F Hx ⟨QQ, hm0, hqv, hq0, hq6, hqc, rfl, rfl⟩ J0 hJ0
   have g'3 := (jn @bM (jn @dw g'2))
   refine aa g'3 ?_
   refine ak (fun h2 => ?_) (fun h2 => ?_)
   ·have h2d := bsT h2
    have hgt : 16 < QQ.length := by omega
    obtain ⟨ci, cj, hci, hcj, hc1, hc2, hc3⟩ := chO_p (l := QQ) (by omega)
    have hsn := cpS_len (l := QQ) (by omega)
    have hcs : List.take (chO QQ QQ.length).2.1.toNat (List.set QQ (chO QQ QQ.length).1.toNat ((chO QQ QQ.length).2.2.2.1, (chO QQ QQ.length).2.2.2.2.1, (chO QQ QQ.length).2.2.2.2.2.1, (chO QQ QQ.length).2.2.2.2.2.2.1, (chO QQ QQ.length).2.2.2.2.2.2.2.1, (chO QQ QQ.length).2.2.2.2.2.2.2.2)) ++ List.drop ((chO QQ QQ.length).2.1.toNat + 1) (List.set QQ (chO QQ QQ.length).1.toNat ((chO QQ QQ.length).2.2.2.1, (chO QQ QQ.length).2.2.2.2.1, (chO QQ QQ.length).2.2.2.2.2.1, (chO QQ QQ.length).2.2.2.2.2.2.1, (chO QQ QQ.length).2.2.2.2.2.2.2.1, (chO QQ QQ.length).2.2.2.2.2.2.2.2)) = cpS QQ := rfl
    have hcl : (List.take (chO QQ QQ.length).2.1.toNat (List.set QQ (chO QQ QQ.length).1.toNat ((chO QQ QQ.length).2.2.2.1, (chO QQ QQ.length).2.2.2.2.1, (chO QQ QQ.length).2.2.2.2.2.1, (chO QQ QQ.length).2.2.2.2.2.2.1, (chO QQ QQ.length).2.2.2.2.2.2.2.1, (chO QQ QQ.length).2.2.2.2.2.2.2.2))).length + (List.drop ((chO QQ QQ.length).2.1.toNat + 1) (List.set QQ (chO QQ QQ.length).1.toNat ((chO QQ QQ.length).2.2.2.1, (chO QQ QQ.length).2.2.2.2.1, (chO QQ QQ.length).2.2.2.2.2.1, (chO QQ QQ.length).2.2.2.2.2.2.1, (chO QQ QQ.length).2.2.2.2.2.2.2.1, (chO QQ QQ.length).2.2.2.2.2.2.2.2))).length = (cpS QQ).length := by rw [← List.length_append]; rfl
    have hqn : cpI ((cpS QQ).length - 16) (cpS QQ) = cpL l := by rw [hsn, ← hqc, show QQ.length - 16 = (QQ.length - 1 - 16) + 1 by omega]; rfl
    have g'4 := (jn @h2 (jn @h2d g'3))
    refine aa g'4 ?_
    refine af (by kernel_rfl) (chp_c _ _ QQ ⟨_, _, _, by first | rfl | (rw [List.length_append]; done) | (rw [List.length_append]; rfl), by first | rfl | (rw [aj]; rfl) | (rw [ag]; rfl) | (rw [aj, ah]; rfl) | (rw [ag, ah]; rfl)⟩ (by assumption) (by omega) (by omega)) ?_
    have g'5 := (jn @r6_set (jn @List.length_set.{0} g'4))
    refine aa g'5 ?_
    refine af (by kernel_rfl) (del_n _ _ _ _ (QQ.set (((chO QQ QQ.length).1).toNat) ((chO QQ QQ.length).2.2.2.1, (chO QQ QQ.length).2.2.2.2.1, (chO QQ QQ.length).2.2.2.2.2.1, (chO QQ QQ.length).2.2.2.2.2.2.1, (chO QQ QQ.length).2.2.2.2.2.2.2.1, (chO QQ QQ.length).2.2.2.2.2.2.2.2)) ((chO QQ QQ.length).2.1) (by first | rfl | exact List.length_set.symm | simp) (by first | rfl | (rw [aj]; rfl) | (rw [ag]; rfl)) (by first | omega | (rw [List.length_set]; omega)) (by first | omega | (rw [List.length_set]; omega))) ?_
    refine aa g'5 ?_
    refine hJ0 _ _ ⟨k0 - 1, by omega, _, _, _, ⟨cpS QQ, by omega, cpS_ok (by omega) hqv, by omega, by omega, hqn, rfl, rfl⟩, Abs.byG hbel [] rfl [0] (by decide) ?_⟩
    exact aD (jn @hcs (jn @hcl (jn @BW_pre' (jn @bA (jn @or_true (jn @true_or (jn @bx (jn @bk @bW))))))))
   ·have h2d := bsT h2
    obtain rfl : QQ = cpL l := by rw [← hqc, show QQ.length - 16 = 0 by omega]; rfl
    have g'6 := (jn @h2 (jn @h2d g'3))
    refine aa g'6 ?_
    refine hQ _ _ (aY (.inl rfl) hbel (x1 := .tup [.sl (some (H.length, 0)) ((cpL l).length) none, .int .i64 0]) (l2 := [.cells true 6 (r6 (cpL l))]) (.tup [.sl (some (H.length, 0)) ((cpL l).length) none, .int .i64 0]) (ai Tryz.results49) [] rfl [0] (by decide) ⟨rfl, rfl⟩ ?_)
    exact aV @bA
open Go.RowKit
open Go.RowKit
open Go.RowKit
theorem learnT_c (H : ac) (W Hh : Int) (pp : AV) (xs : List Int) (s : AV) (l : List T6) (q : AV) (sc : List (Int × Int)) (g : Int) (o : List Int) (hpp : Sl H 1 pp xs.length (ints .u8 xs)) (hs : Sl H 6 s l.length (r6 l)) (hq : Sl H 2 q sc.length (prs sc)) (hR : dk W Hh xs l sc g = true) (ho : lnO W Hh xs l sc g = some o) :
  ACalls Tryz.prog 50 [.agg [.int .i64 W, .int .i64 Hh, pp], s, q, .int .i64 g] H (fun v H' => v = .tup [.agg [.int .i64 W, .int .i64 Hh, .sl (some (H.length, 0)) o.length none], .int .i64 0] ∧ H' = H ++ [.cells (aX o.length) 1 (ints .u8 o)]) := by
 obtain ⟨hV, hl0, hS, hsB, hg⟩ := kq.1 hR
 have k := learn_c H W Hh pp xs s l q sc g hpp hs hq (by have := gD hS; omega) (by have := (ef.1 hsB).1; omega)
 obtain ⟨e1, e2, e3, e4⟩ := ln_0 hR ho
 rw [e1, e2, e3, e4] at k
 exact k
open Go.RowKit
theorem tt (H : ac) (W Hh : Int) (pp : AV) (xs : List Int) (s : AV) (l : List T6) (q : AV) (sc : List (Int × Int)) (g : Int) (o : List Int) (hpp : Sl H 1 pp xs.length (ints .u8 xs)) (hs : Sl H 6 s l.length (r6 l)) (hq : Sl H 2 q sc.length (prs sc)) (hR : dk W Hh xs l sc g = true) (ho : lnO W Hh xs l sc g = some o) (h0 : 0 < o.length) :
  ACalls Tryz.prog 50 [.agg [.int .i64 W, .int .i64 Hh, pp], s, q, .int .i64 g] H (fun v H' => v = .tup [.agg [.int .i64 W, .int .i64 Hh, .sl (some (H.length, 0)) o.length none], .int .i64 0] ∧ H' = H ++ [.cells true 1 (ints .u8 o)]) := by
 have k := learnT_c H W Hh pp xs s l q sc g o hpp hs hq hR ho
 rw [dH h0] at k
 exact k
theorem lse_e (H : ac) (W : Int) (Hh : Int) (pp : AV) (xs : List Int) (s : AV) (l : List T6) (tu : Int) (le : Int) (sl : Int) (ra : Int)  (bz : Nat) (q : AV) (sc : List (Int × Int)) (hpp : Sl H 1 pp xs.length (ints .u8 xs)) (hs : Sl H 6 s l.length (r6 l)) (hz : H[bz]? = some (.cells true 0 [.int .i64 W, .int .i64 Hh, pp, s, .int .i64 tu, .int .i64 le, .int .i64 sl, .int .i64 ra, .bool false])) (hq : Sl H 2 q sc.length (prs sc)) (hV : cl W Hh xs = true) (hS : bX l = true) (hl0 : 0 < l.length) (hsB : cw sc = true) (hg : 1 ≤ ra ∧ ra ≤ 32) (hRn : (co W Hh xs l sc ra 32).length = 0) : ACalls Tryz.prog 21 [.ptr (some (bz, 0)), q] H (fun v H' => v = .int .i64 12 ∧ H' = H.set bz (.cells true 0 [.int .i64 W, .int .i64 Hh, pp, s, .int .i64 tu, .int .i64 le, .int .i64 sl, .int .i64 ra, .bool true])) := by
 obtain ⟨bpp, opp, cpp, rfl, hbpp⟩ := hpp
 have hblpp := getElem?_lt hbpp
 have hb0pp := fun l => aq (l := l) hbpp
 obtain ⟨bs, os, cs, rfl, hbs⟩ := hs
 have hbls := getElem?_lt hbs
 have hb0s := fun l => aq (l := l) hbs
 obtain ⟨bq, oq, cq, rfl, hbq⟩ := hq
 have hblq := getElem?_lt hbq
 have hb0q := fun l => aq (l := l) hbq
 have hbz := hz
 have hblz := getElem?_lt hbz
 have hb0z := fun l => aq (l := l) hbz
 have hVV := cJ.1 hV
 have hSS := bY.1 hS
 have hss := ef.1 hsB
 have hsc9 := hss.1
 have hx6 : xs.length ≤ 1000000 := by have h4 := hVV.len; have := Int.mul_le_mul hVV.w1 hVV.h1 (by have := hVV.h0; omega) (by decide); omega
 have hok : (∀ b ∈ co W Hh xs l sc ra 32, bJ b = true) ∧ (co W Hh xs l sc ra 32).length ≤ l.length + 32 + ([] : List T6).length := jh (xs := xs) (s := sc) (g := ra) ⟨hVV.w0, hVV.w1⟩ ⟨hVV.h0, hVV.h1⟩ (l.length + 2 * 32) l 32 [] rfl hSS.2 (fun b hb => by cases hb)
 have hR6 : (co W Hh xs l sc ra 32).length ≤ 64 := by have h1 := hok.2; simp only [List.length_nil] at h1; have h2 := hSS.1; omega
 have hRv := hok.1
 (refine bF Tryz.func21 _ rfl (Nat.le_of_ble_eq_true (by kernel_rfl)) rfl ?_; intro hbel Q hQ hQ' c hc; unfold Tryz.f21 at hc; simp only [Option.some.injEq] at hc; subst hc; clear hQ')
 refine aN fun Q5 hn5 hr5 he5 => ?_
 have hQ5 := fun F H' h => hr5 F H' (hQ F H' h)
 refine aI false try_mixed (by kernel_rfl) ?_
 have g'3 := (jn @hbpp (jn @hb0pp (jn @hbs (jn @hb0s (jn @hbq (jn @hb0q (jn @hbz (jn @hb0z (jn @hsB @Option.isNone_some.{0})))))))))
 refine aa g'3 ?_
 refine hn5 _ _ ?_
 refine aN fun Q6 hn6 hr6 he6 => ?_
 have hQ6 := fun F H' h => hr6 F H' (hQ F H' h)
 refine aI false try_mixed (by kernel_rfl) ?_
 refine aa g'3 ?_
 refine af (by kernel_rfl) (tr _ _ sc ⟨_, _, _, rfl, by first | exact hb0q _ | exact hbq⟩ (by omega)) ?_
 refine aa g'3 ?_
 refine hn6 _ _ ?_
 refine aN fun Q7 hn7 hr7 he7 => ?_
 have hQ7 := fun F H' h => hr7 F H' (hQ F H' h)
 refine aI false try_mixed (by kernel_rfl) ?_
 refine aa g'3 ?_
 refine bV (by kernel_rfl) (by simp) (tq _ W Hh _ xs _ l _ sc ra 32 ⟨_, _, _, rfl, by first | exact hb0pp _ | exact hbpp⟩ ⟨_, _, _, rfl, by first | exact hb0s _ | exact hbs⟩ ⟨_, _, _, rfl, by first | exact hb0q _ | exact hbq⟩ (by assumption) (by assumption) (by assumption) (by assumption) (by assumption) (by omega)) ?_
 refine aa g'3 ?_
 refine hn7 _ _ ?_
 refine aN fun Q8 hn8 hr8 he8 => ?_
 have hQ8 := fun F H' h => hr8 F H' (hQ F H' h)
 refine aI false try_mixed (by kernel_rfl) ?_
 refine aa g'3 ?_
 refine ak (fun h1 => ?_) (fun h1 => ?_)
 ·have h1d := bsT h1
  have h1n := bnT h1
  have g'4 := (jn @h1 (jn @h1n (jn @bg (jn @be (jn @hblz (jn @ep (jn @eU (jn @fx (jn @eN (jn @fG (jn @gF (jn @fH (jn @gG (jn @List.length_set.{0} (jn @List.set_set.{0} g'3)))))))))))))))
  refine aa g'4 ?_
  refine hQ8 _ _ (ia (b1 := .cells true 0 [.int .i64 W, .int .i64 Hh, .sl (some (bpp, 0)) xs.length cpp, .sl (some (bs, 0)) l.length cs, .int .i64 tu, .int .i64 le, .int .i64 sl, .int .i64 ra, .bool true]) (.cells true 0 [.int .i64 W, .int .i64 Hh, .sl (some (bpp, 0)) xs.length cpp, .sl (some (bs, 0)) l.length cs, .int .i64 tu, .int .i64 le, .int .i64 sl, .int .i64 ra, .bool true]) (l1 := [.cells (aX (co W Hh xs l sc ra 32).length) 6 (r6 (co W Hh xs l sc ra 32))]) (l2 := []) (.inl rfl) hbel hblz (by first | rfl | simp) (x1 := .int .i64 12) (.int .i64 12) (ai Tryz.results21) [] rfl [] (by decide) ⟨rfl, List.append_nil _⟩ ?_)
  exact aV (jn @hblpp (jn @hbls (jn @hblz @hblq)))
 ·have h1d := bsT h1
  have h1n := bnT h1
  simp [hRn] at h1d
open Go.RowKit
open Go.RowKit
structure Ev where
 k : Int
 t : Int
 g : Int
 st : Bool
 s : AV
 sc : List (Int × Int)
 x : Int
 y : Int
 h : Int
def evG (l : List Ev) (j : Nat) : Ev := l.getD j ⟨0, 0, 0, false, .any, [], 0, 0, 0⟩
def evOk (H : ac) (l : List Ev) : Prop := ∀ e ∈ l, Sl H 2 e.s e.sc.length (prs e.sc) ∧ e.sc.length ≤ maxLen
theorem evG_mem {l : List Ev} {j : Nat} (h : j < l.length) : evG l j ∈ l := by
 unfold evG
 rw [List.getD_eq_getElem?_getD, List.getElem?_eq_getElem h]
 exact List.getElem_mem h
theorem evOk.at {H : ac} {l : List Ev} {j : Nat} (k : evOk H l) (h : j < l.length) : ∃ b o c, (evG l j).s = .sl (some (b, 0)) (evG l j).sc.length c ∧ H[b]? = some (.cells o 2 (prs (evG l j).sc)) := by
 obtain ⟨b, o, c, e1, e2⟩ := (k _ (evG_mem h)).1
 exact ⟨b, o, c, e1, e2⟩
theorem evOk.len {H : ac} {l : List Ev} {j : Nat} (k : evOk H l) (h : j < l.length) : (evG l j).sc.length ≤ 9223372036854775807 := by
 have q := (k _ (evG_mem h)).2
 unfold maxLen at q; exact q
open Go.RowKit
theorem lse_y (H : ac) (W : Int) (Hh : Int) (pp : AV) (xs : List Int) (s : AV) (l : List T6) (tu : Int) (le : Int) (sl : Int) (ra : Int)  (bz : Nat) (q : AV) (sc : List (Int × Int)) (hpp : Sl H 1 pp xs.length (ints .u8 xs)) (hs : Sl H 6 s l.length (r6 l)) (hz : H[bz]? = some (.cells true 0 [.int .i64 W, .int .i64 Hh, pp, s, .int .i64 tu, .int .i64 le, .int .i64 sl, .int .i64 ra, .bool false])) (hq : Sl H 2 q sc.length (prs sc)) (hV : cl W Hh xs = true) (hS : bX l = true) (hl0 : 0 < l.length) (hsB : cw sc = true) (hg : 1 ≤ ra ∧ ra ≤ 32) (hR0 : 0 < (co W Hh xs l sc ra 32).length) (o : List Int) (ho : lnO W Hh xs (cpL (co W Hh xs l sc ra 32)) sc ra = some o) (ho0 : 0 < o.length) : ACalls Tryz.prog 21 [.ptr (some (bz, 0)), q] H (fun v H' => v = .int .i64 0 ∧ H' = H.set bz (.cells true 0 [.int .i64 W, .int .i64 Hh, .sl (some (H.length, 0)) o.length none, .sl (some (H.length + 1, 0)) ((cpL (co W Hh xs l sc ra 32)).length) none, .int .i64 tu, .int .i64 le, .int .i64 sl, .int .i64 ra, .bool false]) ++ [.cells true 1 (ints .u8 o), .cells true 6 (r6 (cpL (co W Hh xs l sc ra 32)))]) := by
 obtain ⟨bpp, opp, cpp, rfl, hbpp⟩ := hpp
 have hblpp := getElem?_lt hbpp
 have hb0pp := fun l => aq (l := l) hbpp
 obtain ⟨bs, os, cs, rfl, hbs⟩ := hs
 have hbls := getElem?_lt hbs
 have hb0s := fun l => aq (l := l) hbs
 obtain ⟨bq, oq, cq, rfl, hbq⟩ := hq
 have hblq := getElem?_lt hbq
 have hb0q := fun l => aq (l := l) hbq
 have hbz := hz
 have hblz := getElem?_lt hbz
 have hb0z := fun l => aq (l := l) hbz
 have hVV := cJ.1 hV
 have hSS := bY.1 hS
 have hss := ef.1 hsB
 have hsc9 := hss.1
 have hx6 : xs.length ≤ 1000000 := by have h4 := hVV.len; have := Int.mul_le_mul hVV.w1 hVV.h1 (by have := hVV.h0; omega) (by decide); omega
 have hok : (∀ b ∈ co W Hh xs l sc ra 32, bJ b = true) ∧ (co W Hh xs l sc ra 32).length ≤ l.length + 32 + ([] : List T6).length := jh (xs := xs) (s := sc) (g := ra) ⟨hVV.w0, hVV.w1⟩ ⟨hVV.h0, hVV.h1⟩ (l.length + 2 * 32) l 32 [] rfl hSS.2 (fun b hb => by cases hb)
 have hR6 : (co W Hh xs l sc ra 32).length ≤ 64 := by have h1 := hok.2; simp only [List.length_nil] at h1; have h2 := hSS.1; omega
 have hRv := hok.1
 have hcp := cpL_ok hR0 hRv
 have hcS := hcp.1
 have hc0 := hcp.2
 have hc16 := (bY.1 hcS).1
 have hRg : dk W Hh xs (cpL (co W Hh xs l sc ra 32)) sc ra = true := kq.2 ⟨hV, hc0, hcS, hsB, hg⟩
 (refine bF Tryz.func21 _ rfl (Nat.le_of_ble_eq_true (by kernel_rfl)) rfl ?_; intro hbel Q hQ hQ' c hc; unfold Tryz.f21 at hc; simp only [Option.some.injEq] at hc; subst hc; clear hQ')
 refine aN fun Q1 hn1 hr1 he1 => ?_
 have hQ1 := fun F H' h => hr1 F H' (hQ F H' h)
 refine aI false try_mixed (by kernel_rfl) ?_
 have g'1 := (jn @hbpp (jn @hb0pp (jn @hbs (jn @hb0s (jn @hbq (jn @hb0q (jn @hbz (jn @hb0z (jn @hsB @Option.isNone_some.{0})))))))))
 refine aa g'1 ?_
 refine hn1 _ _ ?_
 refine aN fun Q2 hn2 hr2 he2 => ?_
 have hQ2 := fun F H' h => hr2 F H' (hQ F H' h)
 refine aI false try_mixed (by kernel_rfl) ?_
 refine aa g'1 ?_
 refine af (by kernel_rfl) (tr _ _ sc ⟨_, _, _, rfl, by first | exact hb0q _ | exact hbq⟩ (by omega)) ?_
 refine aa g'1 ?_
 refine hn2 _ _ ?_
 refine aN fun Q3 hn3 hr3 he3 => ?_
 have hQ3 := fun F H' h => hr3 F H' (hQ F H' h)
 refine aI false try_mixed (by kernel_rfl) ?_
 refine aa g'1 ?_
 refine bV (by kernel_rfl) (by simp) (tq _ W Hh _ xs _ l _ sc ra 32 ⟨_, _, _, rfl, by first | exact hb0pp _ | exact hbpp⟩ ⟨_, _, _, rfl, by first | exact hb0s _ | exact hbs⟩ ⟨_, _, _, rfl, by first | exact hb0q _ | exact hbq⟩ (by assumption) (by assumption) (by assumption) (by assumption) (by assumption) (by omega)) ?_
 refine aa g'1 ?_
 refine hn3 _ _ ?_
 refine aN fun Q4 hn4 hr4 he4 => ?_
 have hQ4 := fun F H' h => hr4 F H' (hQ F H' h)
 refine aI false try_mixed (by kernel_rfl) ?_
 refine aa g'1 ?_
 refine ak (fun h1 => ?_) (fun h1 => ?_)
 ·have h1d := bsT h1
  have h1n := bnT h1
  omega
 ·have h1d := bsT h1
  have h1n := bnT h1
  have g'2 := (jn @h1 (jn @h1n (jn @bg (jn @be g'1))))
  refine aa g'2 ?_
  refine hn4 _ _ ?_
  refine aN fun Q5 hn5 hr5 he5 => ?_
  have hQ5 := fun F H' h => hr5 F H' (hQ F H' h)
  refine aI false try_mixed (by kernel_rfl) ?_
  refine aa g'2 ?_
  refine af (by kernel_rfl) (comp_c _ _ (co W Hh xs l sc ra 32) ⟨_, _, _, by first | rfl | (rw [List.length_append]; done) | (rw [List.length_append]; rfl), by first | rfl | (rw [aj]; rfl) | (rw [ag]; rfl) | (rw [aj, ah]; rfl) | (rw [ag, ah]; rfl)⟩ (by omega) (by assumption) (by assumption)) ?_
  refine aa g'2 ?_
  refine hn5 _ _ ?_
  refine cd false try_mixed [[0, 1, 2, 3, 4, 5, 6, 7, 8, 9, 10, 11, 12, 13, 14, 15, 16, 17], [0, 1, 2, 3, 4, 5, 6, 7, 8, 9, 10, 15, 11, 12, 13, 14, 16, 17]] (by kernel_rfl) (fun F2 H2 => F2 = [(0, .ptr (some (bz, 0))), (4, .int .i64 0), (5, .sl (some (H.length, 0)) ((cpL (co W Hh xs l sc ra 32)).length) none), (7, .ptr (some (H.length + 2, 0))), (8, .int .i64 0)] ∧ H2 = H ++ [.cells true 6 (r6 (cpL (co W Hh xs l sc ra 32))), .cells true 1 (ints .u8 o), .cells true 0 [.int .i64 W, .int .i64 Hh, .sl (some (H.length + 1, 0)) o.length none]]) ?_ ?_
  ·refine aC ?_ (aC ?_ (ce)) <;> intro J hJ
   ·skip
    refine aw g'2 ?_
    refine bV (by kernel_rfl) (by simp) (tt _ W Hh _ xs _ (cpL (co W Hh xs l sc ra 32)) _ sc ra o ⟨_, _, _, rfl, by first | exact hb0pp _ | exact hbpp⟩ ⟨_, _, _, by first | rfl | (rw [List.length_append]; done) | (rw [List.length_append]; rfl), by first | rfl | (rw [aj]; rfl) | (rw [ag]; rfl) | (rw [aj, ah]; rfl) | (rw [ag, ah]; rfl)⟩ ⟨_, _, _, rfl, by first | exact hb0q _ | exact hbq⟩ (by assumption) (by assumption) (by assumption)) ?_
    refine aw g'2 ?_
    refine aS (hJ _ _ ⟨_, _, _, ⟨rfl, rfl⟩, Abs.byG hbel [] rfl [1, 2, 3] (by decide) ?_⟩)
    exact aD (jn @bx (jn @bk (jn @bW @bA)))
   ·skip
    refine aw g'2 ?_
    refine bV (by kernel_rfl) (by simp) (tt _ W Hh _ xs _ (cpL (co W Hh xs l sc ra 32)) _ sc ra o ⟨_, _, _, rfl, by first | exact hb0pp _ | exact hbpp⟩ ⟨_, _, _, by first | rfl | (rw [List.length_append]; done) | (rw [List.length_append]; rfl), by first | rfl | (rw [aj]; rfl) | (rw [ag]; rfl) | (rw [aj, ah]; rfl) | (rw [ag, ah]; rfl)⟩ ⟨_, _, _, rfl, by first | exact hb0q _ | exact hbq⟩ (by assumption) (by assumption) (by assumption)) ?_
    refine aw g'2 ?_
    refine aS (hJ _ _ ⟨_, _, _, ⟨rfl, rfl⟩, Abs.byG hbel [] rfl [1, 3, 2] (by decide) ?_⟩)
    exact aD (jn @bx (jn @bk (jn @bW @bA)))
  rintro F2 H2 ⟨rfl, rfl⟩
  refine aN fun Q6 hn6 hr6 he6 => ?_
  have hQ6 := fun F H' h => hr6 F H' (hQ F H' h)
  refine aI false try_mixed (by kernel_rfl) ?_
  have g'3 := (jn @bM (jn @dw (jn @ck (jn @cZ g'2))))
  refine aa g'3 ?_
  refine hn6 _ _ ?_
  refine cd false try_mixed [[0, 1, 2, 3, 4, 5, 6, 7, 8, 9], [0, 1, 2, 4, 5, 6, 3, 7, 8, 9]] (by kernel_rfl) (fun F2 H2 => F2 = [(4, .int .i64 0)] ∧ H2 = H.set bz (.cells true 0 [.int .i64 W, .int .i64 Hh, .sl (some (H.length + 1, 0)) o.length none, .sl (some (H.length, 0)) ((cpL (co W Hh xs l sc ra 32)).length) none, .int .i64 tu, .int .i64 le, .int .i64 sl, .int .i64 ra, .bool false]) ++ [.cells true 6 (r6 (cpL (co W Hh xs l sc ra 32))), .cells true 1 (ints .u8 o)]) ?_ ?_
  ·refine aC ?_ (aC ?_ (ce)) <;> intro J hJ
   ·skip
    have g'4 := (jn @hblz (jn @ep (jn @eU (jn @fx (jn @eN (jn @fG (jn @gF (jn @fH (jn @gG (jn @List.length_set.{0} (jn @List.set_set.{0} g'3)))))))))))
    refine aw g'4 ?_
    refine aS (hJ _ _ ⟨_, _, _, ⟨rfl, rfl⟩, Abs.byP (b1 := .cells true 0 [.int .i64 W, .int .i64 Hh, .sl (some (H.length + 1, 0)) o.length none, .sl (some (H.length, 0)) ((cpL (co W Hh xs l sc ra 32)).length) none, .int .i64 tu, .int .i64 le, .int .i64 sl, .int .i64 ra, .bool false]) (l1 := [.cells true 6 (r6 (cpL (co W Hh xs l sc ra 32))), .cells true 1 (ints .u8 o), .cells true 0 [.int .i64 W, .int .i64 Hh, .sl (some (H.length + 1, 0)) o.length none]]) (.cells true 0 [.int .i64 W, .int .i64 Hh, .sl (some (H.length + 1, 0)) o.length none, .sl (some (H.length, 0)) ((cpL (co W Hh xs l sc ra 32)).length) none, .int .i64 tu, .int .i64 le, .int .i64 sl, .int .i64 ra, .bool false]) hbel hblz (by first | rfl | simp) [] rfl [0, 1] (by decide) ?_⟩)
    exact aD (jn @hblpp (jn @hbls (jn @hblz (jn @hblq (jn @bx (jn @bk (jn @bW @bA)))))))
   ·skip
    have g'5 := (jn @hblz (jn @ep (jn @eU (jn @fx (jn @eN (jn @fG (jn @gF (jn @fH (jn @gG (jn @List.length_set.{0} (jn @List.set_set.{0} g'3)))))))))))
    refine aw g'5 ?_
    refine aS (hJ _ _ ⟨_, _, _, ⟨rfl, rfl⟩, Abs.byP (b1 := .cells true 0 [.int .i64 W, .int .i64 Hh, .sl (some (H.length + 1, 0)) o.length none, .sl (some (H.length, 0)) ((cpL (co W Hh xs l sc ra 32)).length) none, .int .i64 tu, .int .i64 le, .int .i64 sl, .int .i64 ra, .bool false]) (l1 := [.cells true 6 (r6 (cpL (co W Hh xs l sc ra 32))), .cells true 1 (ints .u8 o), .cells true 0 [.int .i64 W, .int .i64 Hh, .sl (some (H.length + 1, 0)) o.length none]]) (.cells true 0 [.int .i64 W, .int .i64 Hh, .sl (some (H.length + 1, 0)) o.length none, .sl (some (H.length, 0)) ((cpL (co W Hh xs l sc ra 32)).length) none, .int .i64 tu, .int .i64 le, .int .i64 sl, .int .i64 ra, .bool false]) hbel hblz (by first | rfl | simp) [] rfl [0, 1] (by decide) ?_⟩)
    exact aD (jn @hblpp (jn @hbls (jn @hblz (jn @hblq (jn @bx (jn @bk (jn @bW @bA)))))))
  rintro F2 H2 ⟨rfl, rfl⟩
  refine aI false try_mixed (by kernel_rfl) ?_
  have g'6 := (jn @hblz (jn @ep (jn @eU (jn @fx (jn @eN (jn @fG (jn @gF (jn @fH (jn @gG (jn @List.length_set.{0} (jn @List.set_set.{0} g'3)))))))))))
  refine aa g'6 ?_
  refine hQ _ _ (ia (b1 := .cells true 0 [.int .i64 W, .int .i64 Hh, .sl (some (H.length + 1, 0)) o.length none, .sl (some (H.length, 0)) ((cpL (co W Hh xs l sc ra 32)).length) none, .int .i64 tu, .int .i64 le, .int .i64 sl, .int .i64 ra, .bool false]) (.cells true 0 [.int .i64 W, .int .i64 Hh, .sl (some (H.length, 0)) o.length none, .sl (some (H.length + 1, 0)) ((cpL (co W Hh xs l sc ra 32)).length) none, .int .i64 tu, .int .i64 le, .int .i64 sl, .int .i64 ra, .bool false]) (l1 := [.cells true 6 (r6 (cpL (co W Hh xs l sc ra 32))), .cells true 1 (ints .u8 o)]) (l2 := [.cells true 1 (ints .u8 o), .cells true 6 (r6 (cpL (co W Hh xs l sc ra 32)))]) (.inl rfl) hbel hblz (by first | rfl | simp) (x1 := .int .i64 0) (.int .i64 0) (ai Tryz.results21) [] rfl [1, 0] (by decide) ⟨rfl, rfl⟩ ?_)
  exact aV (jn @bA (jn @d8 (jn @hblpp (jn @hbls (jn @hblz @hblq)))))
open Go.RowKit
open Go.RowKit
open Go.RowKit
theorem IsI.parts {H : ac} {k : IntKind} {s : AV} {l : List Int} (h : IsI H k s l) : ∃ a c, s = .sl a l.length c := by
 rcases h with ⟨rfl, rfl⟩ | ⟨b, own, cap, rfl, hb⟩
 ·exact ⟨_, _, rfl⟩
 ·exact ⟨_, _, rfl⟩
def bys (xs : List Int) : List UInt8 := xs.map fun n => UInt8.ofNat n.toNat
theorem bys_map : ∀ xs : List Int, (ints .u8 xs).mapM iI = some (bys xs)
 | [] => rfl
 | x :: xs => by
  have ih := bys_map xs
  show (AV.int .u8 x :: ints .u8 xs).mapM iI = _
  rw [List.mapM_cons, ih]
  rfl
theorem need_pos {p : Prop} [Decidable p] (h : p) : bj p = some () := by unfold bj; rw [if_pos h]
theorem lI {H : ac} {s : AV} {xs : List Int} (hs : IsI H .u8 s xs) : aE Tryz.prog 22 9 s H = some (.str (bys xs)) := by
 have h1 := bys_map xs
 have key : ∀ a n c, aElems 1 (.sl a n c) H = some (n, ints .u8 xs) → aE Tryz.prog 22 9 (.sl a n c) H = some (.str (bys xs)) := fun a n c he => by
  unfold aE
  simp only [lX, Option.bind_some]
  rw [need_pos ⟨tInt5, by kernel_rfl⟩, Option.bind_some, he, Option.bind_some]
  simp only [h1, Option.map_some]
 rcases hs with ⟨rfl, rfl⟩ | ⟨b, own, cap, rfl, hb⟩
 ·exact key none 0 (some 0) rfl
 ·refine key _ _ _ ?_
  unfold aElems ards
  simp only [hb]
  rw [if_pos (by rw [ck]; omega), List.drop_zero, List.take_of_length_le (by rw [ck]; omega)]
  rfl
set_option maxRecDepth 100000 in
theorem plans_c (H : ac) (W Hh : Int) (xs : List Int) (s1 s2 : AV) (h1 : IsI H .u8 s1 xs) (h2 : IsI H .u8 s2 xs) : ACalls Tryz.prog 13 [.agg [.int .i64 W, .int .i64 Hh, s1], .agg [.int .i64 W, .int .i64 Hh, s2]] H (fun v H' => v = .bool true ∧ H' = H) := by
 have hc1 := fun l => lI (h1.app l)
 have hc2 := fun l => lI (h2.app l)
 obtain ⟨a1, c1, rfl⟩ := h1.parts
 obtain ⟨a2, c2, rfl⟩ := h2.parts
 refine AcT true Tryz.func13 ?_; intro hbel Q hQ
 simp -implicitDefEqProofs (disch := omega) only [hc1, hc2, simprocAttr, aF, aG, Function.comp_apply, one1, lenV, ap, az, aA, aop, AV.ofValue, AV.ofCell, AV.cells, AV.flat, AV.one, arep, aP, av]
 exact hQ _ _ (ae (.inl rfl) hbel (x := .bool true) (ai Tryz.results13) rfl ⟨rfl, rfl⟩)
theorem kF (H : ac) (W Hh W2 Hh2 : Int) (xs ys : List Int) (s1 s2 : AV) (h1 : Sl H 1 s1 xs.length (ints .u8 xs)) (h2 : Sl H 1 s2 ys.length (ints .u8 ys)) (e1 : W = W2) (e2 : Hh = Hh2) (e3 : xs = ys) : ACalls Tryz.prog 13 [.agg [.int .i64 W, .int .i64 Hh, s1], .agg [.int .i64 W2, .int .i64 Hh2, s2]] H (fun v H' => v = .bool true ∧ H' = H) := by
 subst e1 e2 e3
 exact plans_c H W Hh xs s1 s2 (.inr h1) (.inr h2)
open Go.RowKit
open Go.RowKit
def laL : List T6 := [(32, 32, 32, 32, 0, 1), (33, 32, 33, 32, 0, 1), (34, 32, 34, 32, 0, 1), (35, 32, 35, 32, 0, 1), (36, 32, 36, 32, 0, 1), (37, 32, 37, 32, 0, 1), (38, 32, 38, 32, 0, 1), (39, 32, 39, 32, 0, 1), (40, 32, 40, 32, 0, 1)]
theorem la_1 : co 4 1 [0,0,0,0] [(32,32,40,32,0,1)] [(0,160)] 4 32 = laL := by decide +kernel
theorem la_2 : cpL laL = laL := by decide +kernel
theorem la_tau : fm laL = true := by decide +kernel
theorem la_all : aM 4 1 laL [(0, 160)] 4 = [(0, 0), (1, 0), (2, 0)] := by rw [all_put]; decide +kernel
theorem la_sus : bh laL 0 160 4 = [(2, 0), (3, 0)] := by rw [sus_put]; decide +kernel
theorem la_ln : lnO 4 1 [0, 0, 0, 0] laL [(0, 160)] 4 = some [1, 1, 1, 2] := by
 unfold lnO echL
 rw [if_pos la_tau, la_all]
 show Option.bind _ (fM 4 1 [bh laL 0 160 4]) = _
 rw [la_sus]; decide +kernel
theorem la_v : cl 4 1 [0, 0, 0, 0] = true := by decide +kernel
theorem la_l : lsB [(32, 32, 40, 32, 0, 1)] = true := by decide +kernel
theorem la_b : cu 0 0 0 4 = true := by decide +kernel
theorem la_s1 : bX [(32, 32, 40, 32, 0, 1)] = true := by decide +kernel
theorem la_s2 : bX laL = true := by decide +kernel
theorem la_c1 : cw [(0, 160)] = true := by decide +kernel
theorem la_c2 : cw [(0, 3)] = true := by decide +kernel
theorem la_v2 : cl 4 1 [1, 1, 1, 2] = true := by decide +kernel
theorem la_vol : volS laL laL.length = 9 := by decide +kernel
theorem la_see1 (H : ac) (pp s q : AV) (bz : Nat) (hpp : Sl H 1 pp 4 (ints .u8 [0, 0, 0, 0])) (hs : Sl H 6 s 1 (r6 [(32, 32, 40, 32, 0, 1)])) (hz : H[bz]? = some (.cells true 0 [.int .i64 4, .int .i64 1, pp, s, .int .i64 0, .int .i64 0, .int .i64 0, .int .i64 4, .bool false])) (hq : Sl H 2 q 1 (prs [(0, 160)])) : ACalls Tryz.prog 21 [.ptr (some (bz, 0)), q] H (fun v H' => v = .int .i64 0 ∧ H' = H.set bz (.cells true 0 [.int .i64 4, .int .i64 1, .sl (some (H.length, 0)) 4 none, .sl (some (H.length + 1, 0)) laL.length none, .int .i64 0, .int .i64 0, .int .i64 0, .int .i64 4, .bool false]) ++ [.cells true 1 (ints .u8 [1, 1, 1, 2]), .cells true 6 (r6 laL)]) := by
 have k := lse_y H 4 1 pp [0, 0, 0, 0] s [(32, 32, 40, 32, 0, 1)] 0 0 0 4 bz q [(0, 160)] hpp hs hz hq la_v la_s1 (by decide) la_c1 (by decide) (by rw [la_1]; decide) [1, 1, 1, 2] (by rw [la_1, la_2]; exact la_ln) (by decide)
 rw [la_1, la_2] at k
 exact k
theorem la_volc (H : ac) (pp s : AV) (bz : Nat) (hpp : Sl H 1 pp 4 (ints .u8 [1, 1, 1, 2])) (hs : Sl H 6 s laL.length (r6 laL)) (hz : ∃ o, H[bz]? = some (.cells o 0 [.int .i64 4, .int .i64 1, pp, s, .int .i64 0, .int .i64 0, .int .i64 0, .int .i64 4, .bool false])) : ACalls Tryz.prog 25 [.ptr (some (bz, 0))] H (fun v H' => v = .int .i64 9 ∧ H' = H) := by
 have k := lvol_c H 4 1 pp [1, 1, 1, 2] s laL 0 0 0 4 false bz hpp hs hz (by decide) (by decide)
 rw [la_vol] at k
 exact k
open Go.RowKit
theorem evOk.app {H : ac} {l : List Ev} (h : evOk H l) (L : ac) : evOk (H ++ L) l := fun e he => ⟨(h e he).1.app L, (h e he).2⟩
def laM : List T6 := [(42, 32, 42, 32, 0, 1), (43, 32, 43, 32, 0, 1), (44, 32, 44, 32, 0, 1), (45, 32, 45, 32, 0, 1), (46, 32, 46, 32, 0, 1), (47, 32, 47, 32, 0, 1), (48, 32, 48, 32, 0, 1), (49, 32, 49, 32, 0, 1), (50, 32, 50, 32, 0, 1)]
theorem lb_im : imA laL 0 (stF false 10) 0 0 0 = true := by decide +kernel
theorem lb_is : imS laL 0 (stF false 10) 0 0 0 laL.length = laM := by decide +kernel
theorem lb_r : co 4 1 [1, 1, 1, 2] laM [(0, 3)] 4 32 = [] := by decide +kernel
theorem lb_s : bX laM = true := by decide +kernel
theorem lb_c1 : dt 0 10 = true := by decide +kernel
theorem lb_c2 : dt 0 0 = true := by decide +kernel
theorem lb_h : hulN laM (laM.length - 1) = (42, 32, 50, 32, 0, 1) := by decide +kernel
theorem lb_m : lsB [(100, 32, 100, 32, 0, 1)] = true := by decide +kernel
theorem lb_v : volS [(100, 32, 100, 32, 0, 1)] ([(100, 32, 100, 32, 0, 1)] : List T6).length = 1 := by decide +kernel
open Go.RowKit
open Go.RowKit
theorem rem_n2 (a : Nat) : Int.tmod (a : Int) 2 = ((a % 2 : Nat) : Int) := rfl
theorem rem_n4 (a : Nat) : Int.tmod (a : Int) 4 = ((a % 4 : Nat) : Int) := rfl
def bdM (n : Nat) : Nat := (((n : Nat) : Int) % 12).toNat
theorem bd_ok (n : Nat) : cu (((bdM n % 2 : Nat) : Int)) (((bdM n % 3 : Nat) : Int)) (((bdM n % 4 : Nat) : Int)) (1 + ((bdM n : Nat) : Int)) = true := by
 have h : bdM n < 12 := by unfold bdM; omega
 simp only [cu, Bool.and_eq_true, bN]
 omega
theorem bds_c (H : ac) (n : Nat) (hn : n ≤ 9223372036854775807) : ACalls Tryz.prog 15 [.int .i64 ((n : Nat) : Int)] H (fun v H' => v = .agg [.int .i64 ((bdM n % 2 : Nat) : Int), .int .i64 ((bdM n % 3 : Nat) : Int), .int .i64 ((bdM n % 4 : Nat) : Int), .int .i64 (1 + ((bdM n : Nat) : Int))] ∧ H' = H) := by
 refine AcT true Tryz.func15 ?_; intro hbel Q hQ
 have g'1 := (jn @rem_n2 (jn @rem_n3 @rem_n4))
 refine aa g'1 ?_
 refine af (by kernel_rfl) (bmod_c _ ((n : Nat) : Int) 12 (by omega) (by omega)) ?_
 refine aa g'1 ?_
 exact hQ _ _ (ae (.inl rfl) hbel (x := .agg [.int .i64 ((((((n : Nat) : Int) % 12).toNat) % 2 : Nat) : Int), .int .i64 ((((((n : Nat) : Int) % 12).toNat) % 3 : Nat) : Int), .int .i64 ((((((n : Nat) : Int) % 12).toNat) % 4 : Nat) : Int), .int .i64 (1 + (((((n : Nat) : Int) % 12).toNat : Nat) : Int))]) (ai Tryz.results15) rfl ⟨rfl, rfl⟩)
theorem bxs_c (H : ac) (s : AV) (l : List T6) (q : AV) (hs : Sl H 6 s l.length (r6 l)) (hq : Sl H 6 q l.length (r6 l)) (hl : l.length ≤ 1000000000) : ACalls Tryz.prog 11 [s, q] H (fun v H' => v = .bool true ∧ H' = H) := by
 obtain ⟨bs, os, cs, rfl, hbs⟩ := hs
 have hbls := getElem?_lt hbs
 have hb0s := fun l => aq (l := l) hbs
 obtain ⟨bq, oq, cq, rfl, hbq⟩ := hq
 have hblq := getElem?_lt hbq
 have hb0q := fun l => aq (l := l) hbq
 refine AcT true Tryz.func11 ?_; intro hbel Q hQ
 have g'2 := (jn @hbs (jn @hb0s (jn @hbq @hb0q)))
 refine aa g'2 ?_
 refine go_loop try_mixed (by kernel_rfl) (fun k F Hx => ∃ i : Nat, i + k = l.length ∧ F = [(0, .sl (some (bs, 0)) l.length cs), (1, .sl (some (bq, 0)) l.length cq), (5, .int .i64 ((i : Nat) : Int))] ∧ H = Hx) (l.length) ?_ ?_
 ·refine ⟨_, _, _, ⟨0, by omega, rfl, rfl⟩, Abs.by0 hbel ?_⟩
  exact aW
 ·rintro k0 F Hx ⟨i, hm0, rfl, rfl⟩ J0 hJ0
  refine aa g'2 ?_
  refine ak (fun h1 => ?_) (fun h1 => ?_)
  ·have h1d := bsT h1
   have hlt : i < l.length := by omega
   have q2 := cD (l := l) (j := i) (by omega)
   have q3 := cD (l := l) (j := i) (by omega)
   have g'3 := (jn @h1 (jn @h1d (jn @bM (jn @q2 (jn @q3 g'2)))))
   refine aa g'3 ?_
   refine hJ0 _ _ ⟨k0 - 1, by omega, _, _, _, ⟨i + 1, by omega, rfl, rfl⟩, Abs.by0 hbel ?_⟩
   exact aW
  ·have h1d := bsT h1
   have g'4 := (jn @h1 (jn @h1d g'2))
   refine aa g'4 ?_
   exact hQ _ _ (au (.inl rfl) hbel (x := .bool true) (ai Tryz.results11) rfl ⟨rfl, rfl⟩)
theorem bxs_e (H : ac) (s : AV) (l : List T6) (q : AV) (m : List T6) (he : l = m) (hs : Sl H 6 s l.length (r6 l)) (hq : Sl H 6 q m.length (r6 m)) (hl : l.length ≤ 1000000000) : ACalls Tryz.prog 11 [s, q] H (fun v H' => v = .bool true ∧ H' = H) := by
 subst he; exact bxs_c H s l q hs hq hl
theorem lcl_n (H : ac)  : ACalls Tryz.prog 23 [.ptr none] H (fun v H' => v = .ptr none ∧ H' = H) := by
 (refine bF Tryz.func23 _ rfl (Nat.le_of_ble_eq_true (by kernel_rfl)) rfl ?_; intro hbel Q hQ hQ' c hc; unfold Tryz.f23 at hc; simp only [Option.some.injEq] at hc; subst hc; clear hQ')
 refine aN fun Q1 hn1 hr1 he1 => ?_
 have hQ1 := fun F H' h => hr1 F H' (hQ F H' h)
 refine aI false try_mixed (by kernel_rfl) ?_
 have g'5 := (jn @Option.isNone_none.{0} trivial)
 refine aa g'5 ?_
 refine hn1 _ _ ?_
 refine aN fun Q2 hn2 hr2 he2 => ?_
 have hQ2 := fun F H' h => hr2 F H' (hQ F H' h)
 refine aI false try_mixed (by kernel_rfl) ?_
 refine aa g'5 ?_
 exact hQ2 _ _ (au (.inl rfl) hbel (x := .ptr none) (ai Tryz.results23) rfl ⟨rfl, rfl⟩)
theorem lls_n (H : ac)  : ACalls Tryz.prog 24 [.ptr none] H (fun v H' => v = .bool false ∧ H' = H) := by
 refine AcT true Tryz.func24 ?_; intro hbel Q hQ
 have g'6 := (jn @Option.isNone_none.{0} trivial)
 refine aa g'6 ?_
 exact hQ _ _ (au (.inl rfl) hbel (x := .bool false) (ai Tryz.results24) rfl ⟨rfl, rfl⟩)
theorem lst_n (H : ac)  : ACalls Tryz.prog 12 [.ptr none] H (fun v H' => v = .sl none 0 (some 0) ∧ H' = H) := by
 refine AcT true Tryz.func12 ?_; intro hbel Q hQ
 have g'7 := (jn @Option.isNone_none.{0} trivial)
 refine aa g'7 ?_
 exact hQ _ _ (au (.inl rfl) hbel (x := .sl none 0 (some 0)) (ai Tryz.results12) rfl ⟨rfl, rfl⟩)
theorem lvl_n (H : ac)  : ACalls Tryz.prog 25 [.ptr none] H (fun v H' => v = .int .i64 0 ∧ H' = H) := by
 refine AcT true Tryz.func25 ?_; intro hbel Q hQ
 have g'8 := (jn @Option.isNone_none.{0} trivial)
 refine aa g'8 ?_
 refine af (by kernel_rfl) (lst_n _) ?_
 refine aa g'8 ?_
 refine go_loop try_mixed (by kernel_rfl) (fun k F Hx => ∃ z : Unit, k = 0 ∧ F = [(3, .int .i64 0), (7, .sl none 0 (some 0)), (8, .int .i64 0), (9, .int .i64 0)] ∧ H = Hx) (0) ?_ ?_
 ·refine ⟨_, _, _, ⟨(), by omega, rfl, rfl⟩, Abs.by0 hbel ?_⟩
  exact aW
 ·rintro k0 F Hx ⟨z, hm0, rfl, rfl⟩ J0 hJ0
  refine aa g'8 ?_
  exact hQ _ _ (au (.inl rfl) hbel (x := .int .i64 0) (ai Tryz.results25) rfl ⟨rfl, rfl⟩)
theorem lse_n (H : ac)   : ACalls Tryz.prog 21 [.ptr none, .sl none 0 (some 0)] H (fun v H' => v = .int .i64 1 ∧ H' = H) := by
 (refine bF Tryz.func21 _ rfl (Nat.le_of_ble_eq_true (by kernel_rfl)) rfl ?_; intro hbel Q hQ hQ' c hc; unfold Tryz.f21 at hc; simp only [Option.some.injEq] at hc; subst hc; clear hQ')
 refine aN fun Q3 hn3 hr3 he3 => ?_
 have hQ3 := fun F H' h => hr3 F H' (hQ F H' h)
 refine aI true try_mixed (by kernel_rfl) ?_
 have g'9 := (jn @Option.isNone_none.{0} trivial)
 refine aa g'9 ?_
 refine hn3 _ _ ?_
 refine aN fun Q4 hn4 hr4 he4 => ?_
 have hQ4 := fun F H' h => hr4 F H' (hQ F H' h)
 refine aI true try_mixed (by kernel_rfl) ?_
 refine aa g'9 ?_
 exact hQ4 _ _ (au (.inl rfl) hbel (x := .int .i64 1) (ai Tryz.results21) rfl ⟨rfl, rfl⟩)
end Go.Proofs.YtidlfjajjieepaaGreat
