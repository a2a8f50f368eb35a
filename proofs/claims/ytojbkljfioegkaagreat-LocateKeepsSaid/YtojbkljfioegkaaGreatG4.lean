/- Parts of the proof: walks and plain facts. Conditions: as each theorem states. -/
import Derived.Test.YtojbkljfioegkaaGreatG3
import Derived.Test.YtojbkljfioegkaaGreatG2
namespace Go.Proofs.YtojbkljfioegkaaGreat
set_option linter.unusedSimpArgs false
set_option linter.unusedVariables false
open Go.RowKit
set_option maxHeartbeats 4000000
set_option maxRecDepth 100000
theorem with_c (H : ac) (x0 : Int) (y0 : Int) (x1 : Int) (y1 : Int) (f : Int) (c : Int) : ACalls Tryz.prog 154 [.agg [.int .i64 x0, .int .i64 y0, .int .i64 x1, .int .i64 y1], .agg [.int .i64 f, .int .i64 c]] H (fun v H' => v = .agg [.int .i64 x0, .int .i64 y0, .int .i64 x1, .int .i64 y1, .int .i64 f, .int .i64 c] ∧ H' = H) := by
 refine AcT true Tryz.func154 ?_; intro hbel Q hQ
 refine bi ?_
 exact hQ _ _ (ai (.inl rfl) hbel (x := .agg [.int .i64 x0, .int .i64 y0, .int .i64 x1, .int .i64 y1, .int .i64 f, .int .i64 c]) (av Tryz.results154) rfl ⟨rfl, rfl⟩)
theorem bhull_c (H : ac) (x0 : Int) (y0 : Int) (x1 : Int) (y1 : Int) (f : Int) (c : Int) (u0 : Int) (v0 : Int) (u1 : Int) (v1 : Int) (fb : Int) (cb : Int) (ha : bxB x0 y0 x1 y1 f c = true) (hb : bxB u0 v0 u1 v1 fb cb = true) : ACalls Tryz.prog 110 [.agg [.int .i64 x0, .int .i64 y0, .int .i64 x1, .int .i64 y1, .int .i64 f, .int .i64 c], .agg [.int .i64 u0, .int .i64 v0, .int .i64 u1, .int .i64 v1, .int .i64 fb, .int .i64 cb]] H (fun v H' => v = .tup [.agg [.int .i64 (mnI x0 u0), .int .i64 (mnI y0 v0), .int .i64 (mxI x1 u1), .int .i64 (mxI y1 v1), .int .i64 ((cw f c fb cb).1), .int .i64 ((cw f c fb cb).2)], .int .i64 0] ∧ H' = H) := by
 have ka := (bY.1 ha).2.2
 have kb := (bY.1 hb).2.2
 (refine bK Tryz.func110 _ rfl (Nat.le_of_ble_eq_true (by kernel_rfl)) rfl ?_; intro hbel Q hQ hQ' c hc; unfold Tryz.f110 at hc; simp only [Option.some.injEq] at hc; subst hc; clear hQ')
 refine jo false try_mixed (by kernel_rfl) (fun F Hx => look F 2 = .ptr (some (H.length, 0)) ∧ look F 3 = .ptr (some (H.length + 1, 0)) ∧ look F 4 = .ptr (some (H.length + 2, 0)) ∧ look F 5 = .int .i64 0 ∧ Hx = H ++ [.cells true 0 [.int .i64 x0, .int .i64 y0, .int .i64 x1, .int .i64 y1, .int .i64 f, .int .i64 c], .cells true 0 [.int .i64 u0, .int .i64 v0, .int .i64 u1, .int .i64 v1, .int .i64 fb, .int .i64 cb], .cells true 0 [.int .i64 0, .int .i64 0, .int .i64 0, .int .i64 0, .int .i64 0, .int .i64 0]]) ?_ ?_
 ·skip
  have g'1 := (jn @ha @hb)
  refine aa g'1 ?_
  refine aZ ?_
  exact absT
 rintro F Hx ⟨f1, f2, f3, f4, rfl⟩
 refine jo false try_mixed (by kernel_rfl) (fun F Hx => look F 2 = .ptr (some (H.length, 0)) ∧ look F 3 = .ptr (some (H.length + 1, 0)) ∧ look F 4 = .ptr (some (H.length + 2, 0)) ∧ look F 5 = .int .i64 0 ∧ Hx = H ++ [.cells true 0 [.int .i64 x0, .int .i64 y0, .int .i64 x1, .int .i64 y1, .int .i64 f, .int .i64 c], .cells true 0 [.int .i64 u0, .int .i64 v0, .int .i64 u1, .int .i64 v1, .int .i64 fb, .int .i64 cb], .cells true 0 [.int .i64 0, .int .i64 0, .int .i64 0, .int .i64 0, .int .i64 0, .int .i64 0]]) ?_ ?_
 ·skip
  have g'2 := (jn @f1 (jn @f2 (jn @f3 (jn @f4 (jn @ha @hb)))))
  refine aa g'2 ?_
  refine aj (by kernel_rfl) (eo _ x0 y0 x1 y1 f c) ?_
  refine aa g'2 ?_
  refine aj (by kernel_rfl) (eo _ u0 v0 u1 v1 fb cb) ?_
  refine aa g'2 ?_
  refine aZ ?_
  exact absTf (jn @f1 (jn @f2 (jn @f3 @f4)))
 rintro F Hx ⟨f5, f6, f7, f8, rfl⟩
 refine cm false try_mixed [[0, 1, 2, 3, 4, 5, 6, 7, 8, 9, 10], [0, 1, 2, 3, 8, 4, 5, 6, 7, 9, 10], [0, 1, 2, 8, 3, 4, 5, 6, 7, 9, 10], [0, 2, 8, 1, 3, 4, 5, 6, 7, 9, 10]] (by kernel_rfl) (fun F2 H2 => F2 = [(2, .ptr (some (H.length, 0))), (3, .ptr (some (H.length + 1, 0))), (4, .ptr (some (H.length + 2, 0))), (5, .int .i64 0), (6, .ptr (some (H.length + 3, 0)))] ∧ H2 = H ++ [.cells true 0 [.int .i64 x0, .int .i64 y0, .int .i64 x1, .int .i64 y1, .int .i64 f, .int .i64 c], .cells true 0 [.int .i64 u0, .int .i64 v0, .int .i64 u1, .int .i64 v1, .int .i64 fb, .int .i64 cb], .cells true 0 [.int .i64 0, .int .i64 0, .int .i64 0, .int .i64 0, .int .i64 0, .int .i64 0], .cells true 0 [.int .i64 ((cw f c fb cb).1), .int .i64 ((cw f c fb cb).2)]]) ?_ ?_
 ·refine aR ?_ (aR ?_ (aR ?_ (aR ?_ (cn)))) <;> intro J hJ
  ·skip
   have g'3 := (jn @f1 (jn @f2 (jn @f3 (jn @f4 (jn @f5 (jn @f6 (jn @f7 (jn @f8 (jn @ha @hb)))))))))
   refine aM g'3 ?_
   refine aP (by kernel_rfl) (eZ _ x0 y0 x1 y1 f c) ?_
   refine aM g'3 ?_
   refine aP (by kernel_rfl) (eZ _ u0 v0 u1 v1 fb cb) ?_
   refine aM g'3 ?_
   refine aP (by kernel_rfl) (jv _ f c fb cb (by assumption) (by assumption)) ?_
   refine aM g'3 ?_
   refine aZ (hJ _ _ ⟨_, _, _, ⟨rfl, rfl⟩, Abs.byG hbel [] rfl [0, 1, 2, 3] (by decide) ?_⟩)
   exact bl (jn @f1 (jn @f2 (jn @f3 (jn @f4 (jn @f5 (jn @f6 (jn @f7 @f8)))))))
  ·skip
   have g'4 := (jn @f1 (jn @f2 (jn @f3 (jn @f4 (jn @f5 (jn @f6 (jn @f7 (jn @f8 (jn @ha @hb)))))))))
   refine aM g'4 ?_
   refine aP (by kernel_rfl) (eZ _ x0 y0 x1 y1 f c) ?_
   refine aM g'4 ?_
   refine aP (by kernel_rfl) (eZ _ u0 v0 u1 v1 fb cb) ?_
   refine aM g'4 ?_
   refine aP (by kernel_rfl) (jv _ f c fb cb (by assumption) (by assumption)) ?_
   refine aM g'4 ?_
   refine aZ (hJ _ _ ⟨_, _, _, ⟨rfl, rfl⟩, Abs.byG hbel [] rfl [0, 1, 2, 3] (by decide) ?_⟩)
   exact bl (jn @f1 (jn @f2 (jn @f3 (jn @f4 (jn @f5 (jn @f6 (jn @f7 @f8)))))))
  ·skip
   have g'5 := (jn @f1 (jn @f2 (jn @f3 (jn @f4 (jn @f5 (jn @f6 (jn @f7 (jn @f8 (jn @ha @hb)))))))))
   refine aM g'5 ?_
   refine aP (by kernel_rfl) (eZ _ x0 y0 x1 y1 f c) ?_
   refine aM g'5 ?_
   refine aP (by kernel_rfl) (eZ _ u0 v0 u1 v1 fb cb) ?_
   refine aM g'5 ?_
   refine aP (by kernel_rfl) (jv _ f c fb cb (by assumption) (by assumption)) ?_
   refine aM g'5 ?_
   refine aZ (hJ _ _ ⟨_, _, _, ⟨rfl, rfl⟩, Abs.byG hbel [] rfl [0, 1, 2, 3] (by decide) ?_⟩)
   exact bl (jn @f1 (jn @f2 (jn @f3 (jn @f4 (jn @f5 (jn @f6 (jn @f7 @f8)))))))
  ·skip
   have g'6 := (jn @f1 (jn @f2 (jn @f3 (jn @f4 (jn @f5 (jn @f6 (jn @f7 (jn @f8 (jn @ha @hb)))))))))
   refine aM g'6 ?_
   refine aP (by kernel_rfl) (eZ _ x0 y0 x1 y1 f c) ?_
   refine aM g'6 ?_
   refine aP (by kernel_rfl) (eZ _ u0 v0 u1 v1 fb cb) ?_
   refine aM g'6 ?_
   refine aP (by kernel_rfl) (jv _ f c fb cb (by assumption) (by assumption)) ?_
   refine aM g'6 ?_
   refine aZ (hJ _ _ ⟨_, _, _, ⟨rfl, rfl⟩, Abs.byG hbel [] rfl [0, 1, 2, 3] (by decide) ?_⟩)
   exact bl (jn @f1 (jn @f2 (jn @f3 (jn @f4 (jn @f5 (jn @f6 (jn @f7 @f8)))))))
 rintro F2 H2 ⟨rfl, rfl⟩
 refine aI false try_mixed (by kernel_rfl) ?_
 have g'7 := (jn @ha @hb)
 refine aa g'7 ?_
 refine aj (by kernel_rfl) (with_c _ (if u0 < x0 then u0 else x0) (if v0 < y0 then v0 else y0) (if x1 < u1 then u1 else x1) (if y1 < v1 then v1 else y1) ((cw f c fb cb).1) ((cw f c fb cb).2)) ?_
 refine aa g'7 ?_
 exact hQ _ _ (ai (.inl rfl) hbel (x := .tup [.agg [.int .i64 (if u0 < x0 then u0 else x0), .int .i64 (if v0 < y0 then v0 else y0), .int .i64 (if x1 < u1 then u1 else x1), .int .i64 (if y1 < v1 then v1 else y1), .int .i64 ((cw f c fb cb).1), .int .i64 ((cw f c fb cb).2)], .int .i64 0]) (av Tryz.results110) rfl ⟨rfl, rfl⟩)
open Go.RowKit
theorem arep_z {k : IntKind} {n : Nat} : (List.range n).map (fun j => ([.int k 0] : List AV).getD (j % 1) .any) = ints k (List.replicate n 0) := by
 rw [← bT]
 refine List.ext_getElem (by simp) fun i h1 h2 => ?_
 simp [Nat.mod_one]
def eL (f : Int) (n i : Nat) : List Int := bk f i ++ List.replicate (n - i) 0
theorem tW {f : Int} {n i : Nat} (h : i ≤ n) : (eL f n i).length = n := by unfold eL; rw [List.length_append, dT, List.length_replicate]; omega
theorem lisS_set {f : Int} {n i : Nat} (h : i < n) : (eL f n i).set i ((f + (i : Int)) % 256) = eL f n (i + 1) := by
 unfold eL
 obtain ⟨k, hk⟩ : ∃ k, n - i = k + 1 := ⟨n - i - 1, by omega⟩
 rw [hk, List.replicate_succ, List.set_append_right _ _ (by rw [dT]; exact Nat.le_refl _), dT, Nat.sub_self, List.set_cons_zero, mrkL_succ, List.append_assoc, show n - (i + 1) = k by omega]
 rfl
theorem lisS_0 (f : Int) (n : Nat) : eL f n 0 = List.replicate n 0 := rfl
theorem lisS_n (f : Int) (n : Nat) : eL f n n = bk f n := by unfold eL; rw [Nat.sub_self]; simp
theorem harc_c (H : ac) (f : Int) (n : Int) (hn : 1 ≤ n ∧ n ≤ 100000) : ACalls Tryz.prog 193 [.int .i64 f, .int .i64 n] H (fun v H' => v = .agg [.int .i64 (arcF f n), .int .i64 (cB n)] ∧ H' = H) := by
 refine AcT true Tryz.func193 ?_; intro hbel Q hQ
 refine bi ?_
 refine aq (fun h1 => ?_) (fun h1 => ?_)
 ·have h1d := bsT h1
  have g'1 := (jn @h1 @h1d)
  refine aa g'1 ?_
  exact hQ _ _ (ai (.inl rfl) hbel (x := .agg [.int .i64 0, .int .i64 256]) (av Tryz.results193) rfl ⟨by unfold arcF cB; first | (rw [if_pos (by omega), if_pos (by omega)]; done) | (rw [if_neg (by omega), if_neg (by omega), show (((f % 256).toNat : Nat) : Int) = f % 256 by omega]), rfl⟩)
 ·have h1d := bsT h1
  have g'2 := (jn @h1 @h1d)
  refine aa g'2 ?_
  refine aj (by kernel_rfl) (iV _ f) ?_
  refine aa g'2 ?_
  exact hQ _ _ (ai (.inl rfl) hbel (x := .agg [.int .i64 (((f % 256).toNat : Nat) : Int), .int .i64 n]) (av Tryz.results193) rfl ⟨by unfold arcF cB; first | (rw [if_pos (by omega), if_pos (by omega)]; done) | (rw [if_neg (by omega), if_neg (by omega), show (((f % 256).toNat : Nat) : Int) = f % 256 by omega]), rfl⟩)
theorem hshift_c (H : ac) (f : Int) (c : Int) (n : Int) (ha : cp f c = true) : ACalls Tryz.prog 159 [.agg [.int .i64 f, .int .i64 c], .int .i64 n] H (fun v H' => v = .tup [.agg [.int .i64 (shF f c n), .int .i64 (cB c)], .int .i64 0] ∧ H' = H) := by
 have ka := bS.1 ha
 refine AcT true Tryz.func159 ?_; intro hbel Q hQ
 have g'3 := @ha
 refine aa g'3 ?_
 refine aj (by kernel_rfl) (g4 _ f c) ?_
 refine aa g'3 ?_
 refine aP (by kernel_rfl) (iV _ n) ?_
 refine aa g'3 ?_
 refine aP (by kernel_rfl) (harc_c _ (f + (((n % 256).toNat : Nat) : Int)) c (by omega)) ?_
 refine aa g'3 ?_
 exact hQ _ _ (ai (.inl rfl) hbel (x := .tup [.agg [.int .i64 (arcF (f + (((n % 256).toNat : Nat) : Int)) c), .int .i64 (cB c)], .int .i64 0]) (av Tryz.results159) rfl ⟨rfl, rfl⟩)
theorem hgrow_c (H : ac) (f : Int) (c : Int) (n : Int) (ha : cp f c = true) (hn : 0 ≤ n ∧ n ≤ 256) : ACalls Tryz.prog 161 [.agg [.int .i64 f, .int .i64 c], .int .i64 n] H (fun v H' => v = .tup [.agg [.int .i64 (grF f c n), .int .i64 (grC c n)], .int .i64 0] ∧ H' = H) := by
 have ka := bS.1 ha
 refine AcT true Tryz.func161 ?_; intro hbel Q hQ
 have g'4 := @ha
 refine aa g'4 ?_
 refine aj (by kernel_rfl) (g4 _ f c) ?_
 refine aa g'4 ?_
 refine az (fun h1 => ?_) (fun h1 => ?_)
 ·have h1d := bsT h1
  have g'5 := (jn @h1 (jn @h1d g'4))
  refine aa g'5 ?_
  refine aq (fun h2 => ?_) (fun h2 => ?_)
  ·have h2d := bsT h2
   omega
  ·have h2d := bsT h2
   have g'6 := (jn @h2 (jn @h2d g'5))
   refine aa g'6 ?_
   refine aj (by kernel_rfl) (harc_c _ (f - n) (c + (2 * n)) (by omega)) ?_
   refine aa g'6 ?_
   exact hQ _ _ (ai (.inl rfl) hbel (x := .tup [.agg [.int .i64 (arcF (f - n) (c + (2 * n))), .int .i64 (cB (c + (2 * n)))], .int .i64 0]) (av Tryz.results161) rfl ⟨rfl, rfl⟩)
 ·have h1d := bsT h1
  omega
theorem lV (H : ac) (f : Int) (c : Int) (ha : cp f c = true) : ACalls Tryz.prog 123 [.agg [.int .i64 f, .int .i64 c]] H (fun v H' => v = .sl (some (H.length, 0)) ((bk f c.toNat).length) none ∧ H' = H ++ [.cells true 1 (ints .i64 (bk f c.toNat))]) := by
 have ka := bS.1 ha
 have harep := arep_z (k := .i64) (n := c.toNat)
 have hrt : ((c.toNat : Nat) : Int) = c := by omega
 refine AcT true Tryz.func123 ?_; intro hbel Q hQ
 have g'7 := (jn @ha (jn @harep @hrt))
 refine aa g'7 ?_
 refine aj (by kernel_rfl) (g4 _ f c) ?_
 have g'8 := (jn @bT (jn @List.length_replicate.{0} g'7))
 refine aa g'8 ?_
 refine go_loop try_mixed (by kernel_rfl) (fun k F Hx => ∃ i : Nat, i + k = c.toNat ∧ F = [(1, .ptr (some (H.length, 0))), (3, .sl (some (H.length + 1, 0)) ((eL f c.toNat i).length) none), (12, .int .i64 ((c.toNat : Nat) : Int)), (13, .int .i64 ((i : Nat) : Int))] ∧ Hx = H ++ [.cells true 0 [.int .i64 f, .int .i64 c], .cells true 1 (ints .i64 (eL f c.toNat i))]) (c.toNat) ?_ ?_
 ·refine ⟨_, _, _, ⟨0, by omega, rfl, rfl⟩, Abs.byG hbel [] rfl [0, 1] (by decide) ?_⟩
  exact aN (jn @lisS_0 (jn @List.length_replicate.{0} @hrt))
 ·rintro k0 F Hx ⟨i, hm0, rfl, rfl⟩ J0 hJ0
  have hln := tW (f := f) (n := c.toNat) (i := i) (by omega)
  have g'9 := (jn @aK (jn @aJ g'8))
  refine aa g'9 ?_
  refine aq (fun h1 => ?_) (fun h1 => ?_)
  ·have h1d := bsT h1
   have hln2 := tW (f := f) (n := c.toNat) (i := i + 1) (by omega)
   have hst : (eL f c.toNat i).set i ((((f + ((i : Nat) : Int)) % 256).toNat : Nat) : Int) = eL f c.toNat (i + 1) := by rw [show ((((f + ((i : Nat) : Int)) % 256).toNat : Nat) : Int) = (f + ((i : Nat) : Int)) % 256 by omega]; exact lisS_set (by omega)
   have g'10 := (jn @h1 (jn @h1d g'9))
   refine aa g'10 ?_
   refine aj (by kernel_rfl) (iV _ (f + ((i : Nat) : Int))) ?_
   have g'11 := (jn @iW (jn @List.length_set.{0} g'10))
   refine aa g'11 ?_
   refine hJ0 _ _ ⟨k0 - 1, by omega, _, _, _, ⟨i + 1, by omega, rfl, rfl⟩, Abs.byG hbel [] rfl [0, 1] (by decide) ?_⟩
   exact aN (jn @hst (jn @List.length_set.{0} (jn @hln (jn @hln2 @hrt))))
  ·have h1d := bsT h1
   obtain rfl : i = c.toNat := by omega
   have g'12 := (jn @h1 (jn @h1d g'9))
   refine aa g'12 ?_
   refine hQ _ _ (br (.inl rfl) hbel (x1 := .sl (some (H.length + 1, 0)) ((eL f c.toNat c.toNat).length) none) (l2 := [.cells true 1 (ints .i64 (eL f c.toNat c.toNat))]) (.sl (some (H.length, 0)) ((eL f c.toNat c.toNat).length) none) (av Tryz.results123) [] rfl [1] (by decide) ⟨by rw [lisS_n], by rw [lisS_n]⟩ ?_)
   exact bj
theorem rect_c (H : ac) (x0 : Int) (y0 : Int) (x1 : Int) (y1 : Int) (f : Int) (c : Int) (ha : bxB x0 y0 x1 y1 f c = true) : ACalls Tryz.prog 138 [.agg [.int .i64 x0, .int .i64 y0, .int .i64 x1, .int .i64 y1, .int .i64 f, .int .i64 c]] H (fun v H' => v = .agg [.int .i64 x0, .int .i64 y0, .int .i64 x1, .int .i64 y1] ∧ H' = H) := by
 refine AcT true Tryz.func138 ?_; intro hbel Q hQ
 have g'13 := @ha
 refine aa g'13 ?_
 refine aj (by kernel_rfl) (eo _ x0 y0 x1 y1 f c) ?_
 refine aa g'13 ?_
 exact hQ _ _ (ai (.inl rfl) hbel (x := .agg [.int .i64 x0, .int .i64 y0, .int .i64 x1, .int .i64 y1]) (av Tryz.results138) rfl ⟨rfl, rfl⟩)
open Go.RowKit
set_option maxRecDepth 100000 in
theorem idx_r (H : ac) (s : AV) (l : List T9) (hs : Sl H 9 s l.length (r9 l)) (hl : l.length ≤ 1000000000) (g : FuncId) (caps : List AV) (hok : dn Tryz.prog g = true) (hc : AV.bels H.length caps = true) (p : T9 → Bool) (hf : ∀ j, j < l.length → ACalls Tryz.prog g (.agg [.int .i64 (g91 l j), .int .i64 (g92 l j), .int .i64 (g93 l j), .int .i64 (g94 l j), .int .i64 (g95 l j), .int .i64 (g96 l j), .int .i64 (g97 l j), .int .i64 (g98 l j), .int .i64 (g99 l j)] :: caps) H (fun v H' => v = .bool (p (g91 l j, g92 l j, g93 l j, g94 l j, g95 l j, g96 l j, g97 l j, g98 l j, g99 l j)) ∧ H' = H)) :
  ACalls Tryz.prog 198 [s, .fn g caps] H (fun v H' => v = .int .i64 (ec p l) ∧ H' = H) := by
 obtain ⟨b, own, cap, rfl, hb⟩ := hs
 have hbl := getElem?_lt hb
 have hmv := fun m sel => fj (n := H.length) (m := m) (sel := sel) hc
 (refine cl try_mixed Tryz.func198 true _ rfl (Nat.le_of_ble_eq_true (by kernel_rfl)) (by kernel_rfl) ?_; intro hbel Q hQ hQ' c hc; unfold Tryz.f198 at hc; simp only [Option.some.injEq] at hc; subst hc; clear hQ')
 simp -implicitDefEqProofs (disch := omega) only [simprocAttr, ax, ay, Function.comp_apply, one1, lenV, af, am, ap, aop, AV.ofValue, AV.ofCell, AV.cells, AV.flat, AV.one, arep, aB, aH, aw]
 refine go_loop try_mixed (by kernel_rfl) (fun k F Hx => ∃ i : Nat, i + k = l.length ∧ (l.take i).any p = false ∧ F = [(0, .sl (some (b, 0)) l.length none), (1, .fn g caps), (7, .int .i64 l.length), (8, .int .i64 (i : Nat))] ∧ Hx = H) l.length ?_ ?_
 ·refine ⟨_, _, _, ⟨0, by omega, rfl, rfl, rfl⟩, Abs.by0 hbel ?_⟩
  exact bl @hmv
 ·rintro k F Hx ⟨i, hik, ht, rfl, rfl⟩ J hJ
  by_cases hi : i < l.length
  ·have hii : (i : Int) < (l.length : Int) := by omega
   have q1 := r9_load hi
   have hg := g9_eq hi
   simp -implicitDefEqProofs (disch := omega) only [hii, hb, q1, dC, iY, simprocAttr, ax, ay, Function.comp_apply, one1, lenV, af, am, ap, aop, AV.ofValue, AV.ofCell, AV.cells, AV.flat, AV.one, arep, aB, aH, aw]
   iterate 2 refine And.intro (by omega) ?_
   refine aj hok (hf i hi) ?_
   have hst := gx (p := p) hi
   rw [ht, Bool.false_or, ← hg] at hst
   cases h1 : p (g91 l i, g92 l i, g93 l i, g94 l i, g95 l i, g96 l i, g97 l i, g98 l i, g99 l i)
   ·rw [h1] at hst
    simp -implicitDefEqProofs (disch := omega) only [h1, simprocAttr, ax, ay, Function.comp_apply, one1, lenV, af, am, ap, aop, AV.ofValue, AV.ofCell, AV.cells, AV.flat, AV.one, arep, aB, aH, aw]
    refine hJ _ _ ⟨k - 1, by omega, _, _, _, ⟨i + 1, by omega, hst, rfl, rfl⟩, Abs.by0 hbel ?_⟩
    exact bl @hmv
   ·simp -implicitDefEqProofs (disch := omega) only [h1, simprocAttr, ax, ay, Function.comp_apply, one1, lenV, af, am, ap, aop, AV.ofValue, AV.ofCell, AV.cells, AV.flat, AV.one, arep, aB, aH, aw]
    exact hQ _ _ (aE (.inl rfl) hbel (x := .int .i64 (i : Nat)) (av Tryz.results198) rfl ⟨by rw [gj hi ht (by rw [← hg]; exact h1)], rfl⟩)
  ·have hnn : ¬ ((i : Int) < (l.length : Int)) := by omega
   simp -implicitDefEqProofs (disch := omega) only [hnn, simprocAttr, ax, ay, Function.comp_apply, one1, lenV, af, am, ap, aop, AV.ofValue, AV.ofCell, AV.cells, AV.flat, AV.one, arep, aB, aH, aw]
   rw [List.take_of_length_le (by omega)] at ht
   exact hQ _ _ (aE (.inl rfl) hbel (x := .int .i64 (-1)) (av Tryz.results198) rfl ⟨by rw [ee ht], rfl⟩)
theorem has_r (H : ac) (s : AV) (l : List T9) (hs : Sl H 9 s l.length (r9 l)) (hl : l.length ≤ 1000000000) (g : FuncId) (caps : List AV) (hok : dn Tryz.prog g = true) (hc : AV.bels H.length caps = true) (p : T9 → Bool) (hf : ∀ j, j < l.length → ACalls Tryz.prog g (.agg [.int .i64 (g91 l j), .int .i64 (g92 l j), .int .i64 (g93 l j), .int .i64 (g94 l j), .int .i64 (g95 l j), .int .i64 (g96 l j), .int .i64 (g97 l j), .int .i64 (g98 l j), .int .i64 (g99 l j)] :: caps) H (fun v H' => v = .bool (p (g91 l j, g92 l j, g93 l j, g94 l j, g95 l j, g96 l j, g97 l j, g98 l j, g99 l j)) ∧ H' = H)) :
  ACalls Tryz.prog 171 [s, .fn g caps] H (fun v H' => v = .bool (l.any p) ∧ H' = H) := by
 have key := idx_r H s l hs hl g caps hok hc p hf
 obtain ⟨b, own, cap, rfl, hb⟩ := hs
 have hbl := getElem?_lt hb
 (refine cl try_mixed Tryz.func171 true _ rfl (Nat.le_of_ble_eq_true (by kernel_rfl)) (by kernel_rfl) ?_; intro hbel Q hQ hQ' c hc; unfold Tryz.f171 at hc; simp only [Option.some.injEq] at hc; subst hc; clear hQ')
 simp -implicitDefEqProofs (disch := omega) only [simprocAttr, ax, ay, Function.comp_apply, one1, lenV, af, am, ap, aop, AV.ofValue, AV.ofCell, AV.cells, AV.flat, AV.one, arep, aB, aH, aw]
 refine aj (by kernel_rfl) key ?_
 simp -implicitDefEqProofs (disch := omega) only [simprocAttr, ax, ay, Function.comp_apply, one1, lenV, af, am, ap, aop, AV.ofValue, AV.ofCell, AV.cells, AV.flat, AV.one, arep, aB, aH, aw]
 exact hQ _ _ (aE (.inl rfl) hbel (x := .bool (decide (0 ≤ ec p l))) (av Tryz.results171) rfl ⟨by rw [ik], rfl⟩)
open Go.RowKit
set_option maxRecDepth 100000 in
theorem idx_m (H : ac) (s : AV) (l : List (Int × Int)) (hs : Sl H 2 s l.length (prs l)) (hl : l.length ≤ 1000000000) (g : FuncId) (caps : List AV) (hok : dn Tryz.prog g = true) (hc : AV.bels H.length caps = true) (p : (Int × Int) → Bool) (hf : ∀ j, j < l.length → ACalls Tryz.prog g (.agg [.int .i64 (g1 l j), .int .i64 (g2 l j)] :: caps) H (fun v H' => v = .bool (p (g1 l j, g2 l j)) ∧ H' = H)) :
  ACalls Tryz.prog 121 [s, .fn g caps] H (fun v H' => v = .int .i64 (ec p l) ∧ H' = H) := by
 obtain ⟨b, own, cap, rfl, hb⟩ := hs
 have hbl := getElem?_lt hb
 have hmv := fun m sel => fj (n := H.length) (m := m) (sel := sel) hc
 (refine cl try_mixed Tryz.func121 true _ rfl (Nat.le_of_ble_eq_true (by kernel_rfl)) (by kernel_rfl) ?_; intro hbel Q hQ hQ' c hc; unfold Tryz.f121 at hc; simp only [Option.some.injEq] at hc; subst hc; clear hQ')
 simp -implicitDefEqProofs (disch := omega) only [simprocAttr, ax, ay, Function.comp_apply, one1, lenV, af, am, ap, aop, AV.ofValue, AV.ofCell, AV.cells, AV.flat, AV.one, arep, aB, aH, aw]
 refine go_loop try_mixed (by kernel_rfl) (fun k F Hx => ∃ i : Nat, i + k = l.length ∧ (l.take i).any p = false ∧ F = [(0, .sl (some (b, 0)) l.length none), (1, .fn g caps), (7, .int .i64 l.length), (8, .int .i64 (i : Nat))] ∧ Hx = H) l.length ?_ ?_
 ·refine ⟨_, _, _, ⟨0, by omega, rfl, rfl, rfl⟩, Abs.by0 hbel ?_⟩
  exact bl @hmv
 ·rintro k F Hx ⟨i, hik, ht, rfl, rfl⟩ J hJ
  by_cases hi : i < l.length
  ·have hii : (i : Int) < (l.length : Int) := by omega
   have q1 := cA hi
   have hg := cu hi
   simp -implicitDefEqProofs (disch := omega) only [hii, hb, q1, bE, cD, simprocAttr, ax, ay, Function.comp_apply, one1, lenV, af, am, ap, aop, AV.ofValue, AV.ofCell, AV.cells, AV.flat, AV.one, arep, aB, aH, aw]
   iterate 2 refine And.intro (by omega) ?_
   refine aj hok (hf i hi) ?_
   have hst := gx (p := p) hi
   rw [ht, Bool.false_or, ← hg] at hst
   cases h1 : p (g1 l i, g2 l i)
   ·rw [h1] at hst
    simp -implicitDefEqProofs (disch := omega) only [h1, simprocAttr, ax, ay, Function.comp_apply, one1, lenV, af, am, ap, aop, AV.ofValue, AV.ofCell, AV.cells, AV.flat, AV.one, arep, aB, aH, aw]
    refine hJ _ _ ⟨k - 1, by omega, _, _, _, ⟨i + 1, by omega, hst, rfl, rfl⟩, Abs.by0 hbel ?_⟩
    exact bl @hmv
   ·simp -implicitDefEqProofs (disch := omega) only [h1, simprocAttr, ax, ay, Function.comp_apply, one1, lenV, af, am, ap, aop, AV.ofValue, AV.ofCell, AV.cells, AV.flat, AV.one, arep, aB, aH, aw]
    exact hQ _ _ (aE (.inl rfl) hbel (x := .int .i64 (i : Nat)) (av Tryz.results121) rfl ⟨by rw [gj hi ht (by rw [← hg]; exact h1)], rfl⟩)
  ·have hnn : ¬ ((i : Int) < (l.length : Int)) := by omega
   simp -implicitDefEqProofs (disch := omega) only [hnn, simprocAttr, ax, ay, Function.comp_apply, one1, lenV, af, am, ap, aop, AV.ofValue, AV.ofCell, AV.cells, AV.flat, AV.one, arep, aB, aH, aw]
   rw [List.take_of_length_le (by omega)] at ht
   exact hQ _ _ (aE (.inl rfl) hbel (x := .int .i64 (-1)) (av Tryz.results121) rfl ⟨by rw [ee ht], rfl⟩)
theorem has_m (H : ac) (s : AV) (l : List (Int × Int)) (hs : Sl H 2 s l.length (prs l)) (hl : l.length ≤ 1000000000) (g : FuncId) (caps : List AV) (hok : dn Tryz.prog g = true) (hc : AV.bels H.length caps = true) (p : (Int × Int) → Bool) (hf : ∀ j, j < l.length → ACalls Tryz.prog g (.agg [.int .i64 (g1 l j), .int .i64 (g2 l j)] :: caps) H (fun v H' => v = .bool (p (g1 l j, g2 l j)) ∧ H' = H)) :
  ACalls Tryz.prog 86 [s, .fn g caps] H (fun v H' => v = .bool (l.any p) ∧ H' = H) := by
 have key := idx_m H s l hs hl g caps hok hc p hf
 obtain ⟨b, own, cap, rfl, hb⟩ := hs
 have hbl := getElem?_lt hb
 (refine cl try_mixed Tryz.func86 true _ rfl (Nat.le_of_ble_eq_true (by kernel_rfl)) (by kernel_rfl) ?_; intro hbel Q hQ hQ' c hc; unfold Tryz.f86 at hc; simp only [Option.some.injEq] at hc; subst hc; clear hQ')
 simp -implicitDefEqProofs (disch := omega) only [simprocAttr, ax, ay, Function.comp_apply, one1, lenV, af, am, ap, aop, AV.ofValue, AV.ofCell, AV.cells, AV.flat, AV.one, arep, aB, aH, aw]
 refine aj (by kernel_rfl) key ?_
 simp -implicitDefEqProofs (disch := omega) only [simprocAttr, ax, ay, Function.comp_apply, one1, lenV, af, am, ap, aop, AV.ofValue, AV.ofCell, AV.cells, AV.flat, AV.one, arep, aB, aH, aw]
 exact hQ _ _ (aE (.inl rfl) hbel (x := .bool (decide (0 ≤ ec p l))) (av Tryz.results86) rfl ⟨by rw [ik], rfl⟩)
open Go.RowKit
theorem cO (H : ac) (n : Int) (lo : Int) (hi : Int) : ACalls Tryz.prog 101 [.int .i64 n, .int .i64 lo, .int .i64 hi] H (fun v H' => v = .bool (btw n lo hi) ∧ H' = H) := by
 refine AcT true Tryz.func101 ?_; intro hbel Q hQ
 refine bi ?_
 refine az (fun h1 => ?_) (fun h1 => ?_)
 ·have h1d := bsT h1
  have g'1 := (jn @h1 @h1d)
  refine aa g'1 ?_
  exact hQ _ _ (aE (.inl rfl) hbel (x := .bool (decide (n ≤ hi))) (av Tryz.results101) rfl ⟨by simp [btw, h1d], rfl⟩)
 ·have h1d := bsT h1
  have g'2 := (jn @h1 @h1d)
  refine aa g'2 ?_
  exact hQ _ _ (aE (.inl rfl) hbel (x := .bool false) (av Tryz.results101) rfl ⟨by simp [btw, h1d], rfl⟩)
theorem kvb_c (H : ac) (m : Int) (r : Int) : ACalls Tryz.prog 127 [.agg [.int .i64 m, .int .i64 r]] H (fun v H' => v = .bool (dy m r) ∧ H' = H) := by
 refine AcT true Tryz.func127 ?_; intro hbel Q hQ
 refine bi ?_
 refine aj (by kernel_rfl) (cO _ m 0 255) ?_
 refine bi ?_
 refine az (fun h1 => ?_) (fun h1 => ?_)
 ·have h1d := bsT h1
  have g'3 := (jn @h1 @h1d)
  refine aa g'3 ?_
  refine aj (by kernel_rfl) (cO _ r (-1) 1024) ?_
  refine aa g'3 ?_
  exact hQ _ _ (ai (.inl rfl) hbel (x := .bool (btw r (-1) 1024)) (av Tryz.results127) rfl ⟨by simp [dy, h1d], rfl⟩)
 ·have h1d := bsT h1
  have g'4 := (jn @h1 @h1d)
  refine aa g'4 ?_
  exact hQ _ _ (ai (.inl rfl) hbel (x := .bool false) (av Tryz.results127) rfl ⟨by simp [dy, h1d], rfl⟩)
theorem kright1_c (H : ac) (m : Int) (r : Int) : ACalls Tryz.prog 126 [.agg [.int .i64 m, .int .i64 r]] H (fun v H' => v = .bool (!(eH (m, r))) ∧ H' = H) := by
 refine AcT true Tryz.func126 ?_; intro hbel Q hQ
 refine bi ?_
 refine aj (by kernel_rfl) (kvb_c _ m r) ?_
 refine bi ?_
 exact hQ _ _ (ai (.inl rfl) hbel (x := .bool (!(dy m r))) (av Tryz.results126) rfl ⟨rfl, rfl⟩)
theorem kset1_c (H : ac) (x0 : Int) (y0 : Int) (x1 : Int) (y1 : Int) (f : Int) (c : Int) : ACalls Tryz.prog 167 [.agg [.int .i64 x0, .int .i64 y0, .int .i64 x1, .int .i64 y1, .int .i64 f, .int .i64 c]] H (fun v H' => v = .bool (!(bxB x0 y0 x1 y1 f c)) ∧ H' = H) := by
 refine AcT true Tryz.func167 ?_; intro hbel Q hQ
 refine bi ?_
 refine aj (by kernel_rfl) (eo _ x0 y0 x1 y1 f c) ?_
 refine bi ?_
 exact hQ _ _ (ai (.inl rfl) hbel (x := .bool (!(bxB x0 y0 x1 y1 f c))) (av Tryz.results167) rfl ⟨rfl, rfl⟩)
open Go.RowKit
theorem kset_c (H : ac) (s : AV) (l : List T6) (hs : Sl H 6 s l.length (r6 l)) (hl : l.length ≤ 1000000000) : ACalls Tryz.prog 128 [s] H (fun v H' => v = .bool (bU l) ∧ H' = H) := by
 obtain ⟨bs, os, cs, rfl, hbs⟩ := hs
 have hbls := getElem?_lt hbs
 have hb0s := fun l => aD (l := l) hbs
 refine AcT true Tryz.func128 ?_; intro hbel Q hQ
 have g'1 := (jn @hbs @hb0s)
 refine aa g'1 ?_
 refine az (fun h1 => ?_) (fun h1 => ?_)
 ·have h1d := bsT h1
  have g'2 := (jn @h1 (jn @h1d g'1))
  refine aa g'2 ?_
  refine aj (by kernel_rfl) (ju _ _ l ⟨_, _, _, rfl, by first | exact hb0s _ | exact hbs⟩ (by omega) _ [] (by kernel_rfl) rfl (fun b => !bG b) (fun j hj => kset1_c _ _ _ _ _ _ _)) ?_
  refine aa g'2 ?_
  exact hQ _ _ (aE (.inl rfl) hbel (x := .bool (!(l.any (fun b => !bG b)))) (av Tryz.results128) rfl ⟨by first | (simp [bU, h1d]; done) | (unfold bU; simp only [h1]; rfl), rfl⟩)
 ·have h1d := bsT h1
  have g'3 := (jn @h1 (jn @h1d g'1))
  refine aa g'3 ?_
  exact hQ _ _ (aE (.inl rfl) hbel (x := .bool false) (av Tryz.results128) rfl ⟨by first | (simp [bU, h1d]; done) | (unfold bU; simp only [h1]; rfl), rfl⟩)
theorem kpairs_c (H : ac) (s : AV) (l : List T6) (hs : Sl H 6 s l.length (r6 l)) (hS : bU l = true) : ACalls Tryz.prog 130 [s] H (fun v H' => v = .int .i64 (sumC l l.length) ∧ H' = H) := by
 obtain ⟨bs, os, cs, rfl, hbs⟩ := hs
 have hbls := getElem?_lt hbs
 have hb0s := fun l => aD (l := l) hbs
 have hln := fk hS
 refine AcT true Tryz.func130 ?_; intro hbel Q hQ
 have g'4 := (jn @hbs @hb0s)
 refine aa g'4 ?_
 refine go_loop try_mixed (by kernel_rfl) (fun k F Hx => ∃ i : Nat, i + k = l.length ∧ F = [(3, .int .i64 (sumC l i)), (6, .sl (some (bs, 0)) l.length cs), (7, .int .i64 ((l.length : Nat) : Int)), (8, .int .i64 ((i : Nat) : Int))] ∧ H = Hx) (l.length) ?_ ?_
 ·refine ⟨_, _, _, ⟨0, by omega, rfl, rfl⟩, Abs.by0 hbel ?_⟩
  exact bl @sumC.eq_1
 ·rintro k0 F Hx ⟨i, hm0, rfl, rfl⟩ J0 hJ0
  refine aa g'4 ?_
  refine aq (fun h1 => ?_) (fun h1 => ?_)
  ·have h1d := bsT h1
   have hsb := sumC_bd hS i (by omega)
   have hgb := g66_bd hS (show i < l.length by omega)
   have q2 := cE (l := l) (j := i) (by omega)
   have g'5 := (jn @h1 (jn @h1d (jn @aL (jn @q2 g'4))))
   refine aa g'5 ?_
   refine hJ0 _ _ ⟨k0 - 1, by omega, _, _, _, ⟨i + 1, by omega, rfl, rfl⟩, Abs.byN hbel ?_⟩
   exact bl @sumC.eq_2
  ·have h1d := bsT h1
   obtain rfl : i = l.length := by omega
   have g'6 := (jn @h1 (jn @h1d g'4))
   refine aa g'6 ?_
   exact hQ _ _ (aE (.inl rfl) hbel (x := .int .i64 (sumC l l.length)) (av Tryz.results130) rfl ⟨rfl, rfl⟩)
theorem ktau1_c (H : ac) (x0 : Int) (y0 : Int) (x1 : Int) (y1 : Int) (f : Int) (c : Int) (hb : bxB x0 y0 x1 y1 f c = true) : ACalls Tryz.prog 129 [.agg [.int .i64 x0, .int .i64 y0, .int .i64 x1, .int .i64 y1, .int .i64 f, .int .i64 c]] H (fun v H' => v = .bool (wdeB (x0, y0, x1, y1, f, c)) ∧ H' = H) := by
 have hbb := bY.1 hb
 refine AcT true Tryz.func129 ?_; intro hbel Q hQ
 refine bi ?_
 refine az (fun h1 => ?_) (fun h1 => ?_)
 ·have h1d := bsT h1
  have g'7 := (jn @h1 @h1d)
  refine aa g'7 ?_
  exact hQ _ _ (ai (.inl rfl) hbel (x := .bool (decide (64 < (y1 - y0)))) (av Tryz.results129) rfl ⟨by simp [wdeB, h1d], rfl⟩)
 ·have h1d := bsT h1
  have g'8 := (jn @h1 @h1d)
  refine aa g'8 ?_
  exact hQ _ _ (ai (.inl rfl) hbel (x := .bool true) (av Tryz.results129) rfl ⟨by simp [wdeB, h1d], rfl⟩)
open Go.RowKit
theorem iZ (H : ac) (s : AV) (l : List T6) (hs : Sl H 6 s l.length (r6 l)) (hS : bU l = true) : ACalls Tryz.prog 95 [s] H (fun v H' => v = .bool (fl l) ∧ H' = H) := by
 obtain ⟨bs, os, cs, rfl, hbs⟩ := hs
 have hbls := getElem?_lt hbs
 have hb0s := fun l => aD (l := l) hbs
 have hln := fk hS
 refine AcT true Tryz.func95 ?_; intro hbel Q hQ
 have g'1 := (jn @hbs @hb0s)
 refine aa g'1 ?_
 refine aj (by kernel_rfl) (kpairs_c _ _ l ⟨_, _, _, rfl, by first | exact hb0s _ | exact hbs⟩ (by assumption)) ?_
 refine aa g'1 ?_
 refine az (fun h1 => ?_) (fun h1 => ?_)
 ·have h1d := bsT h1
  have g'2 := (jn @h1 (jn @h1d g'1))
  refine aa g'2 ?_
  refine aj (by kernel_rfl) (ju _ _ l ⟨_, _, _, rfl, by first | exact hb0s _ | exact hbs⟩ (by omega) _ [] (by kernel_rfl) rfl (wdeB) (fun j hj => ktau1_c _ _ _ _ _ _ _ ((bX.1 hS).2 (g6 l j) (cG hj)))) ?_
  refine aa g'2 ?_
  exact hQ _ _ (aE (.inl rfl) hbel (x := .bool (!(l.any (wdeB)))) (av Tryz.results95) rfl ⟨by first | (simp [fl, h1d]; done) | (unfold fl; simp only [h1]; rfl), rfl⟩)
 ·have h1d := bsT h1
  have g'3 := (jn @h1 (jn @h1d g'1))
  refine aa g'3 ?_
  exact hQ _ _ (aE (.inl rfl) hbel (x := .bool false) (av Tryz.results95) rfl ⟨by first | (simp [fl, h1d]; done) | (unfold fl; simp only [h1]; rfl), rfl⟩)
theorem kright_c (H : ac) (W : Int) (Hh : Int) (pp : AV) (xs : List Int) (s : AV) (l : List T6) (q : AV) (sc : List (Int × Int)) (g : Int) (hpp : Sl H 1 pp xs.length (ints .u8 xs)) (hs : Sl H 6 s l.length (r6 l)) (hq : Sl H 2 q sc.length (prs sc)) (hl : l.length ≤ 1000000000) (hsc : sc.length ≤ 1000000000) : ACalls Tryz.prog 94 [.agg [.int .i64 W, .int .i64 Hh, pp], s, q, .int .i64 g] H (fun v H' => v = .bool (cV W Hh xs l sc g) ∧ H' = H) := by
 obtain ⟨bpp, opp, cpp, rfl, hbpp⟩ := hpp
 have hblpp := getElem?_lt hbpp
 have hb0pp := fun l => aD (l := l) hbpp
 obtain ⟨bs, os, cs, rfl, hbs⟩ := hs
 have hbls := getElem?_lt hbs
 have hb0s := fun l => aD (l := l) hbs
 obtain ⟨bq, oq, cq, rfl, hbq⟩ := hq
 have hblq := getElem?_lt hbq
 have hb0q := fun l => aD (l := l) hbq
 refine AcT true Tryz.func94 ?_; intro hbel Q hQ
 have g'4 := (jn @hbpp (jn @hb0pp (jn @hbs (jn @hb0s (jn @hbq @hb0q)))))
 refine aa g'4 ?_
 refine aj (by kernel_rfl) (g3 _ W Hh _ xs (.inr ⟨_, _, _, rfl, by first | exact hb0pp _ | exact hbpp⟩)) ?_
 refine aa g'4 ?_
 refine az (fun h1 => ?_) (fun h1 => ?_)
 ·have h1d := bsT h1
  have g'5 := (jn @h1 (jn @h1d g'4))
  refine aa g'5 ?_
  refine az (fun h2 => ?_) (fun h2 => ?_)
  ·have h2d := bsT h2
   have g'6 := (jn @h2 (jn @h2d g'5))
   refine aa g'6 ?_
   refine aj (by kernel_rfl) (kset_c _ _ l ⟨_, _, _, rfl, by first | exact hb0s _ | exact hbs⟩ (by omega)) ?_
   refine aa g'6 ?_
   refine az (fun h3 => ?_) (fun h3 => ?_)
   ·have h3d := bsT h3
    have g'7 := (jn @h3 (jn @h3d g'6))
    refine aa g'7 ?_
    refine az (fun h4 => ?_) (fun h4 => ?_)
    ·have h4d := bsT h4
     have g'8 := (jn @h4 (jn @h4d g'7))
     refine aa g'8 ?_
     refine aj (by kernel_rfl) (has_m _ _ sc ⟨_, _, _, rfl, by first | exact hb0q _ | exact hbq⟩ (by omega) _ [] (by kernel_rfl) rfl (fun e => !eH e) (fun j hj => kright1_c _ _ _)) ?_
     refine aa g'8 ?_
     refine az (fun h5 => ?_) (fun h5 => ?_)
     ·have h5d := bsT h5
      have g'9 := (jn @h5 (jn @h5d g'8))
      refine aa g'9 ?_
      refine aj (by kernel_rfl) (cO _ g 1 32) ?_
      refine aa g'9 ?_
      exact hQ _ _ (ai (.inl rfl) hbel (x := .bool (btw g 1 32)) (av Tryz.results94) rfl ⟨by first | (simp [cV, cd, h1d, h2d, h3d, h4d, h5d]; done) | (unfold cV cd; simp only [h1, h2, h3, h4, h5]; rfl), rfl⟩)
     ·have h5d := bsT h5
      have g'10 := (jn @h5 (jn @h5d g'8))
      refine aa g'10 ?_
      exact hQ _ _ (ai (.inl rfl) hbel (x := .bool false) (av Tryz.results94) rfl ⟨by first | (simp [cV, cd, h1d, h2d, h3d, h4d, h5d]; done) | (unfold cV cd; simp only [h1, h2, h3, h4, h5]; rfl), rfl⟩)
    ·have h4d := bsT h4
     have g'11 := (jn @h4 (jn @h4d g'7))
     refine aa g'11 ?_
     exact hQ _ _ (ai (.inl rfl) hbel (x := .bool false) (av Tryz.results94) rfl ⟨by first | (simp [cV, cd, h1d, h2d, h3d, h4d]; done) | (unfold cV cd; simp only [h1, h2, h3, h4]; rfl), rfl⟩)
   ·have h3d := bsT h3
    have g'12 := (jn @h3 (jn @h3d g'6))
    refine aa g'12 ?_
    exact hQ _ _ (ai (.inl rfl) hbel (x := .bool false) (av Tryz.results94) rfl ⟨by first | (simp [cV, cd, h1d, h2d, h3d]; done) | (unfold cV cd; simp only [h1, h2, h3]; rfl), rfl⟩)
  ·have h2d := bsT h2
   have g'13 := (jn @h2 (jn @h2d g'5))
   refine aa g'13 ?_
   exact hQ _ _ (ai (.inl rfl) hbel (x := .bool false) (av Tryz.results94) rfl ⟨by first | (simp [cV, cd, h1d, h2d]; done) | (unfold cV cd; simp only [h1, h2]; rfl), rfl⟩)
 ·have h1d := bsT h1
  have g'14 := (jn @h1 (jn @h1d g'4))
  refine aa g'14 ?_
  exact hQ _ _ (ai (.inl rfl) hbel (x := .bool false) (av Tryz.results94) rfl ⟨by first | (simp [cV, cd, h1d]; done) | (unfold cV cd; simp only [h1]; rfl), rfl⟩)
open Go.RowKit
theorem hlistk_c (H : ac) (l : List T6) (i : Nat) (ha : cp (g65 l i) (g66 l i) = true) : ACalls Tryz.prog 123 [.agg [.int .i64 (g65 l i), .int .i64 (g66 l i)]] H (fun v H' => v = .sl (some (H.length, 0)) (mkB (g6 l i)).length none ∧ H' = H ++ [.cells true 1 (ints .i64 (mkB (g6 l i)))]) := lV H _ _ ha
theorem dO (H : ac) (l : List T6) (m far : Int) : ACalls Tryz.prog 156 [.agg [.int .i64 (g91 (aC l m) 0), .int .i64 (g92 (aC l m) 0)], .agg [.int .i64 (g97 (aC l m) 0), .int .i64 (g98 (aC l m) 0), .int .i64 (g99 (aC l m) 0)], .int .i64 0, .int .i64 far] H (fun v H' => v = .tup [.sl (some (H.length, 0)) (aU l m far).length (bA (aU l m far).length), .int .i64 (trE (g91 (aC l m) 0) (g92 (aC l m) 0) (g97 (aC l m) 0) (g98 (aC l m) 0) (g99 (aC l m) 0) 0 far)] ∧ H' = H ++ [.cells (bm (aU l m far).length) 2 (prs (aU l m far))]) := kj H _ _ _ _ _ _ _
theorem g9_mem {l : List T9} {j : Nat} (h : j < l.length) : g9 l j ∈ l := by
 have := g9_eq h
 have e : (g91 l j, g92 l j, g93 l j, g94 l j, g95 l j, g96 l j, g97 l j, g98 l j, g99 l j) = g9 l j := rfl
 rw [e] at this; rw [this]; exact List.getElem_mem h
theorem fstL_len (l : List T6) (m far : Int) : (aU l m far).length ≤ 7225 := jx _ _ _ _ _ _ _
theorem dD (H : ac) (x0 : Int) (y0 : Int) (x1 : Int) (y1 : Int) (f : Int) (c : Int) (ha : bxB x0 y0 x1 y1 f c = true) : ACalls Tryz.prog 168 [.agg [.int .i64 x0, .int .i64 y0, .int .i64 x1, .int .i64 y1, .int .i64 f, .int .i64 c]] H (fun v H' => v = .sl (some (H.length, 0)) 4 none ∧ H' = H ++ [.cells true 2 [.int .i64 x0, .int .i64 y0, .int .i64 x1, .int .i64 y0, .int .i64 x0, .int .i64 y1, .int .i64 x1, .int .i64 y1]]) := by
 refine AcT true Tryz.func168 ?_; intro hbel Q hQ
 have g'1 := @ha
 refine aa g'1 ?_
 refine aj (by kernel_rfl) (eo _ x0 y0 x1 y1 f c) ?_
 refine aa g'1 ?_
 refine hQ _ _ (br (.inl rfl) hbel (x1 := .sl (some (H.length + 1, 0)) 4 (some 4)) (l2 := [.cells true 2 [.int .i64 x0, .int .i64 y0, .int .i64 x1, .int .i64 y0, .int .i64 x0, .int .i64 y1, .int .i64 x1, .int .i64 y1]]) (.sl (some (H.length, 0)) 4 none) (av Tryz.results168) [] rfl [1] (by decide) ⟨rfl, rfl⟩ ?_)
 exact bj
theorem iq (H : ac) (s : AV) (l : List T6) (m : Int) (r : Int) (hs : Sl H 6 s l.length (r6 l)) (hS : bU l = true) : ACalls Tryz.prog 136 [s, .agg [.int .i64 m, .int .i64 r]] H (fun v H' => v = .sl (some (H.length, 0)) ((aC l m).length) (bA (aC l m).length) ∧ H' = H ++ [.cells (bm (aC l m).length) 9 (r9 (aC l m))]) := by
 obtain ⟨bs, os, cs, rfl, hbs⟩ := hs
 have hbls := getElem?_lt hbs
 have hb0s := fun l => aD (l := l) hbs
 have hln := fk hS
 refine AcT true Tryz.func136 ?_; intro hbel Q hQ
 have g'2 := (jn @hbs @hb0s)
 refine aa g'2 ?_
 refine go_loop try_mixed (by kernel_rfl) (fun k F Hx => ∃ i : Nat, i + k = l.length ∧ F = [(3, .ptr (some (H.length, 0))), (5, .sl (some (H.length + 1, 0)) ((dirS l m i).length) (bA (dirS l m i).length)), (10, .sl (some (bs, 0)) l.length cs), (11, .int .i64 ((l.length : Nat) : Int)), (12, .int .i64 ((i : Nat) : Int))] ∧ Hx = H ++ [.cells true 0 [.int .i64 m, .int .i64 r], .cells (bm (dirS l m i).length) 9 (r9 (dirS l m i))]) (l.length) ?_ ?_
 ·refine ⟨_, _, _, ⟨0, by omega, rfl, rfl⟩, Abs.byG hbel [.cells false 9 []] rfl [0, 1] (by decide) ?_⟩
  exact aN (jn @dirS.eq_1 (jn @bv (jn @bF (jn @bZ @bW))))
 ·rintro k0 F Hx ⟨i, hm0, rfl, rfl⟩ J0 hJ0
  have g'3 := (jn @dC (jn @iY g'2))
  refine aa g'3 ?_
  refine aq (fun h1 => ?_) (fun h1 => ?_)
  ·have h1d := bsT h1
   have hai : cp (g65 l i) (g66 l i) = true := (bY.1 ((bX.1 hS).2 (g6 l i) (cG (by omega)))).2.2
   have hdl := kl hS m i (by omega)
   have hmk := lT hS (show i < l.length by omega)
   have q2 := cE (l := l) (j := i) (by omega)
   have g'4 := (jn @h1 (jn @h1d (jn @aL (jn @q2 g'3))))
   refine aa g'4 ?_
   refine aj (by kernel_rfl) (hlistk_c _ l i hai) ?_
   refine aa g'4 ?_
   refine go_loop try_mixed (by kernel_rfl) (fun k F Hx => ∃ j : Nat, j + k = (mkB (g6 l i)).length ∧ F = [(3, .ptr (some (H.length, 0))), (5, .sl (some (H.length + 3, 0)) ((dirS l m i ++ dirB (g6 l i) m j).length) (bA (dirS l m i ++ dirB (g6 l i) m j).length)), (7, .ptr (some (H.length + 1, 0))), (10, .sl (some (bs, 0)) l.length cs), (11, .int .i64 ((l.length : Nat) : Int)), (12, .int .i64 ((i : Nat) : Int)), (21, .sl (some (H.length + 2, 0)) ((mkB (g6 l i)).length) none), (22, .int .i64 (((mkB (g6 l i)).length : Nat) : Int)), (23, .int .i64 ((j : Nat) : Int))] ∧ Hx = H ++ [.cells true 0 [.int .i64 m, .int .i64 r], .cells true 0 [.int .i64 (g61 l i), .int .i64 (g62 l i), .int .i64 (g63 l i), .int .i64 (g64 l i), .int .i64 (g65 l i), .int .i64 (g66 l i)], .cells true 1 (ints .i64 (mkB (g6 l i))), .cells (bm (dirS l m i ++ dirB (g6 l i) m j).length) 9 (r9 (dirS l m i ++ dirB (g6 l i) m j))]) ((mkB (g6 l i)).length) ?_ ?_
   ·refine ⟨_, _, _, ⟨0, by omega, rfl, rfl⟩, Abs.byG hbel [] rfl [0, 2, 3, 1] (by decide) ?_⟩
    exact aN (jn @dirB.eq_1 (jn @List.append_nil.{0} (jn @bv (jn @bF (jn @bZ @bW)))))
   ·rintro k1 F Hx ⟨j, hm1, rfl, rfl⟩ J1 hJ1
    have hbl := io (g6 l i) m j
    have hst : dirB (g6 l i) m (j + 1) = dirB (g6 l i) m j ++ [(g61 l i, g62 l i, g63 l i, g64 l i, g65 l i, g66 l i, (bN (gi (mkB (g6 l i)) j) m).1, (bN (gi (mkB (g6 l i)) j) m).2.1, (bN (gi (mkB (g6 l i)) j) m).2.2)] := rfl
    have g'5 := (jn @aK (jn @aJ g'4))
    refine aa g'5 ?_
    refine aq (fun h3 => ?_) (fun h3 => ?_)
    ·have h3d := bsT h3
     have q4 := c7 (k := .i64) (xs := mkB (g6 l i)) (j := j) (by omega)
     have g'6 := (jn @h3 (jn @h3d (jn @q4 g'5)))
     refine aa g'6 ?_
     refine aP (by kernel_rfl) (hbeam_c _ (gi (mkB (g6 l i)) j) m) ?_
     have g'7 := (jn @bE (jn @dI g'6))
     refine aa g'7 ?_
     refine hJ1 _ _ ⟨k1 - 1, by omega, _, _, _, ⟨j + 1, by omega, rfl, rfl⟩, Abs.byG hbel [] rfl [0, 1, 2, 5] (by decide) ?_⟩
     exact aN (jn @hst (jn @List.append_assoc.{0} (jn @bv (jn @bF (jn @bZ @bW)))))
    ·have h3d := bsT h3
     obtain rfl : j = (mkB (g6 l i)).length := by omega
     have g'8 := (jn @h3 (jn @h3d g'5))
     refine aa g'8 ?_
     refine hJ0 _ _ ⟨k0 - 1, by omega, _, _, _, ⟨i + 1, by omega, rfl, rfl⟩, Abs.byG hbel [] rfl [0, 3] (by decide) ?_⟩
     exact aN (jn @dirS.eq_2 (jn @bv (jn @bF (jn @bZ @bW))))
  ·have h1d := bsT h1
   obtain rfl : i = l.length := by omega
   have g'9 := (jn @h1 (jn @h1d g'3))
   refine aa g'9 ?_
   refine hQ _ _ (br (.inl rfl) hbel (x1 := .sl (some (H.length + 1, 0)) ((dirS l m l.length).length) (bA (dirS l m l.length).length)) (l2 := [.cells (bm (dirS l m l.length).length) 9 (r9 (dirS l m l.length))]) (.sl (some (H.length, 0)) ((dirS l m l.length).length) (bA (dirS l m l.length).length)) (av Tryz.results136) [] rfl [1] (by decide) ⟨rfl, rfl⟩ ?_)
   exact bl @bW
theorem passes_c (H : ac) (x0 : Int) (y0 : Int) (x1 : Int) (y1 : Int) (f : Int) (c : Int) (vx : Int) (vy : Int) (vd : Int) (s0 : Int) (t0 : Int) (s1 : Int) (t1 : Int) (far : Int) (hp : bxB x0 y0 x1 y1 f c = true) : ACalls Tryz.prog 170 [.agg [.int .i64 x0, .int .i64 y0, .int .i64 x1, .int .i64 y1, .int .i64 f, .int .i64 c, .int .i64 vx, .int .i64 vy, .int .i64 vd], .agg [.int .i64 s0, .int .i64 t0, .int .i64 s1, .int .i64 t1], .int .i64 far] H (fun v H' => v = .bool (psB (x0, y0, x1, y1, f, c, vx, vy, vd) s0 t0 s1 t1 far) ∧ H' = H) := by
 refine AcT true Tryz.func170 ?_; intro hbel Q hQ
 refine bi ?_
 refine aj (by kernel_rfl) (dD _ x0 y0 x1 y1 f c (by assumption)) ?_
 refine bi ?_
 refine go_loop try_mixed (by kernel_rfl) (fun k F Hx => ∃ j : Nat, j + k = 4 ∧ ((1 ≤ j → dF x0 y0 vx vy vd far s0 t0 s1 t1 = true) ∧ (2 ≤ j → dF x1 y0 vx vy vd far s0 t0 s1 t1 = true) ∧ (3 ≤ j → dF x0 y1 vx vy vd far s0 t0 s1 t1 = true) ∧ (4 ≤ j → dF x1 y1 vx vy vd far s0 t0 s1 t1 = true)) ∧ F = [(2, .int .i64 far), (3, .ptr (some (H.length, 0))), (4, .ptr (some (H.length + 1, 0))), (11, .sl (some (H.length + 2, 0)) 4 none), (12, .int .i64 4), (13, .int .i64 ((j : Nat) : Int))] ∧ Hx = H ++ [.cells true 0 [.int .i64 x0, .int .i64 y0, .int .i64 x1, .int .i64 y1, .int .i64 f, .int .i64 c, .int .i64 vx, .int .i64 vy, .int .i64 vd], .cells true 0 [.int .i64 s0, .int .i64 t0, .int .i64 s1, .int .i64 t1], .cells true 2 [.int .i64 x0, .int .i64 y0, .int .i64 x1, .int .i64 y0, .int .i64 x0, .int .i64 y1, .int .i64 x1, .int .i64 y1]]) (4) ?_ ?_
 ·refine ⟨_, _, _, ⟨0, by omega, ⟨fun h => by omega, fun h => by omega, fun h => by omega, fun h => by omega⟩, rfl, rfl⟩, Abs.byG hbel [] rfl [0, 1, 2] (by decide) ?_⟩
  exact bj
 ·rintro k0 F Hx ⟨j, hm0, hal, rfl, rfl⟩ J0 hJ0
  refine bi ?_
  refine aq (fun h1 => ?_) (fun h1 => ?_)
  ·have h1d := bsT h1
   obtain rfl | rfl | rfl | rfl := (by omega : j = 0 ∨ j = 1 ∨ j = 2 ∨ j = 3)
   ·skip
    have g'10 := (jn @h1 @h1d)
    refine aa g'10 ?_
    refine aj (by kernel_rfl) (dN _ x0 y0 vx vy vd far s0 t0 s1 t1) ?_
    refine aa g'10 ?_
    refine aq (fun h2 => ?_) (fun h2 => ?_)
    ·have h2d := bsT h2
     have hfinP : psB (x0, y0, x1, y1, f, c, vx, vy, vd) s0 t0 s1 t1 far = false := by simp [psB, h2d]
     have g'11 := (jn @h2 (jn @h2d g'10))
     refine aa g'11 ?_
     exact hQ _ _ (ai (.inl rfl) hbel (x := .bool false) (av Tryz.results170) rfl ⟨by rw [hfinP], rfl⟩)
    ·have h2d := bsT h2
     have hc0 := h2d
     have g'12 := (jn @h2 (jn @h2d g'10))
     refine aa g'12 ?_
     refine hJ0 _ _ ⟨k0 - 1, by omega, _, _, _, ⟨0 + 1, by omega, by refine ⟨fun h => ?_, fun h => ?_, fun h => ?_, fun h => ?_⟩ <;> first | omega | assumption | exact hal.1 (by omega) | exact hal.2.1 (by omega) | exact hal.2.2.1 (by omega), rfl, rfl⟩, Abs.byG hbel [] rfl [0, 1, 2] (by decide) ?_⟩
     exact bj
   ·skip
    have g'13 := (jn @h1 @h1d)
    refine aa g'13 ?_
    refine aj (by kernel_rfl) (dN _ x1 y0 vx vy vd far s0 t0 s1 t1) ?_
    refine aa g'13 ?_
    refine aq (fun h3 => ?_) (fun h3 => ?_)
    ·have h3d := bsT h3
     have hfinP : psB (x0, y0, x1, y1, f, c, vx, vy, vd) s0 t0 s1 t1 far = false := by simp [psB, h3d]
     have g'14 := (jn @h3 (jn @h3d g'13))
     refine aa g'14 ?_
     exact hQ _ _ (ai (.inl rfl) hbel (x := .bool false) (av Tryz.results170) rfl ⟨by rw [hfinP], rfl⟩)
    ·have h3d := bsT h3
     have hc1 := h3d
     have g'15 := (jn @h3 (jn @h3d g'13))
     refine aa g'15 ?_
     refine hJ0 _ _ ⟨k0 - 1, by omega, _, _, _, ⟨1 + 1, by omega, by refine ⟨fun h => ?_, fun h => ?_, fun h => ?_, fun h => ?_⟩ <;> first | omega | assumption | exact hal.1 (by omega) | exact hal.2.1 (by omega) | exact hal.2.2.1 (by omega), rfl, rfl⟩, Abs.byG hbel [] rfl [0, 1, 2] (by decide) ?_⟩
     exact bj
   ·skip
    have g'16 := (jn @h1 @h1d)
    refine aa g'16 ?_
    refine aj (by kernel_rfl) (dN _ x0 y1 vx vy vd far s0 t0 s1 t1) ?_
    refine aa g'16 ?_
    refine aq (fun h4 => ?_) (fun h4 => ?_)
    ·have h4d := bsT h4
     have hfinP : psB (x0, y0, x1, y1, f, c, vx, vy, vd) s0 t0 s1 t1 far = false := by simp [psB, h4d]
     have g'17 := (jn @h4 (jn @h4d g'16))
     refine aa g'17 ?_
     exact hQ _ _ (ai (.inl rfl) hbel (x := .bool false) (av Tryz.results170) rfl ⟨by rw [hfinP], rfl⟩)
    ·have h4d := bsT h4
     have hc2 := h4d
     have g'18 := (jn @h4 (jn @h4d g'16))
     refine aa g'18 ?_
     refine hJ0 _ _ ⟨k0 - 1, by omega, _, _, _, ⟨2 + 1, by omega, by refine ⟨fun h => ?_, fun h => ?_, fun h => ?_, fun h => ?_⟩ <;> first | omega | assumption | exact hal.1 (by omega) | exact hal.2.1 (by omega) | exact hal.2.2.1 (by omega), rfl, rfl⟩, Abs.byG hbel [] rfl [0, 1, 2] (by decide) ?_⟩
     exact bj
   ·skip
    have g'19 := (jn @h1 @h1d)
    refine aa g'19 ?_
    refine aj (by kernel_rfl) (dN _ x1 y1 vx vy vd far s0 t0 s1 t1) ?_
    refine aa g'19 ?_
    refine aq (fun h5 => ?_) (fun h5 => ?_)
    ·have h5d := bsT h5
     have hfinP : psB (x0, y0, x1, y1, f, c, vx, vy, vd) s0 t0 s1 t1 far = false := by simp [psB, h5d]
     have g'20 := (jn @h5 (jn @h5d g'19))
     refine aa g'20 ?_
     exact hQ _ _ (ai (.inl rfl) hbel (x := .bool false) (av Tryz.results170) rfl ⟨by rw [hfinP], rfl⟩)
    ·have h5d := bsT h5
     have hc3 := h5d
     have g'21 := (jn @h5 (jn @h5d g'19))
     refine aa g'21 ?_
     refine hJ0 _ _ ⟨k0 - 1, by omega, _, _, _, ⟨3 + 1, by omega, by refine ⟨fun h => ?_, fun h => ?_, fun h => ?_, fun h => ?_⟩ <;> first | omega | assumption | exact hal.1 (by omega) | exact hal.2.1 (by omega) | exact hal.2.2.1 (by omega), rfl, rfl⟩, Abs.byG hbel [] rfl [0, 1, 2] (by decide) ?_⟩
     exact bj
  ·have h1d := bsT h1
   have hfinP : psB (x0, y0, x1, y1, f, c, vx, vy, vd) s0 t0 s1 t1 far = true := by unfold psB; simp only; rw [hal.1 (by omega), hal.2.1 (by omega), hal.2.2.1 (by omega), hal.2.2.2 (by omega)]; rfl
   have g'22 := (jn @h1 @h1d)
   refine aa g'22 ?_
   exact hQ _ _ (ai (.inl rfl) hbel (x := .bool true) (av Tryz.results170) rfl ⟨by rw [hfinP], rfl⟩)
theorem kprv1_c (H : ac) (x0 : Int) (y0 : Int) (x1 : Int) (y1 : Int) (f : Int) (c : Int) (vx : Int) (vy : Int) (vd : Int) (s0 : Int) (t0 : Int) (s1 : Int) (t1 : Int) (bz : Nat) (far : Int) (bw : Nat) (hz : ∃ o, H[bz]? = some (.cells o 0 [.int .i64 s0, .int .i64 t0, .int .i64 s1, .int .i64 t1])) (hw : ∃ o, H[bw]? = some (.cells o 0 [.int .i64 far])) (hp : bxB x0 y0 x1 y1 f c = true) : ACalls Tryz.prog 169 [.agg [.int .i64 x0, .int .i64 y0, .int .i64 x1, .int .i64 y1, .int .i64 f, .int .i64 c, .int .i64 vx, .int .i64 vy, .int .i64 vd], .ptr (some (bz, 0)), .ptr (some (bw, 0))] H (fun v H' => v = .bool (!(psB (x0, y0, x1, y1, f, c, vx, vy, vd) s0 t0 s1 t1 far)) ∧ H' = H) := by
 obtain ⟨oz, hbz⟩ := hz
 have hblz := getElem?_lt hbz
 have hb0z := fun l => aD (l := l) hbz
 obtain ⟨ow, hbw⟩ := hw
 have hblw := getElem?_lt hbw
 have hb0w := fun l => aD (l := l) hbw
 refine AcT true Tryz.func169 ?_; intro hbel Q hQ
 have g'23 := (jn @hbz (jn @hb0z (jn @hbw @hb0w)))
 refine aa g'23 ?_
 refine aj (by kernel_rfl) (passes_c _ x0 y0 x1 y1 f c vx vy vd s0 t0 s1 t1 far (by assumption)) ?_
 refine aa g'23 ?_
 exact hQ _ _ (ai (.inl rfl) hbel (x := .bool (!(psB (x0, y0, x1, y1, f, c, vx, vy, vd) s0 t0 s1 t1 far))) (av Tryz.results169) rfl ⟨rfl, rfl⟩)
theorem psqr_c (H : ac) (x : Int) (y : Int) : ACalls Tryz.prog 143 [.agg [.int .i64 x, .int .i64 y]] H (fun v H' => v = .tup [.agg [.int .i64 (mkV (sqO x y) (x * 64)), .int .i64 (mkV (sqO x y) (y * 64)), .int .i64 (mkV (sqO x y) (x * 64 + 64)), .int .i64 (mkV (sqO x y) (y * 64 + 64))], .bool (sqO x y)] ∧ H' = H) := by
 refine AcT true Tryz.func143 ?_; intro hbel Q hQ
 refine bi ?_
 refine aj (by kernel_rfl) (eP _ x 16384 (by omega)) ?_
 refine bi ?_
 refine az (fun h1 => ?_) (fun h1 => ?_)
 ·have h1d := bsT h1
  have wx := bC.1 h1d
  have g'24 := (jn @h1 @h1d)
  refine aa g'24 ?_
  refine aj (by kernel_rfl) (eP _ y 16384 (by omega)) ?_
  refine aa g'24 ?_
  refine aq (fun h2 => ?_) (fun h2 => ?_)
  ·have h2d := bsT h2
   have wy : ¬ (-16384 ≤ y ∧ y ≤ 16384) := mt bC.2 (by rw [h2d]; decide)
   have g'25 := (jn @h2 (jn @h2d g'24))
   refine aa g'25 ?_
   exact hQ _ _ (ai (.inl rfl) hbel (x := .tup [.agg [.int .i64 0, .int .i64 0, .int .i64 0, .int .i64 0], .bool false]) (av Tryz.results143) rfl ⟨by simp [mkV, sqO, h1d, h2d], rfl⟩)
  ·have h2d := bsT h2
   have wy := bC.1 h2d
   have g'26 := (jn @h2 (jn @h2d g'24))
   refine aa g'26 ?_
   refine aj (by kernel_rfl) (gL _ x y (by omega) (by omega)) ?_
   refine aa g'26 ?_
   exact hQ _ _ (ai (.inl rfl) hbel (x := .tup [.agg [.int .i64 (x * 64), .int .i64 (y * 64), .int .i64 (x * 64 + 64), .int .i64 (y * 64 + 64)], .bool true]) (av Tryz.results143) rfl ⟨by simp [mkV, sqO, h1d, h2d], rfl⟩)
 ·have h1d := bsT h1
  have wx : ¬ (-16384 ≤ x ∧ x ≤ 16384) := mt bC.2 (by rw [h1d]; decide)
  have g'27 := (jn @h1 @h1d)
  refine aa g'27 ?_
  exact hQ _ _ (ai (.inl rfl) hbel (x := .tup [.agg [.int .i64 0, .int .i64 0, .int .i64 0, .int .i64 0], .bool false]) (av Tryz.results143) rfl ⟨by simp [mkV, sqO, h1d], rfl⟩)
theorem psqr_t (H : ac) (x y : Int) (h : sqO x y = true) : ACalls Tryz.prog 143 [.agg [.int .i64 x, .int .i64 y]] H (fun v H' => v = .tup [.agg [.int .i64 (x * 64), .int .i64 (y * 64), .int .i64 (x * 64 + 64), .int .i64 (y * 64 + 64)], .bool true] ∧ H' = H) := by
 have q := psqr_c H x y
 simp only [h, mkV, if_true] at q; exact q
theorem psqr_f (H : ac) (x y : Int) (h : sqO x y = false) : ACalls Tryz.prog 143 [.agg [.int .i64 x, .int .i64 y]] H (fun v H' => v = .tup [.agg [.int .i64 0, .int .i64 0, .int .i64 0, .int .i64 0], .bool false] ∧ H' = H) := by
 have q := psqr_c H x y
 simp only [h, mkV, if_false, Bool.false_eq_true] at q; exact q
open Go.RowKit
open Go.RowKit
theorem gi_mkB {b : T6} {j : Nat} (h : j < (mkB b).length) : gi (mkB b) j = (b.2.2.2.2.1 + (j : Int)) % 256 := by
 have h2 : j < b.2.2.2.2.2.toNat := by have e : (mkB b).length = b.2.2.2.2.2.toNat := dT _ _; omega
 show gi (bk b.2.2.2.2.1 b.2.2.2.2.2.toNat) j = _
 rw [gi_eq (by rw [dT]; exact h2)]
 unfold bk
 rw [List.getElem_map, List.getElem_range]
open Go.RowKit
theorem all_put {W Hh : Int} {l : List T6} {sc : List (Int × Int)} {g : Int} : aW W Hh l sc g = (rowA W Hh l sc g).foldl (fun o c => fo c o) [] := cpt_put (gO _) fun _ => (fG _).mem_iff
theorem sus_put {l : List T6} {m r g : Int} : bu l m r g = (fq l m r g).foldl (fun o c => fo c o) [] := cpt_put (gO _) fun _ => (fG _).mem_iff
open Go.RowKit
open Go.RowKit
def low0 (r g : Int) : Int := if 0 < r - g then r - g else 0
open Go.RowKit
section
variable {W Hh : Int} {xs : List Int} {px py vx vy vd most : Int}
end
set_option linter.unusedSimpArgs false
set_option linter.unusedVariables false
open Go.RowKit
set_option maxHeartbeats 800000
open Go.RowKit
set_option maxHeartbeats 4000000
set_option maxRecDepth 100000
open Go.RowKit
open Go.RowKit
open Go.RowKit
open Go.RowKit
open Go.RowKit
open Go.RowKit
theorem mkV_t (n : Int) : mkV true n = n := rfl
open Go.RowKit
open Go.RowKit
def hcB (op : Bool) (x y vx vy vd far cx cy : Int) : Bool := bif op then dF x y vx vy vd far (cx * 64) (cy * 64) ((cx + 1) * 64) ((cy + 1) * 64) else ef x y vx vy vd 0 far (cx * 64) (cy * 64) ((cx + 1) * 64) ((cy + 1) * 64)
def h4B (op : Bool) (x0 y0 x1 y1 vx vy vd far cx cy : Int) : Bool := hcB op x0 y0 vx vy vd far cx cy && (hcB op x1 y0 vx vy vd far cx cy && (hcB op x0 y1 vx vy vd far cx cy && hcB op x1 y1 vx vy vd far cx cy))
def ft (W Hh : Int) (xs : List Int) (op : Bool) (x0 y0 x1 y1 vx vy vd far : Int) (c : Int × Int) : Bool := (atI W Hh xs c.1 c.2 == 2) && h4B op x0 y0 x1 y1 vx vy vd far c.1 c.2
def d4 (W Hh : Int) (xs : List Int) (x0 y0 x1 y1 vx vy vd far : Int) (op : Bool) : Bool := !decide (far < 0) && (trL x0 y0 vx vy vd 0 far).any (ft W Hh xs op x0 y0 x1 y1 vx vy vd far)
def frC (W Hh : Int) (xs : List Int) (c : Int × Int) : Bool := atI W Hh xs c.1 c.2 == 1
def empB (W Hh : Int) (xs : List Int) (x0 y0 x1 y1 vx vy vd lo hi : Int) : Bool := (cC x0 y0 x1 y1 vx vy vd lo hi).all (frC W Hh xs)
def refB (W Hh : Int) (xs : List Int) (x0 y0 x1 y1 h m r g : Int) : Bool :=
 bif r == -1 then d4 W Hh xs x0 y0 x1 y1 (bN h m).1 (bN h m).2.1 (bN h m).2.2 (1024 - g) false
 else d4 W Hh xs x0 y0 x1 y1 (bN h m).1 (bN h m).2.1 (bN h m).2.2 (r - g) true || empB W Hh xs x0 y0 x1 y1 (bN h m).1 (bN h m).2.1 (bN h m).2.2 (low0 r g) (r + g)
def dU (x0 y0 x1 y1 : Int) : Bool := btw x0 (-1048576) 1048576 && (btw y0 (-1048576) 1048576 && (btw x1 (-1048576) 1048576 && (btw y1 (-1048576) 1048576 && (btw (x1 - x0) 0 1024 && btw (y1 - y0) 0 1024))))
def badB (W Hh : Int) (xs : List Int) (x0 y0 x1 y1 h : Int) (s : List (Int × Int)) (g : Int) : Bool := dU x0 y0 x1 y1 && s.any fun e => refB W Hh xs x0 y0 x1 y1 h e.1 e.2 g
theorem admB_iff {x0 y0 x1 y1 : Int} : dU x0 y0 x1 y1 = true ↔ ((-1048576 ≤ x0 ∧ x0 ≤ x1 ∧ x1 ≤ 1048576) ∧ -1048576 ≤ y0 ∧ y0 ≤ y1 ∧ y1 ≤ 1048576) ∧ x1 - x0 ≤ 1024 ∧ y1 - y0 ≤ 1024 := by
 unfold dU
 simp only [Bool.and_eq_true, bM]
 omega
def ldN (p : Nat → Bool) : Nat → Nat
 | 0 => 0
 | n + 1 => if ldN p n = n ∧ p n = true then n + 1 else ldN p n
def tlN (p : Nat → Bool) : Nat → Nat
 | 0 => 0
 | n + 1 => if p n = true then tlN p n else n + 1
theorem ldN_le (p : Nat → Bool) : ∀ n, ldN p n ≤ n
 | 0 => Nat.le_refl _
 | n + 1 => by have := ldN_le p n; unfold ldN; split <;> omega
theorem lA {p : Nat → Bool} {i : Nat} : ∀ {n : Nat}, (∀ k, k < i → p k = true) → i ≤ n → (i = n ∨ p i = false) → ldN p n = i
 | 0, _, h, _ => by unfold ldN; omega
 | n + 1, h1, h2, h3 => by
  unfold ldN
  rcases Nat.lt_or_ge i (n + 1) with h | h
  ·have hp : p i = false := h3.resolve_left (by omega)
   have e := lA (n := n) h1 (by omega) (.inr hp)
   rw [e, if_neg]
   rintro ⟨rfl, q⟩
   rw [hp] at q; cases q
  ·obtain rfl : i = n + 1 := by omega
   have e := lA (p := p) (i := n) (n := n) (fun k hk => h1 k (by omega)) (Nat.le_refl _) (.inl rfl)
   rw [e, if_pos ⟨rfl, h1 n (by omega)⟩]
theorem ldN_at {p : Nat → Bool} : ∀ {n : Nat}, ldN p n < n → p (ldN p n) = false
 | n + 1, h => by
  unfold ldN at h ⊢
  split at h
  ·omega
  ·rename_i hn
   rw [if_neg hn]
   rcases Nat.lt_or_ge (ldN p n) n with q | q
   ·exact ldN_at q
   ·have e : ldN p n = n := by have := ldN_le p n; omega
    rw [e] at hn ⊢
    rw [← Bool.not_eq_true]
    exact fun k => hn ⟨rfl, k⟩
theorem tlN_le (p : Nat → Bool) : ∀ n, tlN p n ≤ n
 | 0 => Nat.le_refl _
 | n + 1 => by have := tlN_le p n; unfold tlN; split <;> omega
theorem tlN_lt {p : Nat → Bool} {k : Nat} (hp : p k = false) : ∀ {n : Nat}, k < n → k < tlN p n
 | n + 1, h => by
  unfold tlN
  split
  ·rename_i q
   refine tlN_lt hp ?_
   rcases Nat.lt_or_ge k n with h' | h'
   ·exact h'
   ·obtain rfl : k = n := by omega
    rw [hp] at q; cases q
  ·exact h
theorem tlN_eq {p : Nat → Bool} {j : Nat} (hj : 0 < j ∧ p (j - 1) = false) : ∀ {n : Nat}, j ≤ n → (∀ k, j ≤ k → k < n → p k = true) → tlN p n = j
 | 0, h, _ => by omega
 | n + 1, h, h1 => by
  unfold tlN
  rcases Nat.lt_or_ge n j with q | q
  ·obtain rfl : j = n + 1 := by omega
   rw [if_neg (by rw [show p n = false from hj.2]; decide)]
  ·rw [if_pos (h1 n q (by omega))]
   exact tlN_eq hj q (fun k a b => h1 k a (by omega))
def tX0 (b : T6) : Int := if b.1 < 0 then 0 else b.1
def tY0 (b : T6) : Int := if b.2.1 < 0 then 0 else b.2.1
def tX1 (W : Int) (b : T6) : Int := if 64 * W < b.2.2.1 then 64 * W else b.2.2.1
def tY1 (Hh : Int) (b : T6) : Int := if 64 * Hh < b.2.2.2.1 then 64 * Hh else b.2.2.2.1
def tP (W Hh : Int) (xs : List Int) (b : T6) (s : List (Int × Int)) (g : Int) (k : Nat) : Bool := badB W Hh xs (tX0 b) (tY0 b) (tX1 W b) (tY1 Hh b) (gi (mkB b) k) s g
def tI (W Hh : Int) (xs : List Int) (b : T6) (s : List (Int × Int)) (g : Int) : Nat := ldN (tP W Hh xs b s g) (mkB b).length
def tJ (W Hh : Int) (xs : List Int) (b : T6) (s : List (Int × Int)) (g : Int) : Nat := tlN (tP W Hh xs b s g) (mkB b).length
def tOk (W Hh : Int) (xs : List Int) (b : T6) (s : List (Int × Int)) (g : Int) : Bool := !decide (tX1 W b < tX0 b) && (!decide (tY1 Hh b < tY0 b) && decide (tI W Hh xs b s g < (mkB b).length))
def tB (W Hh : Int) (xs : List Int) (b : T6) (s : List (Int × Int)) (g : Int) : T6 := (tX0 b, tY0 b, tX1 W b, tY1 Hh b, gi (mkB b) (tI W Hh xs b s g), (((tJ W Hh xs b s g - tI W Hh xs b s g : Nat)) : Int))
def InP (b : T6) (x y h : Int) : Prop := (b.1 ≤ x ∧ x ≤ b.2.2.1) ∧ (b.2.1 ≤ y ∧ y ≤ b.2.2.2.1) ∧ jr b.2.2.2.2.1 b.2.2.2.2.2 h
theorem mkB_n {b : T6} : (mkB b).length = b.2.2.2.2.2.toNat := dT _ _
theorem tB_ok {W Hh : Int} {xs : List Int} {b : T6} {s : List (Int × Int)} {g : Int} (hW : 1 ≤ W ∧ W ≤ 64) (hH : 1 ≤ Hh ∧ Hh ≤ 64) (hb : bG b = true) (h : tOk W Hh xs b s g = true) : bG (tB W Hh xs b s g) = true ∧ tI W Hh xs b s g < tJ W Hh xs b s g ∧ tJ W Hh xs b s g ≤ (mkB b).length := by
 unfold tOk at h
 simp only [Bool.and_eq_true, Bool.not_eq_true', decide_eq_false_iff_not, decide_eq_true_eq] at h
 obtain ⟨h1, h2, h3⟩ := h
 have hb6 := bY.1 hb
 have ha := bS.1 hb6.2.2
 have hf : tP W Hh xs b s g (tI W Hh xs b s g) = false := ldN_at h3
 have h4 : tI W Hh xs b s g < tJ W Hh xs b s g := tlN_lt hf h3
 have h5 : tJ W Hh xs b s g ≤ (mkB b).length := tlN_le _ _
 refine ⟨?_, h4, h5⟩
 have hgi := gi_mkB (b := b) h3
 rw [mkB_n] at h3 h5
 unfold bG tB
 simp only
 refine bY.2 ⟨?_, ?_, bS.2 ?_⟩
 ·have q1 : (tX0 b = 0 ∧ b.1 < 0) ∨ (tX0 b = b.1 ∧ 0 ≤ b.1) := by unfold tX0; split <;> omega
  have q2 : (tX1 W b = 64 * W ∧ 64 * W < b.2.2.1) ∨ (tX1 W b = b.2.2.1 ∧ b.2.2.1 ≤ 64 * W) := by unfold tX1; split <;> omega
  omega
 ·have q1 : (tY0 b = 0 ∧ b.2.1 < 0) ∨ (tY0 b = b.2.1 ∧ 0 ≤ b.2.1) := by unfold tY0; split <;> omega
  have q2 : (tY1 Hh b = 64 * Hh ∧ 64 * Hh < b.2.2.2.1) ∨ (tY1 Hh b = b.2.2.2.1 ∧ b.2.2.2.1 ≤ 64 * Hh) := by unfold tY1; split <;> omega
  omega
 ·rw [hgi]; omega
def c9 (n u : Int) : Int := if n = 1 then 0 else n * u
def fu (b : T6) : Int := c9 (b.2.2.1 - b.1 + 1) 1
def fQ (b : T6) : Int := c9 (b.2.2.2.1 - b.2.1 + 1) 1
def splC (b : T6) : Int := c9 b.2.2.2.2.2 8
def dt (b : T6) : Int := if bG b = true then (b.2.2.1 - b.1 + 1) * (b.2.2.2.1 - b.2.1 + 1) * b.2.2.2.2.2 else 0
def cW (b : T6) : Bool := !decide (dt b < 2)
def du (b : T6) : T6 := if fQ b ≤ fu b ∧ splC b ≤ fu b then (b.1, b.2.1, b.1 + (b.2.2.1 - b.1 + 1) / 2 - 1, b.2.2.2.1, b.2.2.2.2.1, b.2.2.2.2.2)
 else if splC b ≤ fQ b then (b.1, b.2.1, b.2.2.1, b.2.1 + (b.2.2.2.1 - b.2.1 + 1) / 2 - 1, b.2.2.2.2.1, b.2.2.2.2.2)
 else (b.1, b.2.1, b.2.2.1, b.2.2.2.1, b.2.2.2.2.1, b.2.2.2.2.2 / 2)
def dw (b : T6) : T6 := if fQ b ≤ fu b ∧ splC b ≤ fu b then (b.1 + (b.2.2.1 - b.1 + 1) / 2, b.2.1, b.2.2.1, b.2.2.2.1, b.2.2.2.2.1, b.2.2.2.2.2)
 else if splC b ≤ fQ b then (b.1, b.2.1 + (b.2.2.2.1 - b.2.1 + 1) / 2, b.2.2.1, b.2.2.2.1, b.2.2.2.2.1, b.2.2.2.2.2)
 else (b.1, b.2.1, b.2.2.1, b.2.2.2.1, (b.2.2.2.2.1 + b.2.2.2.2.2 / 2) % 256, b.2.2.2.2.2 - b.2.2.2.2.2 / 2)
theorem splS_1 {n : Int} (h : 1 ≤ n) : (c9 n 1 = 0 ∧ n = 1) ∨ (c9 n 1 = n ∧ 2 ≤ n) := by unfold c9; split <;> omega
theorem splS_8 {n : Int} (h : 1 ≤ n) : (c9 n 8 = 0 ∧ n = 1) ∨ (c9 n 8 = 8 * n ∧ 2 ≤ n) := by unfold c9; split <;> omega
theorem spl_ok {b : T6} (hb : bG b = true) (h : cW b = true) : bG (du b) = true ∧ bG (dw b) = true ∧ ∀ x y h : Int, InP b x y h → InP (du b) x y h ∨ InP (dw b) x y h := by
 have hb6 := bY.1 hb
 have ha := bS.1 hb6.2.2
 have hA : (fu b = 0 ∧ b.2.2.1 - b.1 + 1 = 1) ∨ (fu b = b.2.2.1 - b.1 + 1 ∧ 2 ≤ b.2.2.1 - b.1 + 1) := splS_1 (by omega)
 have hB : (fQ b = 0 ∧ b.2.2.2.1 - b.2.1 + 1 = 1) ∨ (fQ b = b.2.2.2.1 - b.2.1 + 1 ∧ 2 ≤ b.2.2.2.1 - b.2.1 + 1) := splS_1 (by omega)
 have hC : (splC b = 0 ∧ b.2.2.2.2.2 = 1) ∨ (splC b = 8 * b.2.2.2.2.2 ∧ 2 ≤ b.2.2.2.2.2) := splS_8 (by omega)
 have hn : ¬ (b.2.2.1 - b.1 + 1 = 1 ∧ b.2.2.2.1 - b.2.1 + 1 = 1 ∧ b.2.2.2.2.2 = 1) := fun ⟨q1, q2, q3⟩ => by
  unfold cW dt at h
  rw [if_pos hb, q1, q2, q3] at h
  revert h; decide
 unfold du dw
 split
 ·rename_i hc
  refine ⟨?_, ?_, fun x y h ⟨k1, k2, k3⟩ => ?_⟩
  ·exact bY.2 ⟨by simp only; omega, hb6.2.1, hb6.2.2⟩
  ·exact bY.2 ⟨by simp only; omega, hb6.2.1, hb6.2.2⟩
  ·rcases Int.lt_or_le x (b.1 + (b.2.2.1 - b.1 + 1) / 2) with q | q
   ·exact .inl ⟨by simp only; omega, k2, k3⟩
   ·exact .inr ⟨by simp only; omega, k2, k3⟩
 ·split
  ·rename_i hc0 hc
   refine ⟨?_, ?_, fun x y h ⟨k1, k2, k3⟩ => ?_⟩
   ·exact bY.2 ⟨hb6.1, by simp only; omega, hb6.2.2⟩
   ·exact bY.2 ⟨hb6.1, by simp only; omega, hb6.2.2⟩
   ·rcases Int.lt_or_le y (b.2.1 + (b.2.2.2.1 - b.2.1 + 1) / 2) with q | q
    ·exact .inl ⟨k1, by simp only; omega, k3⟩
    ·exact .inr ⟨k1, by simp only; omega, k3⟩
  ·rename_i hc0 hc
   refine ⟨?_, ?_, fun x y h ⟨k1, k2, k3⟩ => ?_⟩
   ·exact bY.2 ⟨hb6.1, hb6.2.1, bS.2 (by simp only; omega)⟩
   ·exact bY.2 ⟨hb6.1, hb6.2.1, bS.2 (by simp only; omega)⟩
   ·unfold jr at k3
    rcases Int.lt_or_le ((h - b.2.2.2.2.1) % 256) (b.2.2.2.2.2 / 2) with q | q
    ·exact .inl ⟨k1, k2, by unfold jr; simp only; omega⟩
    ·exact .inr ⟨k1, k2, by unfold jr; simp only; omega⟩
def rfn (W Hh : Int) (xs : List Int) (s : List (Int × Int)) (g : Int) : Nat → List T6 → Nat → List T6 → List T6
 | 0, _, _, O => O
 | _ + 1, [], _, O => O
 | n + 1, b :: Q, k, O => if tOk W Hh xs b s g = true then (if 0 < k ∧ cW (tB W Hh xs b s g) = true then rfn W Hh xs s g n (Q ++ [du (tB W Hh xs b s g), dw (tB W Hh xs b s g)]) (k - 1) O else rfn W Hh xs s g n Q k (O ++ [tB W Hh xs b s g])) else rfn W Hh xs s g n Q k O
def bB (W Hh : Int) (xs : List Int) (l : List T6) (s : List (Int × Int)) (g : Int) (k : Nat) : List T6 := rfn W Hh xs s g (l.length + 2 * k) l k []
theorem gA {W Hh : Int} {xs : List Int} {s : List (Int × Int)} {g : Int} (hW : 1 ≤ W ∧ W ≤ 64) (hH : 1 ≤ Hh ∧ Hh ≤ 64) : ∀ (n : Nat) (Q : List T6) (k : Nat) (O : List T6), n = Q.length + 2 * k → (∀ b ∈ Q, bG b = true) → (∀ b ∈ O, bG b = true) → (∀ b ∈ rfn W Hh xs s g n Q k O, bG b = true) ∧ (rfn W Hh xs s g n Q k O).length ≤ Q.length + k + O.length
 | 0, Q, k, O, hn, hQ, hO => ⟨hO, by unfold rfn; omega⟩
 | n + 1, [], k, O, hn, hQ, hO => ⟨hO, by unfold rfn; omega⟩
 | n + 1, b :: Q, k, O, hn, hQ, hO => by
  have hb := hQ b (List.mem_cons_self ..)
  have hQ' : ∀ b ∈ Q, bG b = true := fun c hc => hQ c (List.mem_cons_of_mem _ hc)
  rw [List.length_cons] at hn ⊢
  unfold rfn
  split
  ·rename_i ht
   have hb' := (tB_ok hW hH hb ht).1
   split
   ·rename_i h2
    have hs := spl_ok hb' h2.2
    have ih := gA hW hH (xs := xs) (s := s) (g := g) n (Q ++ [du (tB W Hh xs b s g), dw (tB W Hh xs b s g)]) (k - 1) O (by rw [List.length_append]; simp only [List.length_cons, List.length_nil]; omega) (fun c hc => by
     rcases List.mem_append.1 hc with hc | hc
     ·exact hQ' c hc
     ·rcases List.mem_cons.1 hc with hc | hc
      ·rw [hc]; exact hs.1
      ·rw [List.mem_singleton.1 hc]; exact hs.2.1) hO
    refine ⟨ih.1, ?_⟩
    have := ih.2
    rw [List.length_append] at this
    simp only [List.length_cons, List.length_nil] at this
    omega
   ·have hO' : ∀ c ∈ O ++ [tB W Hh xs b s g], bG c = true := fun c hc => by
     rcases List.mem_append.1 hc with hc | hc
     ·exact hO c hc
     ·rw [List.mem_singleton.1 hc]; exact hb'
    rcases Nat.eq_zero_or_pos n with hn0 | hn0
    ·subst hn0
     refine ⟨hO', ?_⟩
     unfold rfn
     rw [List.length_append]; simp only [List.length_cons, List.length_nil]; omega
    ·have ih := gA hW hH (xs := xs) (s := s) (g := g) n Q k (O ++ [tB W Hh xs b s g]) (by omega) hQ' hO'
     refine ⟨ih.1, ?_⟩
     have := ih.2
     rw [List.length_append] at this
     simp only [List.length_cons, List.length_nil] at this
     omega
  ·have ih := gA hW hH (xs := xs) (s := s) (g := g) n Q k O (by omega) hQ' hO
   exact ⟨ih.1, by have := ih.2; omega⟩
open Go.RowKit
section
variable {W Hh : Int} {xs : List Int} {x y h m g z : Int} {c : Int × Int}
end
set_option linter.unusedSimpArgs false
set_option linter.unusedVariables false
open Go.RowKit
theorem ln_keeps {W Hh : Int} {xs : List Int} {l : List T6} {sc : List (Int × Int)} {g : Int} (h : lnE W Hh xs l sc g = 0) (h0 : ∀ z ∈ xs, 0 ≤ z) : (lnZ W Hh xs l sc g W = W ∧ lnZ W Hh xs l sc g Hh = Hh) ∧ (lnX W Hh xs l sc g).length = xs.length ∧ ∀ i : Nat, i < xs.length → ¬ gi xs i = 0 → gi (lnX W Hh xs l sc g) i = gi xs i := by
 have hR : cV W Hh xs l sc g = true := by
  cases k : cV W Hh xs l sc g
  ·rw [(ln_1 k).1] at h; exact absurd h (by decide)
  ·rfl
 obtain ⟨o, ho⟩ : ∃ o, lnO W Hh xs l sc g = some o := by
  cases k : lnO W Hh xs l sc g with
  | none => rw [(ln_11 hR k).1] at h; exact absurd h (by decide)
  | some o => exact ⟨o, rfl⟩
 obtain ⟨-, e1, e2, e3⟩ := ln_0 hR ho
 have hv := cg.1 (eI.1 hR).1
 have hp : ∀ i, i < xs.length → 0 ≤ gi xs i ∧ gi xs i ≤ 2 := fun i hi => by rw [gi_eq hi]; exact ⟨h0 _ (List.getElem_mem hi), hv.le _ (List.getElem_mem hi)⟩
 have hk0 : jA xs xs := ⟨rfl, hv.le, fun i hi hn => rfl⟩
 have hk : jA xs o := by
  unfold lnO at ho
  split at ho
  ·obtain ⟨q, h1, h2⟩ := Option.bind_eq_some_iff.1 ho
   exact ip hv.len hp (lz hv.len hp (fun c hc => allL_in hc) hk0 h1) h2
  ·cases ho; exact hk0
 rw [e1]
 exact ⟨⟨e2, e3⟩, hk.1, hk.2.2⟩
open Go.RowKit
theorem rem_n3 (a : Nat) : Int.tmod (a : Int) 3 = ((a % 3 : Nat) : Int) := rfl
def ow (i : Nat) : Bool := match i with
 | 0 => false
 | _ + 1 => true
open Go.RowKit
open Go.RowKit
open Go.RowKit
open Go.RowKit
open Go.RowKit
open Go.RowKit
open Go.RowKit
abbrev T4 := Int × Int × Int × Int
def rqA (f le h : Int) : Int := cT h (mxI (f - le) 0)
def rqB (f le h : Int) : Int := cT h (mxI (f + le) 0)
def rqC (f le h : Int) : Int := cU h (mxI (f - le) 0)
def rqD (f le h : Int) : Int := cU h (mxI (f + le) 0)
def rqR (f le sl h : Int) : T4 := if f = 0 then (0, 0, 0, 0) else (mnI (rqA f le h) (rqB f le h) - sl, mnI (rqC f le h) (rqD f le h) - sl, mxI (rqA f le h) (rqB f le h) + sl, mxI (rqC f le h) (rqD f le h) + sl)
def rcS (f le sl : Int) (L : List Int) : Nat → T4
 | 0 => (0, 0, 0, 0)
 | n + 1 => (mnI (if n = 0 then (rqR f le sl (gi L n)).1 else (rcS f le sl L n).1) (rqR f le sl (gi L n)).1, mnI (if n = 0 then (rqR f le sl (gi L n)).2.1 else (rcS f le sl L n).2.1) (rqR f le sl (gi L n)).2.1, mxI (if n = 0 then (rqR f le sl (gi L n)).2.2.1 else (rcS f le sl L n).2.2.1) (rqR f le sl (gi L n)).2.2.1, mxI (if n = 0 then (rqR f le sl (gi L n)).2.2.2 else (rcS f le sl L n).2.2.2) (rqR f le sl (gi L n)).2.2.2)
theorem fH {a b : Int} : mnI a b ≤ a ∧ mnI a b ≤ b ∧ (mnI a b = a ∨ mnI a b = b) := by unfold mnI; split <;> omega
theorem fI {a b : Int} : a ≤ mxI a b ∧ b ≤ mxI a b ∧ (mxI a b = a ∨ mxI a b = b) := by unfold mxI; split <;> omega
theorem rqR_bd {f le sl h : Int} (hf : 0 ≤ f ∧ f ≤ 32) (hl : 0 ≤ le ∧ le ≤ 16) (hs : 0 ≤ sl ∧ sl ≤ 8) : (-64 ≤ (rqR f le sl h).1 ∧ (rqR f le sl h).1 ≤ (rqR f le sl h).2.2.1 ∧ (rqR f le sl h).2.2.1 ≤ 64) ∧ -64 ≤ (rqR f le sl h).2.1 ∧ (rqR f le sl h).2.1 ≤ (rqR f le sl h).2.2.2 ∧ (rqR f le sl h).2.2.2 ≤ 64 := by
 unfold rqR
 split
 ·exact ⟨by decide, by decide⟩
 ·have m1 : 0 ≤ mxI (f - le) 0 ∧ mxI (f - le) 0 ≤ 48 := by unfold mxI; split <;> omega
  have m2 : 0 ≤ mxI (f + le) 0 ∧ mxI (f + le) 0 ≤ 48 := by unfold mxI; split <;> omega
  have w1 := lu h m1.1
  have w2 := lu h m2.1
  have e1 : rqA f le h = cT h (mxI (f - le) 0) := rfl
  have e2 : rqB f le h = cT h (mxI (f + le) 0) := rfl
  have e3 : rqC f le h = cU h (mxI (f - le) 0) := rfl
  have e4 : rqD f le h = cU h (mxI (f + le) 0) := rfl
  have n1 := fH (a := rqA f le h) (b := rqB f le h)
  have n2 := fH (a := rqC f le h) (b := rqD f le h)
  have x1 := fI (a := rqA f le h) (b := rqB f le h)
  have x2 := fI (a := rqC f le h) (b := rqD f le h)
  simp only
  omega
theorem rcS_bd {f le sl : Int} {L : List Int} (hf : 0 ≤ f ∧ f ≤ 32) (hl : 0 ≤ le ∧ le ≤ 16) (hs : 0 ≤ sl ∧ sl ≤ 8) : ∀ n : Nat, (-64 ≤ (rcS f le sl L n).1 ∧ (rcS f le sl L n).1 ≤ (rcS f le sl L n).2.2.1 ∧ (rcS f le sl L n).2.2.1 ≤ 64) ∧ -64 ≤ (rcS f le sl L n).2.1 ∧ (rcS f le sl L n).2.1 ≤ (rcS f le sl L n).2.2.2 ∧ (rcS f le sl L n).2.2.2 ≤ 64
 | 0 => by unfold rcS; exact ⟨by decide, by decide⟩
 | n + 1 => by
  have r := rqR_bd (h := gi L n) hf hl hs
  have ih := rcS_bd (L := L) hf hl hs n
  unfold rcS
  simp only
  by_cases h0 : n = 0
  ·rw [if_pos h0, if_pos h0, if_pos h0, if_pos h0]
   have n1 := fH (a := (rqR f le sl (gi L n)).1) (b := (rqR f le sl (gi L n)).1)
   have n2 := fH (a := (rqR f le sl (gi L n)).2.1) (b := (rqR f le sl (gi L n)).2.1)
   have x1 := fI (a := (rqR f le sl (gi L n)).2.2.1) (b := (rqR f le sl (gi L n)).2.2.1)
   have x2 := fI (a := (rqR f le sl (gi L n)).2.2.2) (b := (rqR f le sl (gi L n)).2.2.2)
   omega
  ·rw [if_neg h0, if_neg h0, if_neg h0, if_neg h0]
   have n1 := fH (a := (rcS f le sl L n).1) (b := (rqR f le sl (gi L n)).1)
   have n2 := fH (a := (rcS f le sl L n).2.1) (b := (rqR f le sl (gi L n)).2.1)
   have x1 := fI (a := (rcS f le sl L n).2.2.1) (b := (rqR f le sl (gi L n)).2.2.1)
   have x2 := fI (a := (rcS f le sl L n).2.2.2) (b := (rqR f le sl (gi L n)).2.2.2)
   omega
def imR (b : T6) (t f tu le sl : Int) : T4 := rcS f le sl (mrkA b.2.2.2.2.1 b.2.2.2.2.2 t tu) (mrkA b.2.2.2.2.1 b.2.2.2.2.2 t tu).length
def imB (b : T6) (t f tu le sl : Int) : T6 := (b.1 + (imR b t f tu le sl).1, b.2.1 + (imR b t f tu le sl).2.1, b.2.2.1 + (imR b t f tu le sl).2.2.1, b.2.2.2.1 + (imR b t f tu le sl).2.2.2, grF (shF b.2.2.2.2.1 b.2.2.2.2.2 t) (cB b.2.2.2.2.2) tu, grC (cB b.2.2.2.2.2) tu)
def imO (b : T6) (t f tu le sl : Int) : Bool := !([(imB b t f tu le sl).1, (imB b t f tu le sl).2.2.1, (imB b t f tu le sl).2.1, (imB b t f tu le sl).2.2.2.1].any offB)
def imE (b : T6) (t f tu le sl : Int) : Int := if imO b t f tu le sl = true then 0 else 2
theorem imB_ok {b : T6} {t f tu le sl : Int} (hb : bG b = true) (hf : 0 ≤ f ∧ f ≤ 32) (hu : 0 ≤ tu ∧ tu ≤ 8) (hl : 0 ≤ le ∧ le ≤ 16) (hs : 0 ≤ sl ∧ sl ≤ 8) (h : imO b t f tu le sl = true) : bG (imB b t f tu le sl) = true := by
 have hb6 := bY.1 hb
 have r := rcS_bd (L := mrkA b.2.2.2.2.1 b.2.2.2.2.2 t tu) hf hl hs (mrkA b.2.2.2.2.1 b.2.2.2.2.2 t tu).length
 have e : imR b t f tu le sl = rcS f le sl (mrkA b.2.2.2.2.1 b.2.2.2.2.2 t tu) (mrkA b.2.2.2.2.1 b.2.2.2.2.2 t tu).length := rfl
 rw [← e] at r
 unfold imO offB at h
 simp only [List.any_cons, List.any_nil, Bool.or_false, Bool.not_eq_true', Bool.or_eq_false_iff, decide_eq_false_iff_not] at h
 refine bY.2 ⟨?_, ?_, ?_⟩
 ·unfold imB at *; simp only at *; omega
 ·unfold imB at *; simp only at *; omega
 ·have ka := bS.1 hb6.2.2
  show cp (grF _ _ _) (grC _ _) = true
  exact gX (by unfold cB; split <;> omega)
def imS (l : List T6) (t f tu le sl : Int) : Nat → List T6
 | 0 => []
 | n + 1 => imS l t f tu le sl n ++ [imB (g6 l n) t f tu le sl]
def imA (l : List T6) (t f tu le sl : Int) : Bool := l.all fun b => imO b t f tu le sl
theorem dk {l : List T6} {t f tu le sl : Int} : ∀ n : Nat, (imS l t f tu le sl n).length = n
 | 0 => rfl
 | n + 1 => by rw [imS, List.length_append, dk n]; rfl
theorem imS_mem {l : List T6} {t f tu le sl : Int} {b : T6} : ∀ {n : Nat}, b ∈ imS l t f tu le sl n ↔ ∃ j : Nat, j < n ∧ b = imB (g6 l j) t f tu le sl
 | 0 => by simp [imS]
 | n + 1 => by
  rw [imS, List.mem_append, List.mem_singleton, imS_mem]
  constructor
  ·rintro (⟨j, h1, h2⟩ | h)
   ·exact ⟨j, by omega, h2⟩
   ·exact ⟨n, by omega, h⟩
  ·rintro ⟨j, h1, h2⟩
   rcases Nat.lt_or_ge j n with q | q
   ·exact .inl ⟨j, q, h2⟩
   ·obtain rfl : j = n := by omega
    exact .inr h2
open Go.RowKit
abbrev C4 := Int × Int × Int × T6
def chN (l : List T6) (i j : Nat) : Int := dt (dY (g6 l i) (g6 l j)) - dt (g6 l i) - dt (g6 l j)
def chU (l : List T6) (i k : Nat) (s : C4) : C4 := if s.1 < 0 ∨ chN l i (i + 1 + k) < s.2.2.1 then ((i : Int), (i : Int) + 1 + (k : Int), chN l i (i + 1 + k), dY (g6 l i) (g6 l (i + 1 + k))) else s
def chR (l : List T6) (i : Nat) (s : C4) : Nat → C4
 | 0 => s
 | k + 1 => chU l i k (chR l i s k)
def chO (l : List T6) : Nat → C4
 | 0 => (-1, -1, 0, (0, 0, 0, 0, 0, 0))
 | n + 1 => chR l n (chO l n) (l.length - (n + 1))
def chP (l : List T6) (s : C4) : Prop := ∃ i j : Nat, i < j ∧ j < l.length ∧ s.1 = (i : Int) ∧ s.2.1 = (j : Int) ∧ s.2.2.2 = dY (g6 l i) (g6 l j)
theorem g8 (b : T6) : 0 ≤ dt b ∧ dt b ≤ 1125906929254400 := by
 unfold dt
 split
 ·rename_i h
  have hb := bY.1 h
  have ha := bS.1 hb.2.2
  have m1 := bR (a := b.2.2.1 - b.1 + 1) (b := b.2.2.2.1 - b.2.1 + 1) (A := 2097153) (B := 2097153) (by omega) (by omega)
  have p1 : 0 ≤ (b.2.2.1 - b.1 + 1) * (b.2.2.2.1 - b.2.1 + 1) := Int.mul_nonneg (by omega) (by omega)
  have m2 := bR (a := (b.2.2.1 - b.1 + 1) * (b.2.2.2.1 - b.2.1 + 1)) (b := b.2.2.2.2.2) (A := 4398050705409) (B := 256) (by omega) (by omega)
  have p2 : 0 ≤ (b.2.2.1 - b.1 + 1) * (b.2.2.2.1 - b.2.1 + 1) * b.2.2.2.2.2 := Int.mul_nonneg p1 (by omega)
  omega
 ·omega
theorem chN_bd (l : List T6) (i j : Nat) : -2251813858508800 ≤ chN l i j ∧ chN l i j ≤ 1125906929254400 := by
 have h1 := g8 (dY (g6 l i) (g6 l j))
 have h2 := g8 (g6 l i)
 have h3 := g8 (g6 l j)
 unfold chN; omega
theorem chU_c (l : List T6) (i k : Nat) (s : C4) : (chU l i k s = ((i : Int), (i : Int) + 1 + (k : Int), chN l i (i + 1 + k), dY (g6 l i) (g6 l (i + 1 + k))) ∧ (s.1 < 0 ∨ chN l i (i + 1 + k) < s.2.2.1)) ∨ (chU l i k s = s ∧ ¬ s.1 < 0 ∧ ¬ chN l i (i + 1 + k) < s.2.2.1) := by
 unfold chU
 split
 ·rename_i h; exact .inl ⟨rfl, h⟩
 ·rename_i h; exact .inr ⟨rfl, fun q => h (.inl q), fun q => h (.inr q)⟩
def chI (l : List T6) (s : C4) : Prop := (s.1 = -1 ∧ s.2.1 = -1 ∧ s.2.2.1 = 0) ∨ (chP l s ∧ -2251813858508800 ≤ s.2.2.1 ∧ s.2.2.1 ≤ 1125906929254400)
theorem chU_i {l : List T6} {i k : Nat} {s : C4} (h : chI l s) (hk : i + 1 + k < l.length) : chI l (chU l i k s) ∧ ¬ (chU l i k s).1 < 0 := by
 have e : ((i : Int) + 1 + (k : Int)) = ((i + 1 + k : Nat) : Int) := by omega
 rcases chU_c l i k s with ⟨q, -⟩ | ⟨q, h1, h2⟩
 ·rw [q]
  exact ⟨.inr ⟨⟨i, i + 1 + k, by omega, hk, rfl, e, rfl⟩, chN_bd l i (i + 1 + k)⟩, by simp only; omega⟩
 ·rw [q]; exact ⟨h, h1⟩
theorem chR_i {l : List T6} {i : Nat} {s : C4} (h : chI l s) : ∀ k : Nat, k ≤ l.length - (i + 1) → chI l (chR l i s k) ∧ (0 < k → ¬ (chR l i s k).1 < 0) ∧ (¬ s.1 < 0 → ¬ (chR l i s k).1 < 0)
 | 0, _ => ⟨h, fun q => by omega, fun q => q⟩
 | k + 1, hk => by
  have ih := chR_i (i := i) h k (by omega)
  have u := chU_i (k := k) (i := i) ih.1 (by omega)
  exact ⟨u.1, fun _ => u.2, fun _ => u.2⟩
theorem chO_i (l : List T6) : ∀ n : Nat, n ≤ l.length → chI l (chO l n) ∧ (0 < n → 2 ≤ l.length → ¬ (chO l n).1 < 0)
 | 0, _ => ⟨.inl ⟨rfl, rfl, rfl⟩, fun q => by omega⟩
 | n + 1, hn => by
  have ih := chO_i l n (by omega)
  have r := chR_i (i := n) ih.1 (l.length - (n + 1)) (Nat.le_refl _)
  refine ⟨r.1, fun _ h2 => ?_⟩
  rcases Nat.eq_zero_or_pos n with h0 | h0
  ·exact r.2.1 (by omega)
  ·exact r.2.2 (ih.2 h0 h2)
theorem chO_p {l : List T6} (h : 2 ≤ l.length) : chP l (chO l l.length) := by
 have k := chO_i l l.length (Nat.le_refl _)
 have k2 := k.2 (by omega) h
 rcases k.1 with ⟨q, -⟩ | ⟨q, -⟩
 ·omega
 ·exact q
theorem chO_bd {l : List T6} {n : Nat} (h : n ≤ l.length) : (-1 ≤ (chO l n).1 ∧ (chO l n).1 ≤ (l.length : Int)) ∧ -2251813858508800 ≤ (chO l n).2.2.1 ∧ (chO l n).2.2.1 ≤ 1125906929254400 := by
 rcases (chO_i l n h).1 with ⟨a, b, c⟩ | ⟨⟨i, j, h1, h2, a, b, c⟩, d⟩ <;> omega
theorem chR_bd {l : List T6} {n k : Nat} (h : n ≤ l.length) (hk : k ≤ l.length - (n + 1)) : (-1 ≤ (chR l n (chO l n) k).1 ∧ (chR l n (chO l n) k).1 ≤ (l.length : Int)) ∧ -2251813858508800 ≤ (chR l n (chO l n) k).2.2.1 ∧ (chR l n (chO l n) k).2.2.1 ≤ 1125906929254400 := by
 rcases (chR_i (i := n) (chO_i l n h).1 k hk).1 with ⟨a, b, c⟩ | ⟨⟨i, j, h1, h2, a, b, c⟩, d⟩ <;> omega
def cpA (l : List T6) : List T6 := l.set (chO l l.length).1.toNat (chO l l.length).2.2.2
def cpS (l : List T6) : List T6 := (cpA l).take (chO l l.length).2.1.toNat ++ (cpA l).drop ((chO l l.length).2.1.toNat + 1)
def cpI : Nat → List T6 → List T6
 | 0, l => l
 | n + 1, l => cpI n (cpS l)
def cpL (l : List T6) : List T6 := cpI (l.length - 16) l
theorem cpA_len (l : List T6) : (cpA l).length = l.length := List.length_set
theorem cpS_len {l : List T6} (h : 2 ≤ l.length) : (cpS l).length = l.length - 1 := by
 obtain ⟨i, j, h1, h2, a, b, c⟩ := chO_p h
 unfold cpS
 rw [List.length_append, List.length_take, List.length_drop, cpA_len, b]
 omega
theorem cpS_mem {l : List T6} (h : 2 ≤ l.length) : ∃ i j : Nat, i < j ∧ j < l.length ∧ dY (g6 l i) (g6 l j) ∈ cpS l ∧ (∀ b ∈ cpS l, b ∈ l ∨ b = dY (g6 l i) (g6 l j)) ∧ ∀ n : Nat, n < l.length → n ≠ i → n ≠ j → g6 l n ∈ cpS l := by
 obtain ⟨i, j, h1, h2, a, b, c⟩ := chO_p h
 have eA : cpA l = l.set i (dY (g6 l i) (g6 l j)) := by unfold cpA; rw [a, c]; rfl
 have eS : cpS l = (l.set i (dY (g6 l i) (g6 l j))).take j ++ (l.set i (dY (g6 l i) (g6 l j))).drop (j + 1) := by unfold cpS; rw [eA, b]; rfl
 have hin : ∀ n : Nat, (hn : n < (l.set i (dY (g6 l i) (g6 l j))).length) → n ≠ j → (l.set i (dY (g6 l i) (g6 l j)))[n] ∈ cpS l := fun n hn hne => by
  rw [eS]
  rcases Nat.lt_or_ge n j with q | q
  ·refine List.mem_append_left _ (List.mem_iff_getElem.2 ⟨n, by rw [List.length_take]; omega, ?_⟩)
   rw [List.getElem_take]
  ·refine List.mem_append_right _ (List.mem_iff_getElem.2 ⟨n - (j + 1), by rw [List.length_drop]; omega, ?_⟩)
   rw [List.getElem_drop]
   congr 1; omega
 refine ⟨i, j, h1, h2, ?_, fun b hb => ?_, fun n hn hi hj => ?_⟩
 ·have := hin i (by rw [List.length_set]; omega) (by omega)
  rwa [List.getElem_set_self] at this
 ·rw [eS] at hb
  have hb' : b ∈ l.set i (dY (g6 l i) (g6 l j)) := by
   rcases List.mem_append.1 hb with q | q
   ·exact List.mem_of_mem_take q
   ·exact List.mem_of_mem_drop q
  exact (List.mem_or_eq_of_mem_set hb').imp id id
 ·have := hin n (by rw [List.length_set]; exact hn) hj
  rw [List.getElem_set_ne (fun q => hi q.symm)] at this
  rw [show g6 l n = l[n] from jm hn]; exact this
theorem cpS_ok {l : List T6} (h : 2 ≤ l.length) (hv : ∀ b ∈ l, bG b = true) : ∀ b ∈ cpS l, bG b = true := fun b hb => by
 obtain ⟨i, j, h1, h2, -, k, -⟩ := cpS_mem h
 rcases k b hb with q | q
 ·exact hv b q
 ·rw [q]; exact hulB_ok (hv _ (cG (by omega))) (hv _ (cG h2))
theorem cpI_ok : ∀ (n : Nat) (l : List T6), n + 1 ≤ l.length → (∀ b ∈ l, bG b = true) → (∀ b ∈ cpI n l, bG b = true) ∧ (cpI n l).length = l.length - n
 | 0, l, _, hv => ⟨hv, rfl⟩
 | n + 1, l, h, hv => by
  have e := cpS_len (l := l) (by omega)
  have ih := cpI_ok n (cpS l) (by omega) (cpS_ok (by omega) hv)
  exact ⟨ih.1, by rw [cpI, ih.2, e]; omega⟩
theorem cpL_ok {l : List T6} (h0 : 0 < l.length) (hv : ∀ b ∈ l, bG b = true) : bU (cpL l) = true ∧ 0 < (cpL l).length := by
 have k := cpI_ok (l.length - 16) l (by omega) hv
 refine ⟨bX.2 ⟨?_, k.1⟩, ?_⟩
 ·show (cpI (l.length - 16) l).length ≤ 16; rw [k.2]; omega
 ·show 0 < (cpI (l.length - 16) l).length; rw [k.2]; omega
open Go.RowKit
open Go.RowKit
set_option maxHeartbeats 4000000
set_option maxRecDepth 100000
open Go.RowKit
open Go.RowKit
theorem ddown_c (H : ac) (a : Int) (b : Int) (hb : 0 < b) (hw : -4611686018427387904 ≤ a ∧ a ≤ 4611686018427387904) : ACalls Tryz.prog 79 [.int .i64 a, .int .i64 b] H (fun v H' => v = .int .i64 (a / b) ∧ H' = H) := by
 have htd := gV (a := a) (b := b) hb hw
 refine AcT true Tryz.func79 ?_; intro hbel Q hQ
 refine bi ?_
 refine aq (fun h1 => ?_) (fun h1 => ?_)
 ·have h1d := bsT h1
  have hfinq : Int.tdiv a b - 1 = a / b := by rw [← gw hb, if_pos h1d]
  have g'1 := (jn @h1 @h1d)
  refine aa g'1 ?_
  exact hQ _ _ (aE (.inl rfl) hbel (x := .int .i64 ((Int.tdiv a b) - 1)) (av Tryz.results79) rfl ⟨congrArg (AV.int .i64) hfinq, rfl⟩)
 ·have h1d := bsT h1
  have hfinq : Int.tdiv a b = a / b := by rw [← gw hb, if_neg (by omega)]
  have g'2 := (jn @h1 @h1d)
  refine aa g'2 ?_
  exact hQ _ _ (aE (.inl rfl) hbel (x := .int .i64 (Int.tdiv a b)) (av Tryz.results79) rfl ⟨congrArg (AV.int .i64) hfinq, rfl⟩)
theorem bV (H : ac) (h : Int) (n : Int) (hn : -1000 ≤ n ∧ n ≤ 1000) : ACalls Tryz.prog 50 [.int .i64 h, .int .i64 n] H (fun v H' => v = .agg [.int .i64 (cT h (mxI n 0)), .int .i64 (cU h (mxI n 0))] ∧ H' = H) := by
 have hz : (if 0 < n then n else 0) = mxI n 0 := by unfold mxI; split <;> split <;> omega
 have hzb : 0 ≤ mxI n 0 ∧ mxI n 0 ≤ 1000 := by unfold mxI; split <;> omega
 have hdv := di.1 (gh h)
 have hm1 := bR (a := mxI n 0) (b := (cS h).1) (A := 1000) (B := 8065) (by omega) (by omega)
 have hm2 := bR (a := mxI n 0) (b := (cS h).2.1) (A := 1000) (B := 8065) (by omega) (by omega)
 refine AcT true Tryz.func50 ?_; intro hbel Q hQ
 have g'8 := @hz
 refine aa g'8 ?_
 refine aj (by kernel_rfl) (dir_c _ h) ?_
 refine aa g'8 ?_
 refine aP (by kernel_rfl) (ddown_c _ ((mxI n 0) * ((cS h).1)) ((cS h).2.2) (by omega) (by omega)) ?_
 refine aa g'8 ?_
 refine aP (by kernel_rfl) (ddown_c _ ((mxI n 0) * ((cS h).2.1)) ((cS h).2.2) (by omega) (by omega)) ?_
 refine aa g'8 ?_
 exact hQ _ _ (ai (.inl rfl) hbel (x := .agg [.int .i64 (((mxI n 0) * ((cS h).1)) / ((cS h).2.2)), .int .i64 (((mxI n 0) * ((cS h).2.1)) / ((cS h).2.2))]) (av Tryz.results50) rfl ⟨rfl, rfl⟩)
open Go.RowKit
def cqX (x0 x1 : Int) : Nat → Int
 | 0 => x0
 | 1 => x1
 | 2 => x0
 | _ => x1
def cqY (y0 y1 : Int) : Nat → Int
 | 0 => y0
 | 1 => y0
 | 2 => y1
 | _ => y1
def h4K (op : Bool) (x0 y0 x1 y1 vx vy vd far cx cy : Int) : Nat → Bool
 | 0 => true
 | n + 1 => h4K op x0 y0 x1 y1 vx vy vd far cx cy n && hcB op (cqX x0 x1 n) (cqY y0 y1 n) vx vy vd far cx cy
theorem h4K_4 {op : Bool} {x0 y0 x1 y1 vx vy vd far cx cy : Int} : h4K op x0 y0 x1 y1 vx vy vd far cx cy 4 = h4B op x0 y0 x1 y1 vx vy vd far cx cy := by
 simp only [h4K, h4B, cqX, cqY, Bool.true_and, Bool.and_assoc]
theorem hcB_t {op : Bool} (h : op = true) {x y vx vy vd far cx cy : Int} : hcB op x y vx vy vd far cx cy = dF x y vx vy vd far (cx * 64) (cy * 64) ((cx + 1) * 64) ((cy + 1) * 64) := by unfold hcB; rw [h]; rfl
theorem hcB_f {op : Bool} (h : op = false) {x y vx vy vd far cx cy : Int} : hcB op x y vx vy vd far cx cy = ef x y vx vy vd 0 far (cx * 64) (cy * 64) ((cx + 1) * 64) ((cy + 1) * 64) := by unfold hcB; rw [h]; rfl
def ad4 (x0 y0 x1 y1 : Int) : Nat → Int
 | 0 => x0
 | 1 => y0
 | 2 => x1
 | _ => y1
theorem lB {α : Type} {p : α → Bool} {l : List α} (h : ∀ j : Nat, (hj : j < l.length) → p l[j] = false) : l.any p = false := List.any_eq_false.2 fun c hc => by
 obtain ⟨j, hj, rfl⟩ := List.mem_iff_getElem.1 hc
 rw [h j hj]; decide
theorem dj (H : ac) (n : Int) (lo : Int) (hi : Int) : ACalls Tryz.prog 88 [.int .i64 n, .int .i64 lo, .int .i64 hi] H (fun v H' => v = .bool (btw n lo hi) ∧ H' = H) := by
 refine AcT true Tryz.func88 ?_; intro hbel Q hQ
 refine bi ?_
 refine az (fun h1 => ?_) (fun h1 => ?_)
 ·have h1d := bsT h1
  have g'1 := (jn @h1 @h1d)
  refine aa g'1 ?_
  exact hQ _ _ (aE (.inl rfl) hbel (x := .bool (decide (n ≤ hi))) (av Tryz.results88) rfl ⟨by simp [btw, h1d], rfl⟩)
 ·have h1d := bsT h1
  have g'2 := (jn @h1 @h1d)
  refine aa g'2 ?_
  exact hQ _ _ (aE (.inl rfl) hbel (x := .bool false) (av Tryz.results88) rfl ⟨by simp [btw, h1d], rfl⟩)
theorem cvb_c (H : ac) (m : Int) (r : Int) : ACalls Tryz.prog 164 [.agg [.int .i64 m, .int .i64 r]] H (fun v H' => v = .bool (dy m r) ∧ H' = H) := by
 refine AcT true Tryz.func164 ?_; intro hbel Q hQ
 refine bi ?_
 refine aj (by kernel_rfl) (dj _ m 0 255) ?_
 refine bi ?_
 refine az (fun h1 => ?_) (fun h1 => ?_)
 ·have h1d := bsT h1
  have g'3 := (jn @h1 @h1d)
  refine aa g'3 ?_
  refine aj (by kernel_rfl) (dj _ r (-1) 1024) ?_
  refine aa g'3 ?_
  exact hQ _ _ (ai (.inl rfl) hbel (x := .bool (btw r (-1) 1024)) (av Tryz.results164) rfl ⟨by simp [dy, h1d], rfl⟩)
 ·have h1d := bsT h1
  have g'4 := (jn @h1 @h1d)
  refine aa g'4 ?_
  exact hQ _ _ (ai (.inl rfl) hbel (x := .bool false) (av Tryz.results164) rfl ⟨by simp [dy, h1d], rfl⟩)
theorem cvs_c (H : ac) (q : AV) (sc : List (Int × Int)) (hq : Sl H 2 q sc.length (prs sc)) (hl : sc.length ≤ 1000000000) : ACalls Tryz.prog 122 [q] H (fun v H' => v = .bool (cd sc) ∧ H' = H) := by
 obtain ⟨bq, oq, cq, rfl, hbq⟩ := hq
 have hblq := getElem?_lt hbq
 have hb0q := fun l => aD (l := l) hbq
 refine AcT true Tryz.func122 ?_; intro hbel Q hQ
 have g'5 := (jn @hbq @hb0q)
 refine aa g'5 ?_
 refine go_loop try_mixed (by kernel_rfl) (fun k F Hx => ∃ i : Nat, i + k = sc.length ∧ (∀ j : Nat, j < i → dy (g1 sc j) (g2 sc j) = true) ∧ F = [(0, .sl (some (bq, 0)) sc.length cq), (5, .sl (some (bq, 0)) sc.length cq), (6, .int .i64 ((sc.length : Nat) : Int)), (7, .int .i64 ((i : Nat) : Int))] ∧ H = Hx) (sc.length) ?_ ?_
 ·refine ⟨_, _, _, ⟨0, by omega, (fun j h => by omega), rfl, rfl⟩, Abs.by0 hbel ?_⟩
  exact bj
 ·rintro k0 F Hx ⟨i, hm0, hal, rfl, rfl⟩ J0 hJ0
  refine aa g'5 ?_
  refine aq (fun h1 => ?_) (fun h1 => ?_)
  ·have h1d := bsT h1
   have hlt : i < sc.length := by omega
   have q2 := cA (l := sc) (j := i) (by omega)
   have g'6 := (jn @h1 (jn @h1d (jn @q2 g'5)))
   refine aa g'6 ?_
   refine aj (by kernel_rfl) (cvb_c _ (g1 sc i) (g2 sc i)) ?_
   refine aa g'6 ?_
   refine aq (fun h3 => ?_) (fun h3 => ?_)
   ·have h3d := bsT h3
    have hfinS : cd sc = false := by
     rw [← Bool.not_eq_true]; intro k
     have q := (dG.1 k).2 _ (List.getElem_mem hlt)
     rw [← cu hlt] at q
     exact absurd (q.symm.trans h3d) (by decide)
    have g'7 := (jn @h3 (jn @h3d g'6))
    refine aa g'7 ?_
    exact hQ _ _ (ai (.inl rfl) hbel (x := .bool false) (av Tryz.results122) rfl ⟨by first | (rw [hfinS]; done) | (rw [hfinS]; rfl), rfl⟩)
   ·have h3d := bsT h3
    have hbk := h3d
    have g'8 := (jn @h3 (jn @h3d g'6))
    refine aa g'8 ?_
    refine hJ0 _ _ ⟨k0 - 1, by omega, _, _, _, ⟨i + 1, by omega, fun j hj => by
          rcases Nat.lt_or_ge j i with h | h
          ·exact hal j h
          ·rw [show j = i by omega]; exact hbk, rfl, rfl⟩, Abs.byN hbel ?_⟩
    exact bj
  ·have h1d := bsT h1
   obtain rfl : i = sc.length := by omega
   have hfinS : cd sc = decide (((sc.length : Nat) : Int) ≤ 32) := by
    unfold cd
    rw [lB (fun j hj => by rw [← cu hj]; show (!dy _ _) = false; rw [hal j hj]; rfl)]; simp
   have g'9 := (jn @h1 (jn @h1d g'5))
   refine aa g'9 ?_
   exact hQ _ _ (aE (.inl rfl) hbel (x := .bool (decide (((sc.length : Nat) : Int) ≤ 32))) (av Tryz.results122) rfl ⟨by first | (rw [hfinS]; done) | (rw [hfinS]; rfl), rfl⟩)
theorem cadm_c (H : ac) (x0 : Int) (y0 : Int) (x1 : Int) (y1 : Int) : ACalls Tryz.prog 165 [.agg [.int .i64 x0, .int .i64 y0, .int .i64 x1, .int .i64 y1]] H (fun v H' => v = .bool (dU x0 y0 x1 y1) ∧ H' = H) := by
 refine AcT true Tryz.func165 ?_; intro hbel Q hQ
 refine bi ?_
 refine go_loop try_mixed (by kernel_rfl) (fun k F Hx => ∃ i : Nat, i + k = 4 ∧ (∀ j : Nat, j < i → btw (ad4 x0 y0 x1 y1 j) (-1048576) 1048576 = true) ∧ F = [(1, .ptr (some (H.length, 0))), (13, .agg [.int .i64 x0, .int .i64 y0, .int .i64 x1, .int .i64 y1]), (14, .int .i64 ((i : Nat) : Int))] ∧ Hx = H ++ [.cells true 0 [.int .i64 x0, .int .i64 y0, .int .i64 x1, .int .i64 y1]]) (4) ?_ ?_
 ·refine ⟨_, _, _, ⟨0, by omega, (fun j h => by omega), rfl, rfl⟩, Abs.byG hbel [] rfl [0] (by decide) ?_⟩
  exact bj
 ·rintro k0 F Hx ⟨i, hm0, hal, rfl, rfl⟩ J0 hJ0
  refine bi ?_
  refine aq (fun h1 => ?_) (fun h1 => ?_)
  ·have h1d := bsT h1
   obtain rfl | rfl | rfl | rfl := (by omega : i = 0 ∨ i = 1 ∨ i = 2 ∨ i = 3)
   ·skip
    have g'10 := (jn @h1 @h1d)
    refine aa g'10 ?_
    refine aj (by kernel_rfl) (dj _ x0 (-1048576) 1048576) ?_
    refine aa g'10 ?_
    refine aq (fun h2 => ?_) (fun h2 => ?_)
    ·have h2d := bsT h2
     have hfinA : dU x0 y0 x1 y1 = false := by unfold dU; simp [h2d]
     have g'11 := (jn @h2 (jn @h2d g'10))
     refine aa g'11 ?_
     exact hQ _ _ (ai (.inl rfl) hbel (x := .bool false) (av Tryz.results165) rfl ⟨by first | (rw [hfinA]; done) | (unfold dU; rw [hfa0, hfa1, hfa2, hfa3]; simp [h1d, h2d, hfinA]; done), rfl⟩)
    ·have h2d := bsT h2
     have hbk := h2d
     have g'12 := (jn @h2 (jn @h2d g'10))
     refine aa g'12 ?_
     refine hJ0 _ _ ⟨k0 - 1, by omega, _, _, _, ⟨0 + 1, by omega, fun j hj => by
           rcases Nat.lt_or_ge j 0 with h | h
           ·exact hal j h
           ·rw [show j = 0 by omega]; exact hbk, rfl, rfl⟩, Abs.byG hbel [] rfl [0] (by decide) ?_⟩
     exact bj
   ·skip
    have g'13 := (jn @h1 @h1d)
    refine aa g'13 ?_
    refine aj (by kernel_rfl) (dj _ y0 (-1048576) 1048576) ?_
    refine aa g'13 ?_
    refine aq (fun h3 => ?_) (fun h3 => ?_)
    ·have h3d := bsT h3
     have hfinA : dU x0 y0 x1 y1 = false := by unfold dU; simp [h3d]
     have g'14 := (jn @h3 (jn @h3d g'13))
     refine aa g'14 ?_
     exact hQ _ _ (ai (.inl rfl) hbel (x := .bool false) (av Tryz.results165) rfl ⟨by first | (rw [hfinA]; done) | (unfold dU; rw [hfa0, hfa1, hfa2, hfa3]; simp [h1d, h3d, hfinA]; done), rfl⟩)
    ·have h3d := bsT h3
     have hbk := h3d
     have g'15 := (jn @h3 (jn @h3d g'13))
     refine aa g'15 ?_
     refine hJ0 _ _ ⟨k0 - 1, by omega, _, _, _, ⟨1 + 1, by omega, fun j hj => by
           rcases Nat.lt_or_ge j 1 with h | h
           ·exact hal j h
           ·rw [show j = 1 by omega]; exact hbk, rfl, rfl⟩, Abs.byG hbel [] rfl [0] (by decide) ?_⟩
     exact bj
   ·skip
    have g'16 := (jn @h1 @h1d)
    refine aa g'16 ?_
    refine aj (by kernel_rfl) (dj _ x1 (-1048576) 1048576) ?_
    refine aa g'16 ?_
    refine aq (fun h4 => ?_) (fun h4 => ?_)
    ·have h4d := bsT h4
     have hfinA : dU x0 y0 x1 y1 = false := by unfold dU; simp [h4d]
     have g'17 := (jn @h4 (jn @h4d g'16))
     refine aa g'17 ?_
     exact hQ _ _ (ai (.inl rfl) hbel (x := .bool false) (av Tryz.results165) rfl ⟨by first | (rw [hfinA]; done) | (unfold dU; rw [hfa0, hfa1, hfa2, hfa3]; simp [h1d, h4d, hfinA]; done), rfl⟩)
    ·have h4d := bsT h4
     have hbk := h4d
     have g'18 := (jn @h4 (jn @h4d g'16))
     refine aa g'18 ?_
     refine hJ0 _ _ ⟨k0 - 1, by omega, _, _, _, ⟨2 + 1, by omega, fun j hj => by
           rcases Nat.lt_or_ge j 2 with h | h
           ·exact hal j h
           ·rw [show j = 2 by omega]; exact hbk, rfl, rfl⟩, Abs.byG hbel [] rfl [0] (by decide) ?_⟩
     exact bj
   ·skip
    have g'19 := (jn @h1 @h1d)
    refine aa g'19 ?_
    refine aj (by kernel_rfl) (dj _ y1 (-1048576) 1048576) ?_
    refine aa g'19 ?_
    refine aq (fun h5 => ?_) (fun h5 => ?_)
    ·have h5d := bsT h5
     have hfinA : dU x0 y0 x1 y1 = false := by unfold dU; simp [h5d]
     have g'20 := (jn @h5 (jn @h5d g'19))
     refine aa g'20 ?_
     exact hQ _ _ (ai (.inl rfl) hbel (x := .bool false) (av Tryz.results165) rfl ⟨by first | (rw [hfinA]; done) | (unfold dU; rw [hfa0, hfa1, hfa2, hfa3]; simp [h1d, h5d, hfinA]; done), rfl⟩)
    ·have h5d := bsT h5
     have hbk := h5d
     have g'21 := (jn @h5 (jn @h5d g'19))
     refine aa g'21 ?_
     refine hJ0 _ _ ⟨k0 - 1, by omega, _, _, _, ⟨3 + 1, by omega, fun j hj => by
           rcases Nat.lt_or_ge j 3 with h | h
           ·exact hal j h
           ·rw [show j = 3 by omega]; exact hbk, rfl, rfl⟩, Abs.byG hbel [] rfl [0] (by decide) ?_⟩
     exact bj
  ·have h1d := bsT h1
   obtain rfl : i = 4 := by omega
   have hfa0 : btw x0 (-1048576) 1048576 = true := hal 0 (by omega)
   have hfa1 : btw y0 (-1048576) 1048576 = true := hal 1 (by omega)
   have hfa2 : btw x1 (-1048576) 1048576 = true := hal 2 (by omega)
   have hfa3 : btw y1 (-1048576) 1048576 = true := hal 3 (by omega)
   have hxb := bM.1 hfa0
   have hyb := bM.1 hfa1
   have hxc := bM.1 hfa2
   have hyc := bM.1 hfa3
   have g'22 := (jn @h1 @h1d)
   refine aa g'22 ?_
   refine aj (by kernel_rfl) (dj _ (x1 - x0) 0 1024) ?_
   refine aa g'22 ?_
   refine az (fun h6 => ?_) (fun h6 => ?_)
   ·have h6d := bsT h6
    have g'23 := (jn @h6 (jn @h6d g'22))
    refine aa g'23 ?_
    refine aj (by kernel_rfl) (dj _ (y1 - y0) 0 1024) ?_
    refine aa g'23 ?_
    exact hQ _ _ (ai (.inl rfl) hbel (x := .bool (btw (y1 - y0) 0 1024)) (av Tryz.results165) rfl ⟨by first | (rw [hfinA]; done) | (unfold dU; rw [hfa0, hfa1, hfa2, hfa3]; simp [h1d, h6d]; done), rfl⟩)
   ·have h6d := bsT h6
    have g'24 := (jn @h6 (jn @h6d g'22))
    refine aa g'24 ?_
    exact hQ _ _ (ai (.inl rfl) hbel (x := .bool false) (av Tryz.results165) rfl ⟨by first | (rw [hfinA]; done) | (unfold dU; rw [hfa0, hfa1, hfa2, hfa3]; simp [h1d, h6d]; done), rfl⟩)
theorem cright_c (H : ac) (W : Int) (Hh : Int) (pp : AV) (xs : List Int) (q : AV) (sc : List (Int × Int)) (g : Int) (hpp : Sl H 1 pp xs.length (ints .u8 xs)) (hq : Sl H 2 q sc.length (prs sc)) (hsc : sc.length ≤ 1000000000) : ACalls Tryz.prog 87 [.agg [.int .i64 W, .int .i64 Hh, pp], q, .int .i64 g] H (fun v H' => v = .bool (b9 W Hh xs && (cd sc && btw g 1 32)) ∧ H' = H) := by
 obtain ⟨bpp, opp, cpp, rfl, hbpp⟩ := hpp
 have hblpp := getElem?_lt hbpp
 have hb0pp := fun l => aD (l := l) hbpp
 obtain ⟨bq, oq, cq, rfl, hbq⟩ := hq
 have hblq := getElem?_lt hbq
 have hb0q := fun l => aD (l := l) hbq
 refine AcT true Tryz.func87 ?_; intro hbel Q hQ
 have g'25 := (jn @hbpp (jn @hb0pp (jn @hbq @hb0q)))
 refine aa g'25 ?_
 refine aj (by kernel_rfl) (g3 _ W Hh _ xs (.inr ⟨_, _, _, rfl, by first | exact hb0pp _ | exact hbpp⟩)) ?_
 refine aa g'25 ?_
 refine az (fun h1 => ?_) (fun h1 => ?_)
 ·have h1d := bsT h1
  have g'26 := (jn @h1 (jn @h1d g'25))
  refine aa g'26 ?_
  refine aj (by kernel_rfl) (cvs_c _ _ sc ⟨_, _, _, rfl, by first | exact hb0q _ | exact hbq⟩ (by first | omega | simp)) ?_
  refine aa g'26 ?_
  refine az (fun h2 => ?_) (fun h2 => ?_)
  ·have h2d := bsT h2
   have g'27 := (jn @h2 (jn @h2d g'26))
   refine aa g'27 ?_
   refine aj (by kernel_rfl) (dj _ g 1 32) ?_
   refine aa g'27 ?_
   exact hQ _ _ (ai (.inl rfl) hbel (x := .bool (btw g 1 32)) (av Tryz.results87) rfl ⟨by first | (simp [h1d, h2d]; done) | (simp only [h1, h2]; rfl), rfl⟩)
  ·have h2d := bsT h2
   have g'28 := (jn @h2 (jn @h2d g'26))
   refine aa g'28 ?_
   exact hQ _ _ (ai (.inl rfl) hbel (x := .bool false) (av Tryz.results87) rfl ⟨by first | (simp [h1d, h2d]; done) | (simp only [h1, h2]; rfl), rfl⟩)
 ·have h1d := bsT h1
  have g'29 := (jn @h1 (jn @h1d g'25))
  refine aa g'29 ?_
  exact hQ _ _ (ai (.inl rfl) hbel (x := .bool false) (av Tryz.results87) rfl ⟨by first | (simp [h1d]; done) | (simp only [h1]; rfl), rfl⟩)
open Go.RowKit
theorem hidt_c (H : ac) (W : Int) (Hh : Int) (pp : AV) (xs : List Int) (x0 : Int) (y0 : Int) (x1 : Int) (y1 : Int) (vx : Int) (vy : Int) (vd : Int) (far : Int)  (hpp : Sl H 1 pp xs.length (ints .u8 xs)) (hV : b9 W Hh xs = true) (hx : -1048576 ≤ x0 ∧ x0 ≤ 1048576) (hy : -1048576 ≤ y0 ∧ y0 ≤ 1048576) : ACalls Tryz.prog 195 [.agg [.int .i64 W, .int .i64 Hh, pp], .agg [.int .i64 x0, .int .i64 y0, .int .i64 x1, .int .i64 y1], .agg [.int .i64 vx, .int .i64 vy, .int .i64 vd], .int .i64 far, .bool true] H (fun v H' => v = .bool (d4 W Hh xs x0 y0 x1 y1 vx vy vd far true) ∧ H' = H) := by
 obtain ⟨bpp, opp, cpp, rfl, hbpp⟩ := hpp
 have hblpp := getElem?_lt hbpp
 have hb0pp := fun l => aD (l := l) hbpp
 have htl := jx x0 y0 vx vy vd 0 far
 refine AcT true Tryz.func195 ?_; intro hbel Q hQ
 have g'1 := (jn @hbpp @hb0pp)
 refine aa g'1 ?_
 refine aq (fun h1 => ?_) (fun h1 => ?_)
 ·have h1d := bsT h1
  have hfinH : d4 W Hh xs x0 y0 x1 y1 vx vy vd far true = false := by unfold d4; rw [decide_eq_true h1d]; rfl
  have g'2 := (jn @h1 (jn @h1d g'1))
  refine aa g'2 ?_
  exact hQ _ _ (ai (.inl rfl) hbel (x := .bool false) (av Tryz.results195) rfl ⟨by first | (rw [hfinH]; done) | (rw [hfinH]; rfl), rfl⟩)
 ·have h1d := bsT h1
  have hf0 := h1d
  have g'3 := (jn @h1 (jn @h1d g'1))
  refine aa g'3 ?_
  refine aj (by kernel_rfl) (kj _ x0 y0 vx vy vd 0 far) ?_
  refine aa g'3 ?_
  refine go_loop try_mixed (by kernel_rfl) (fun k F Hx => ∃ i : Nat, i + k = (trL x0 y0 vx vy vd 0 far).length ∧ (∀ j : Nat, j < i → ft W Hh xs true x0 y0 x1 y1 vx vy vd far (g1 (trL x0 y0 vx vy vd 0 far) j, g2 (trL x0 y0 vx vy vd 0 far) j) = false) ∧ F = [(3, .int .i64 far), (4, .bool true), (5, .ptr (some (H.length, 0))), (7, .ptr (some (H.length + 1, 0))), (11, .ptr (some (H.length + 2, 0))), (51, .sl (some (H.length + 3, 0)) ((trL x0 y0 vx vy vd 0 far).length) (bA (trL x0 y0 vx vy vd 0 far).length)), (52, .int .i64 (((trL x0 y0 vx vy vd 0 far).length : Nat) : Int)), (53, .int .i64 ((i : Nat) : Int))] ∧ Hx = H ++ [.cells true 0 [.int .i64 W, .int .i64 Hh, .sl (some (bpp, 0)) xs.length cpp], .cells true 0 [.int .i64 vx, .int .i64 vy, .int .i64 vd], .cells true 0 [.int .i64 x0, .int .i64 y0, .int .i64 x1, .int .i64 y0, .int .i64 x0, .int .i64 y1, .int .i64 x1, .int .i64 y1], .cells (bm (trL x0 y0 vx vy vd 0 far).length) 2 (prs (trL x0 y0 vx vy vd 0 far))]) ((trL x0 y0 vx vy vd 0 far).length) ?_ ?_
  ·refine ⟨_, _, _, ⟨0, by omega, (fun j h => by omega), rfl, rfl⟩, Abs.byG hbel [] rfl [0, 2, 3, 4] (by decide) ?_⟩
   exact eX
  ·rintro k0 F Hx ⟨i, hm0, hal, rfl, rfl⟩ J0 hJ0
   have g'4 := (jn @bE (jn @cD g'3))
   refine aa g'4 ?_
   refine aq (fun h2 => ?_) (fun h2 => ?_)
   ·have h2d := bsT h2
    have hlt : i < (trL x0 y0 vx vy vd 0 far).length := by omega
    have htm := trL_mem (List.getElem_mem hlt)
    rw [← cu hlt] at htm
    simp only at htm
    have q3 := cA (l := trL x0 y0 vx vy vd 0 far) (j := i) (by omega)
    have g'5 := (jn @h2 (jn @h2d (jn @q3 g'4)))
    refine aa g'5 ?_
    refine aj (by kernel_rfl) (pat_c _ W Hh _ xs (g1 (trL x0 y0 vx vy vd 0 far) i) (g2 (trL x0 y0 vx vy vd 0 far) i) ⟨_, _, _, rfl, by first | exact hb0pp _ | exact hbpp⟩ hV) ?_
    refine aa g'5 ?_
    refine aq (fun h4 => ?_) (fun h4 => ?_)
    ·have h4d := bsT h4
     have h4n := bnT h4
     have hno : ft W Hh xs true x0 y0 x1 y1 vx vy vd far ((g1 (trL x0 y0 vx vy vd 0 far) i), (g2 (trL x0 y0 vx vy vd 0 far) i)) = false := by unfold ft; rw [beq_eq_false_iff_ne.2 (by first | exact h4d | simpa using h4d)]; rfl
     have g'6 := (jn @h4 (jn @h4n (jn @aT (jn @aS g'5))))
     refine aa g'6 ?_
     refine hJ0 _ _ ⟨k0 - 1, by omega, _, _, _, ⟨i + 1, by omega, fun j hj => by
           rcases Nat.lt_or_ge j i with h | h
           ·exact hal j h
           ·rw [show j = i by omega]; exact hno, rfl, rfl⟩, Abs.byG hbel [] rfl [0, 1, 2, 3] (by decide) ?_⟩
     exact eX
    ·have h4d := bsT h4
     have h4n := bnT h4
     have hat : atI W Hh xs (g1 (trL x0 y0 vx vy vd 0 far) i) (g2 (trL x0 y0 vx vy vd 0 far) i) = 2 := by first | exact h4d | simpa using h4d
     have g'7 := (jn @h4 (jn @h4n (jn @aT (jn @aS g'5))))
     refine aa g'7 ?_
     refine go_loop try_mixed (by kernel_rfl) (fun k F Hx => ∃ n : Nat, n + k = 4 ∧ F = [(3, .int .i64 far), (4, .bool true), (5, .ptr (some (H.length, 0))), (7, .ptr (some (H.length + 1, 0))), (11, .ptr (some (H.length + 2, 0))), (16, .ptr (some (H.length + 4, 0))), (17, .bool (h4K true x0 y0 x1 y1 vx vy vd far (g1 (trL x0 y0 vx vy vd 0 far) i) (g2 (trL x0 y0 vx vy vd 0 far) i) n)), (51, .sl (some (H.length + 3, 0)) ((trL x0 y0 vx vy vd 0 far).length) (bA (trL x0 y0 vx vy vd 0 far).length)), (52, .int .i64 (((trL x0 y0 vx vy vd 0 far).length : Nat) : Int)), (53, .int .i64 ((i : Nat) : Int)), (76, .agg [.int .i64 x0, .int .i64 y0, .int .i64 x1, .int .i64 y0, .int .i64 x0, .int .i64 y1, .int .i64 x1, .int .i64 y1]), (77, .int .i64 ((n : Nat) : Int))] ∧ Hx = H ++ [.cells true 0 [.int .i64 W, .int .i64 Hh, .sl (some (bpp, 0)) xs.length cpp], .cells true 0 [.int .i64 vx, .int .i64 vy, .int .i64 vd], .cells true 0 [.int .i64 x0, .int .i64 y0, .int .i64 x1, .int .i64 y0, .int .i64 x0, .int .i64 y1, .int .i64 x1, .int .i64 y1], .cells (bm (trL x0 y0 vx vy vd 0 far).length) 2 (prs (trL x0 y0 vx vy vd 0 far)), .cells true 0 [.int .i64 ((g1 (trL x0 y0 vx vy vd 0 far) i) * 64), .int .i64 ((g2 (trL x0 y0 vx vy vd 0 far) i) * 64), .int .i64 (((g1 (trL x0 y0 vx vy vd 0 far) i) + 1) * 64), .int .i64 (((g2 (trL x0 y0 vx vy vd 0 far) i) + 1) * 64)]]) (4) ?_ ?_
     ·refine ⟨_, _, _, ⟨0, by omega, rfl, rfl⟩, Abs.byG hbel [] rfl [0, 1, 2, 3, 5] (by decide) ?_⟩
      exact aN @h4K.eq_1
     ·rintro k1 F Hx ⟨n, hm1, rfl, rfl⟩ J1 hJ1
      refine aa g'7 ?_
      refine aq (fun h5 => ?_) (fun h5 => ?_)
      ·have h5d := bsT h5
       obtain rfl | rfl | rfl | rfl := (by omega : n = 0 ∨ n = 1 ∨ n = 2 ∨ n = 3)
       ·skip
        have g'8 := (jn @h5 (jn @h5d g'7))
        refine aa g'8 ?_
        refine az (fun h6 => ?_) (fun h6 => ?_)
        ·have h6d := bsT h6
         have hst : h4K true x0 y0 x1 y1 vx vy vd far (g1 (trL x0 y0 vx vy vd 0 far) i) (g2 (trL x0 y0 vx vy vd 0 far) i) 1 = dF x0 y0 vx vy vd far ((g1 (trL x0 y0 vx vy vd 0 far) i) * 64) ((g2 (trL x0 y0 vx vy vd 0 far) i) * 64) (((g1 (trL x0 y0 vx vy vd 0 far) i) + 1) * 64) (((g2 (trL x0 y0 vx vy vd 0 far) i) + 1) * 64) := by
          show (h4K true x0 y0 x1 y1 vx vy vd far (g1 (trL x0 y0 vx vy vd 0 far) i) (g2 (trL x0 y0 vx vy vd 0 far) i) 0 && hcB true x0 y0 vx vy vd far (g1 (trL x0 y0 vx vy vd 0 far) i) (g2 (trL x0 y0 vx vy vd 0 far) i)) = _
          rw [h6d, Bool.true_and]; exact hcB_t rfl
         have g'9 := (jn @h6 (jn @h6d g'8))
         refine aa g'9 ?_
         refine aj (by kernel_rfl) (dN _ x0 y0 vx vy vd far ((g1 (trL x0 y0 vx vy vd 0 far) i) * 64) ((g2 (trL x0 y0 vx vy vd 0 far) i) * 64) (((g1 (trL x0 y0 vx vy vd 0 far) i) + 1) * 64) (((g2 (trL x0 y0 vx vy vd 0 far) i) + 1) * 64)) ?_
         refine aa g'9 ?_
         refine hJ1 _ _ ⟨k1 - 1, by omega, _, _, _, ⟨0 + 1, by omega, rfl, rfl⟩, Abs.byG hbel [] rfl [0, 1, 2, 3, 4] (by decide) ?_⟩
         exact aN @hst
        ·have h6d := bsT h6
         exact absurd (show true = false from h6d) (by decide)
       ·skip
        have g'10 := (jn @h5 (jn @h5d g'7))
        refine aa g'10 ?_
        refine az (fun h7 => ?_) (fun h7 => ?_)
        ·have h7d := bsT h7
         have hst : h4K true x0 y0 x1 y1 vx vy vd far (g1 (trL x0 y0 vx vy vd 0 far) i) (g2 (trL x0 y0 vx vy vd 0 far) i) 2 = dF x1 y0 vx vy vd far ((g1 (trL x0 y0 vx vy vd 0 far) i) * 64) ((g2 (trL x0 y0 vx vy vd 0 far) i) * 64) (((g1 (trL x0 y0 vx vy vd 0 far) i) + 1) * 64) (((g2 (trL x0 y0 vx vy vd 0 far) i) + 1) * 64) := by
          show (h4K true x0 y0 x1 y1 vx vy vd far (g1 (trL x0 y0 vx vy vd 0 far) i) (g2 (trL x0 y0 vx vy vd 0 far) i) 1 && hcB true x1 y0 vx vy vd far (g1 (trL x0 y0 vx vy vd 0 far) i) (g2 (trL x0 y0 vx vy vd 0 far) i)) = _
          rw [h7d, Bool.true_and]; exact hcB_t rfl
         have g'11 := (jn @h7 (jn @h7d g'10))
         refine aa g'11 ?_
         refine aj (by kernel_rfl) (dN _ x1 y0 vx vy vd far ((g1 (trL x0 y0 vx vy vd 0 far) i) * 64) ((g2 (trL x0 y0 vx vy vd 0 far) i) * 64) (((g1 (trL x0 y0 vx vy vd 0 far) i) + 1) * 64) (((g2 (trL x0 y0 vx vy vd 0 far) i) + 1) * 64)) ?_
         refine aa g'11 ?_
         refine hJ1 _ _ ⟨k1 - 1, by omega, _, _, _, ⟨1 + 1, by omega, rfl, rfl⟩, Abs.byG hbel [] rfl [0, 1, 2, 3, 4] (by decide) ?_⟩
         exact aN @hst
        ·have h7d := bsT h7
         have hst : h4K true x0 y0 x1 y1 vx vy vd far (g1 (trL x0 y0 vx vy vd 0 far) i) (g2 (trL x0 y0 vx vy vd 0 far) i) 2 = false := by
          show (h4K true x0 y0 x1 y1 vx vy vd far (g1 (trL x0 y0 vx vy vd 0 far) i) (g2 (trL x0 y0 vx vy vd 0 far) i) 1 && _) = false
          rw [h7d]; rfl
         have g'12 := (jn @h7 (jn @h7d g'10))
         refine aa g'12 ?_
         refine hJ1 _ _ ⟨k1 - 1, by omega, _, _, _, ⟨1 + 1, by omega, rfl, rfl⟩, Abs.byG hbel [] rfl [0, 1, 2, 3, 4] (by decide) ?_⟩
         exact aN @hst
       ·skip
        have g'13 := (jn @h5 (jn @h5d g'7))
        refine aa g'13 ?_
        refine az (fun h8 => ?_) (fun h8 => ?_)
        ·have h8d := bsT h8
         have hst : h4K true x0 y0 x1 y1 vx vy vd far (g1 (trL x0 y0 vx vy vd 0 far) i) (g2 (trL x0 y0 vx vy vd 0 far) i) 3 = dF x0 y1 vx vy vd far ((g1 (trL x0 y0 vx vy vd 0 far) i) * 64) ((g2 (trL x0 y0 vx vy vd 0 far) i) * 64) (((g1 (trL x0 y0 vx vy vd 0 far) i) + 1) * 64) (((g2 (trL x0 y0 vx vy vd 0 far) i) + 1) * 64) := by
          show (h4K true x0 y0 x1 y1 vx vy vd far (g1 (trL x0 y0 vx vy vd 0 far) i) (g2 (trL x0 y0 vx vy vd 0 far) i) 2 && hcB true x0 y1 vx vy vd far (g1 (trL x0 y0 vx vy vd 0 far) i) (g2 (trL x0 y0 vx vy vd 0 far) i)) = _
          rw [h8d, Bool.true_and]; exact hcB_t rfl
         have g'14 := (jn @h8 (jn @h8d g'13))
         refine aa g'14 ?_
         refine aj (by kernel_rfl) (dN _ x0 y1 vx vy vd far ((g1 (trL x0 y0 vx vy vd 0 far) i) * 64) ((g2 (trL x0 y0 vx vy vd 0 far) i) * 64) (((g1 (trL x0 y0 vx vy vd 0 far) i) + 1) * 64) (((g2 (trL x0 y0 vx vy vd 0 far) i) + 1) * 64)) ?_
         refine aa g'14 ?_
         refine hJ1 _ _ ⟨k1 - 1, by omega, _, _, _, ⟨2 + 1, by omega, rfl, rfl⟩, Abs.byG hbel [] rfl [0, 1, 2, 3, 4] (by decide) ?_⟩
         exact aN @hst
        ·have h8d := bsT h8
         have hst : h4K true x0 y0 x1 y1 vx vy vd far (g1 (trL x0 y0 vx vy vd 0 far) i) (g2 (trL x0 y0 vx vy vd 0 far) i) 3 = false := by
          show (h4K true x0 y0 x1 y1 vx vy vd far (g1 (trL x0 y0 vx vy vd 0 far) i) (g2 (trL x0 y0 vx vy vd 0 far) i) 2 && _) = false
          rw [h8d]; rfl
         have g'15 := (jn @h8 (jn @h8d g'13))
         refine aa g'15 ?_
         refine hJ1 _ _ ⟨k1 - 1, by omega, _, _, _, ⟨2 + 1, by omega, rfl, rfl⟩, Abs.byG hbel [] rfl [0, 1, 2, 3, 4] (by decide) ?_⟩
         exact aN @hst
       ·skip
        have g'16 := (jn @h5 (jn @h5d g'7))
        refine aa g'16 ?_
        refine az (fun h9 => ?_) (fun h9 => ?_)
        ·have h9d := bsT h9
         have hst : h4K true x0 y0 x1 y1 vx vy vd far (g1 (trL x0 y0 vx vy vd 0 far) i) (g2 (trL x0 y0 vx vy vd 0 far) i) 4 = dF x1 y1 vx vy vd far ((g1 (trL x0 y0 vx vy vd 0 far) i) * 64) ((g2 (trL x0 y0 vx vy vd 0 far) i) * 64) (((g1 (trL x0 y0 vx vy vd 0 far) i) + 1) * 64) (((g2 (trL x0 y0 vx vy vd 0 far) i) + 1) * 64) := by
          show (h4K true x0 y0 x1 y1 vx vy vd far (g1 (trL x0 y0 vx vy vd 0 far) i) (g2 (trL x0 y0 vx vy vd 0 far) i) 3 && hcB true x1 y1 vx vy vd far (g1 (trL x0 y0 vx vy vd 0 far) i) (g2 (trL x0 y0 vx vy vd 0 far) i)) = _
          rw [h9d, Bool.true_and]; exact hcB_t rfl
         have g'17 := (jn @h9 (jn @h9d g'16))
         refine aa g'17 ?_
         refine aj (by kernel_rfl) (dN _ x1 y1 vx vy vd far ((g1 (trL x0 y0 vx vy vd 0 far) i) * 64) ((g2 (trL x0 y0 vx vy vd 0 far) i) * 64) (((g1 (trL x0 y0 vx vy vd 0 far) i) + 1) * 64) (((g2 (trL x0 y0 vx vy vd 0 far) i) + 1) * 64)) ?_
         refine aa g'17 ?_
         refine hJ1 _ _ ⟨k1 - 1, by omega, _, _, _, ⟨3 + 1, by omega, rfl, rfl⟩, Abs.byG hbel [] rfl [0, 1, 2, 3, 4] (by decide) ?_⟩
         exact aN @hst
        ·have h9d := bsT h9
         have hst : h4K true x0 y0 x1 y1 vx vy vd far (g1 (trL x0 y0 vx vy vd 0 far) i) (g2 (trL x0 y0 vx vy vd 0 far) i) 4 = false := by
          show (h4K true x0 y0 x1 y1 vx vy vd far (g1 (trL x0 y0 vx vy vd 0 far) i) (g2 (trL x0 y0 vx vy vd 0 far) i) 3 && _) = false
          rw [h9d]; rfl
         have g'18 := (jn @h9 (jn @h9d g'16))
         refine aa g'18 ?_
         refine hJ1 _ _ ⟨k1 - 1, by omega, _, _, _, ⟨3 + 1, by omega, rfl, rfl⟩, Abs.byG hbel [] rfl [0, 1, 2, 3, 4] (by decide) ?_⟩
         exact aN @hst
      ·have h5d := bsT h5
       obtain rfl : n = 4 := by omega
       have g'19 := (jn @h5 (jn @h5d g'7))
       refine aa g'19 ?_
       refine aq (fun h10 => ?_) (fun h10 => ?_)
       ·have h10d := bsT h10
        have hfinH : d4 W Hh xs x0 y0 x1 y1 vx vy vd far true = true := by
         unfold d4
         rw [decide_eq_false hf0]
         exact List.any_eq_true.2 ⟨_, List.getElem_mem hlt, by
          rw [← cu hlt]; unfold ft; rw [Bool.and_eq_true, beq_iff_eq]; exact ⟨hat, h4K_4.symm.trans h10d⟩⟩
        have g'20 := (jn @h10 (jn @h10d g'19))
        refine aa g'20 ?_
        exact hQ _ _ (ai (.inl rfl) hbel (x := .bool true) (av Tryz.results195) rfl ⟨by first | (rw [hfinH]; done) | (rw [hfinH]; rfl), rfl⟩)
       ·have h10d := bsT h10
        have hno : ft W Hh xs true x0 y0 x1 y1 vx vy vd far ((g1 (trL x0 y0 vx vy vd 0 far) i), (g2 (trL x0 y0 vx vy vd 0 far) i)) = false := by unfold ft; rw [Bool.and_eq_false_iff]; right; exact h4K_4.symm.trans h10d
        have g'21 := (jn @h10 (jn @h10d g'19))
        refine aa g'21 ?_
        refine hJ0 _ _ ⟨k0 - 1, by omega, _, _, _, ⟨i + 1, by omega, fun j hj => by
              rcases Nat.lt_or_ge j i with h | h
              ·exact hal j h
              ·rw [show j = i by omega]; exact hno, rfl, rfl⟩, Abs.byG hbel [] rfl [0, 1, 2, 3] (by decide) ?_⟩
        exact eX
   ·have h2d := bsT h2
    obtain rfl : i = (trL x0 y0 vx vy vd 0 far).length := by omega
    have hfinH : d4 W Hh xs x0 y0 x1 y1 vx vy vd far true = false := by
     unfold d4
     rw [lB (fun j hj => by rw [← cu hj]; exact hal j hj)]; simp
    have g'22 := (jn @h2 (jn @h2d g'4))
    refine aa g'22 ?_
    exact hQ _ _ (ai (.inl rfl) hbel (x := .bool false) (av Tryz.results195) rfl ⟨by first | (rw [hfinH]; done) | (rw [hfinH]; rfl), rfl⟩)
theorem hidf_c (H : ac) (W : Int) (Hh : Int) (pp : AV) (xs : List Int) (x0 : Int) (y0 : Int) (x1 : Int) (y1 : Int) (vx : Int) (vy : Int) (vd : Int) (far : Int)  (hpp : Sl H 1 pp xs.length (ints .u8 xs)) (hV : b9 W Hh xs = true) (hx : -1048576 ≤ x0 ∧ x0 ≤ 1048576) (hy : -1048576 ≤ y0 ∧ y0 ≤ 1048576) : ACalls Tryz.prog 195 [.agg [.int .i64 W, .int .i64 Hh, pp], .agg [.int .i64 x0, .int .i64 y0, .int .i64 x1, .int .i64 y1], .agg [.int .i64 vx, .int .i64 vy, .int .i64 vd], .int .i64 far, .bool false] H (fun v H' => v = .bool (d4 W Hh xs x0 y0 x1 y1 vx vy vd far false) ∧ H' = H) := by
 obtain ⟨bpp, opp, cpp, rfl, hbpp⟩ := hpp
 have hblpp := getElem?_lt hbpp
 have hb0pp := fun l => aD (l := l) hbpp
 have htl := jx x0 y0 vx vy vd 0 far
 refine AcT true Tryz.func195 ?_; intro hbel Q hQ
 have g'23 := (jn @hbpp @hb0pp)
 refine aa g'23 ?_
 refine aq (fun h1 => ?_) (fun h1 => ?_)
 ·have h1d := bsT h1
  have hfinH : d4 W Hh xs x0 y0 x1 y1 vx vy vd far false = false := by unfold d4; rw [decide_eq_true h1d]; rfl
  have g'24 := (jn @h1 (jn @h1d g'23))
  refine aa g'24 ?_
  exact hQ _ _ (ai (.inl rfl) hbel (x := .bool false) (av Tryz.results195) rfl ⟨by first | (rw [hfinH]; done) | (rw [hfinH]; rfl), rfl⟩)
 ·have h1d := bsT h1
  have hf0 := h1d
  have g'25 := (jn @h1 (jn @h1d g'23))
  refine aa g'25 ?_
  refine aj (by kernel_rfl) (kj _ x0 y0 vx vy vd 0 far) ?_
  refine aa g'25 ?_
  refine go_loop try_mixed (by kernel_rfl) (fun k F Hx => ∃ i : Nat, i + k = (trL x0 y0 vx vy vd 0 far).length ∧ (∀ j : Nat, j < i → ft W Hh xs false x0 y0 x1 y1 vx vy vd far (g1 (trL x0 y0 vx vy vd 0 far) j, g2 (trL x0 y0 vx vy vd 0 far) j) = false) ∧ F = [(3, .int .i64 far), (4, .bool false), (5, .ptr (some (H.length, 0))), (7, .ptr (some (H.length + 1, 0))), (11, .ptr (some (H.length + 2, 0))), (51, .sl (some (H.length + 3, 0)) ((trL x0 y0 vx vy vd 0 far).length) (bA (trL x0 y0 vx vy vd 0 far).length)), (52, .int .i64 (((trL x0 y0 vx vy vd 0 far).length : Nat) : Int)), (53, .int .i64 ((i : Nat) : Int))] ∧ Hx = H ++ [.cells true 0 [.int .i64 W, .int .i64 Hh, .sl (some (bpp, 0)) xs.length cpp], .cells true 0 [.int .i64 vx, .int .i64 vy, .int .i64 vd], .cells true 0 [.int .i64 x0, .int .i64 y0, .int .i64 x1, .int .i64 y0, .int .i64 x0, .int .i64 y1, .int .i64 x1, .int .i64 y1], .cells (bm (trL x0 y0 vx vy vd 0 far).length) 2 (prs (trL x0 y0 vx vy vd 0 far))]) ((trL x0 y0 vx vy vd 0 far).length) ?_ ?_
  ·refine ⟨_, _, _, ⟨0, by omega, (fun j h => by omega), rfl, rfl⟩, Abs.byG hbel [] rfl [0, 2, 3, 4] (by decide) ?_⟩
   exact eX
  ·rintro k0 F Hx ⟨i, hm0, hal, rfl, rfl⟩ J0 hJ0
   have g'26 := (jn @bE (jn @cD g'25))
   refine aa g'26 ?_
   refine aq (fun h2 => ?_) (fun h2 => ?_)
   ·have h2d := bsT h2
    have hlt : i < (trL x0 y0 vx vy vd 0 far).length := by omega
    have htm := trL_mem (List.getElem_mem hlt)
    rw [← cu hlt] at htm
    simp only at htm
    have q3 := cA (l := trL x0 y0 vx vy vd 0 far) (j := i) (by omega)
    have g'27 := (jn @h2 (jn @h2d (jn @q3 g'26)))
    refine aa g'27 ?_
    refine aj (by kernel_rfl) (pat_c _ W Hh _ xs (g1 (trL x0 y0 vx vy vd 0 far) i) (g2 (trL x0 y0 vx vy vd 0 far) i) ⟨_, _, _, rfl, by first | exact hb0pp _ | exact hbpp⟩ hV) ?_
    refine aa g'27 ?_
    refine aq (fun h4 => ?_) (fun h4 => ?_)
    ·have h4d := bsT h4
     have h4n := bnT h4
     have hno : ft W Hh xs false x0 y0 x1 y1 vx vy vd far ((g1 (trL x0 y0 vx vy vd 0 far) i), (g2 (trL x0 y0 vx vy vd 0 far) i)) = false := by unfold ft; rw [beq_eq_false_iff_ne.2 (by first | exact h4d | simpa using h4d)]; rfl
     have g'28 := (jn @h4 (jn @h4n (jn @aT (jn @aS g'27))))
     refine aa g'28 ?_
     refine hJ0 _ _ ⟨k0 - 1, by omega, _, _, _, ⟨i + 1, by omega, fun j hj => by
           rcases Nat.lt_or_ge j i with h | h
           ·exact hal j h
           ·rw [show j = i by omega]; exact hno, rfl, rfl⟩, Abs.byG hbel [] rfl [0, 1, 2, 3] (by decide) ?_⟩
     exact eX
    ·have h4d := bsT h4
     have h4n := bnT h4
     have hat : atI W Hh xs (g1 (trL x0 y0 vx vy vd 0 far) i) (g2 (trL x0 y0 vx vy vd 0 far) i) = 2 := by first | exact h4d | simpa using h4d
     have g'29 := (jn @h4 (jn @h4n (jn @aT (jn @aS g'27))))
     refine aa g'29 ?_
     refine go_loop try_mixed (by kernel_rfl) (fun k F Hx => ∃ n : Nat, n + k = 4 ∧ F = [(3, .int .i64 far), (4, .bool false), (5, .ptr (some (H.length, 0))), (7, .ptr (some (H.length + 1, 0))), (11, .ptr (some (H.length + 2, 0))), (16, .ptr (some (H.length + 4, 0))), (17, .bool (h4K false x0 y0 x1 y1 vx vy vd far (g1 (trL x0 y0 vx vy vd 0 far) i) (g2 (trL x0 y0 vx vy vd 0 far) i) n)), (51, .sl (some (H.length + 3, 0)) ((trL x0 y0 vx vy vd 0 far).length) (bA (trL x0 y0 vx vy vd 0 far).length)), (52, .int .i64 (((trL x0 y0 vx vy vd 0 far).length : Nat) : Int)), (53, .int .i64 ((i : Nat) : Int)), (76, .agg [.int .i64 x0, .int .i64 y0, .int .i64 x1, .int .i64 y0, .int .i64 x0, .int .i64 y1, .int .i64 x1, .int .i64 y1]), (77, .int .i64 ((n : Nat) : Int))] ∧ Hx = H ++ [.cells true 0 [.int .i64 W, .int .i64 Hh, .sl (some (bpp, 0)) xs.length cpp], .cells true 0 [.int .i64 vx, .int .i64 vy, .int .i64 vd], .cells true 0 [.int .i64 x0, .int .i64 y0, .int .i64 x1, .int .i64 y0, .int .i64 x0, .int .i64 y1, .int .i64 x1, .int .i64 y1], .cells (bm (trL x0 y0 vx vy vd 0 far).length) 2 (prs (trL x0 y0 vx vy vd 0 far)), .cells true 0 [.int .i64 ((g1 (trL x0 y0 vx vy vd 0 far) i) * 64), .int .i64 ((g2 (trL x0 y0 vx vy vd 0 far) i) * 64), .int .i64 (((g1 (trL x0 y0 vx vy vd 0 far) i) + 1) * 64), .int .i64 (((g2 (trL x0 y0 vx vy vd 0 far) i) + 1) * 64)]]) (4) ?_ ?_
     ·refine ⟨_, _, _, ⟨0, by omega, rfl, rfl⟩, Abs.byG hbel [] rfl [0, 1, 2, 3, 5] (by decide) ?_⟩
      exact aN @h4K.eq_1
     ·rintro k1 F Hx ⟨n, hm1, rfl, rfl⟩ J1 hJ1
      refine aa g'29 ?_
      refine aq (fun h5 => ?_) (fun h5 => ?_)
      ·have h5d := bsT h5
       obtain rfl | rfl | rfl | rfl := (by omega : n = 0 ∨ n = 1 ∨ n = 2 ∨ n = 3)
       ·skip
        have g'30 := (jn @h5 (jn @h5d g'29))
        refine aa g'30 ?_
        refine az (fun h6 => ?_) (fun h6 => ?_)
        ·have h6d := bsT h6
         have hst : h4K false x0 y0 x1 y1 vx vy vd far (g1 (trL x0 y0 vx vy vd 0 far) i) (g2 (trL x0 y0 vx vy vd 0 far) i) 1 = ef x0 y0 vx vy vd 0 far ((g1 (trL x0 y0 vx vy vd 0 far) i) * 64) ((g2 (trL x0 y0 vx vy vd 0 far) i) * 64) (((g1 (trL x0 y0 vx vy vd 0 far) i) + 1) * 64) (((g2 (trL x0 y0 vx vy vd 0 far) i) + 1) * 64) := by
          show (h4K false x0 y0 x1 y1 vx vy vd far (g1 (trL x0 y0 vx vy vd 0 far) i) (g2 (trL x0 y0 vx vy vd 0 far) i) 0 && hcB false x0 y0 vx vy vd far (g1 (trL x0 y0 vx vy vd 0 far) i) (g2 (trL x0 y0 vx vy vd 0 far) i)) = _
          rw [h6d, Bool.true_and]; exact hcB_f rfl
         have g'31 := (jn @h6 (jn @h6d g'30))
         refine aa g'31 ?_
         refine aj (by kernel_rfl) (gz _ x0 y0 vx vy vd 0 far ((g1 (trL x0 y0 vx vy vd 0 far) i) * 64) ((g2 (trL x0 y0 vx vy vd 0 far) i) * 64) (((g1 (trL x0 y0 vx vy vd 0 far) i) + 1) * 64) (((g2 (trL x0 y0 vx vy vd 0 far) i) + 1) * 64)) ?_
         refine aa g'31 ?_
         refine hJ1 _ _ ⟨k1 - 1, by omega, _, _, _, ⟨0 + 1, by omega, rfl, rfl⟩, Abs.byG hbel [] rfl [0, 1, 2, 3, 4] (by decide) ?_⟩
         exact aN @hst
        ·have h6d := bsT h6
         exact absurd (show true = false from h6d) (by decide)
       ·skip
        have g'32 := (jn @h5 (jn @h5d g'29))
        refine aa g'32 ?_
        refine az (fun h7 => ?_) (fun h7 => ?_)
        ·have h7d := bsT h7
         have hst : h4K false x0 y0 x1 y1 vx vy vd far (g1 (trL x0 y0 vx vy vd 0 far) i) (g2 (trL x0 y0 vx vy vd 0 far) i) 2 = ef x1 y0 vx vy vd 0 far ((g1 (trL x0 y0 vx vy vd 0 far) i) * 64) ((g2 (trL x0 y0 vx vy vd 0 far) i) * 64) (((g1 (trL x0 y0 vx vy vd 0 far) i) + 1) * 64) (((g2 (trL x0 y0 vx vy vd 0 far) i) + 1) * 64) := by
          show (h4K false x0 y0 x1 y1 vx vy vd far (g1 (trL x0 y0 vx vy vd 0 far) i) (g2 (trL x0 y0 vx vy vd 0 far) i) 1 && hcB false x1 y0 vx vy vd far (g1 (trL x0 y0 vx vy vd 0 far) i) (g2 (trL x0 y0 vx vy vd 0 far) i)) = _
          rw [h7d, Bool.true_and]; exact hcB_f rfl
         have g'33 := (jn @h7 (jn @h7d g'32))
         refine aa g'33 ?_
         refine aj (by kernel_rfl) (gz _ x1 y0 vx vy vd 0 far ((g1 (trL x0 y0 vx vy vd 0 far) i) * 64) ((g2 (trL x0 y0 vx vy vd 0 far) i) * 64) (((g1 (trL x0 y0 vx vy vd 0 far) i) + 1) * 64) (((g2 (trL x0 y0 vx vy vd 0 far) i) + 1) * 64)) ?_
         refine aa g'33 ?_
         refine hJ1 _ _ ⟨k1 - 1, by omega, _, _, _, ⟨1 + 1, by omega, rfl, rfl⟩, Abs.byG hbel [] rfl [0, 1, 2, 3, 4] (by decide) ?_⟩
         exact aN @hst
        ·have h7d := bsT h7
         have hst : h4K false x0 y0 x1 y1 vx vy vd far (g1 (trL x0 y0 vx vy vd 0 far) i) (g2 (trL x0 y0 vx vy vd 0 far) i) 2 = false := by
          show (h4K false x0 y0 x1 y1 vx vy vd far (g1 (trL x0 y0 vx vy vd 0 far) i) (g2 (trL x0 y0 vx vy vd 0 far) i) 1 && _) = false
          rw [h7d]; rfl
         have g'34 := (jn @h7 (jn @h7d g'32))
         refine aa g'34 ?_
         refine hJ1 _ _ ⟨k1 - 1, by omega, _, _, _, ⟨1 + 1, by omega, rfl, rfl⟩, Abs.byG hbel [] rfl [0, 1, 2, 3, 4] (by decide) ?_⟩
         exact aN @hst
       ·skip
        have g'35 := (jn @h5 (jn @h5d g'29))
        refine aa g'35 ?_
        refine az (fun h8 => ?_) (fun h8 => ?_)
        ·have h8d := bsT h8
         have hst : h4K false x0 y0 x1 y1 vx vy vd far (g1 (trL x0 y0 vx vy vd 0 far) i) (g2 (trL x0 y0 vx vy vd 0 far) i) 3 = ef x0 y1 vx vy vd 0 far ((g1 (trL x0 y0 vx vy vd 0 far) i) * 64) ((g2 (trL x0 y0 vx vy vd 0 far) i) * 64) (((g1 (trL x0 y0 vx vy vd 0 far) i) + 1) * 64) (((g2 (trL x0 y0 vx vy vd 0 far) i) + 1) * 64) := by
          show (h4K false x0 y0 x1 y1 vx vy vd far (g1 (trL x0 y0 vx vy vd 0 far) i) (g2 (trL x0 y0 vx vy vd 0 far) i) 2 && hcB false x0 y1 vx vy vd far (g1 (trL x0 y0 vx vy vd 0 far) i) (g2 (trL x0 y0 vx vy vd 0 far) i)) = _
          rw [h8d, Bool.true_and]; exact hcB_f rfl
         have g'36 := (jn @h8 (jn @h8d g'35))
         refine aa g'36 ?_
         refine aj (by kernel_rfl) (gz _ x0 y1 vx vy vd 0 far ((g1 (trL x0 y0 vx vy vd 0 far) i) * 64) ((g2 (trL x0 y0 vx vy vd 0 far) i) * 64) (((g1 (trL x0 y0 vx vy vd 0 far) i) + 1) * 64) (((g2 (trL x0 y0 vx vy vd 0 far) i) + 1) * 64)) ?_
         refine aa g'36 ?_
         refine hJ1 _ _ ⟨k1 - 1, by omega, _, _, _, ⟨2 + 1, by omega, rfl, rfl⟩, Abs.byG hbel [] rfl [0, 1, 2, 3, 4] (by decide) ?_⟩
         exact aN @hst
        ·have h8d := bsT h8
         have hst : h4K false x0 y0 x1 y1 vx vy vd far (g1 (trL x0 y0 vx vy vd 0 far) i) (g2 (trL x0 y0 vx vy vd 0 far) i) 3 = false := by
          show (h4K false x0 y0 x1 y1 vx vy vd far (g1 (trL x0 y0 vx vy vd 0 far) i) (g2 (trL x0 y0 vx vy vd 0 far) i) 2 && _) = false
          rw [h8d]; rfl
         have g'37 := (jn @h8 (jn @h8d g'35))
         refine aa g'37 ?_
         refine hJ1 _ _ ⟨k1 - 1, by omega, _, _, _, ⟨2 + 1, by omega, rfl, rfl⟩, Abs.byG hbel [] rfl [0, 1, 2, 3, 4] (by decide) ?_⟩
         exact aN @hst
       ·skip
        have g'38 := (jn @h5 (jn @h5d g'29))
        refine aa g'38 ?_
        refine az (fun h9 => ?_) (fun h9 => ?_)
        ·have h9d := bsT h9
         have hst : h4K false x0 y0 x1 y1 vx vy vd far (g1 (trL x0 y0 vx vy vd 0 far) i) (g2 (trL x0 y0 vx vy vd 0 far) i) 4 = ef x1 y1 vx vy vd 0 far ((g1 (trL x0 y0 vx vy vd 0 far) i) * 64) ((g2 (trL x0 y0 vx vy vd 0 far) i) * 64) (((g1 (trL x0 y0 vx vy vd 0 far) i) + 1) * 64) (((g2 (trL x0 y0 vx vy vd 0 far) i) + 1) * 64) := by
          show (h4K false x0 y0 x1 y1 vx vy vd far (g1 (trL x0 y0 vx vy vd 0 far) i) (g2 (trL x0 y0 vx vy vd 0 far) i) 3 && hcB false x1 y1 vx vy vd far (g1 (trL x0 y0 vx vy vd 0 far) i) (g2 (trL x0 y0 vx vy vd 0 far) i)) = _
          rw [h9d, Bool.true_and]; exact hcB_f rfl
         have g'39 := (jn @h9 (jn @h9d g'38))
         refine aa g'39 ?_
         refine aj (by kernel_rfl) (gz _ x1 y1 vx vy vd 0 far ((g1 (trL x0 y0 vx vy vd 0 far) i) * 64) ((g2 (trL x0 y0 vx vy vd 0 far) i) * 64) (((g1 (trL x0 y0 vx vy vd 0 far) i) + 1) * 64) (((g2 (trL x0 y0 vx vy vd 0 far) i) + 1) * 64)) ?_
         refine aa g'39 ?_
         refine hJ1 _ _ ⟨k1 - 1, by omega, _, _, _, ⟨3 + 1, by omega, rfl, rfl⟩, Abs.byG hbel [] rfl [0, 1, 2, 3, 4] (by decide) ?_⟩
         exact aN @hst
        ·have h9d := bsT h9
         have hst : h4K false x0 y0 x1 y1 vx vy vd far (g1 (trL x0 y0 vx vy vd 0 far) i) (g2 (trL x0 y0 vx vy vd 0 far) i) 4 = false := by
          show (h4K false x0 y0 x1 y1 vx vy vd far (g1 (trL x0 y0 vx vy vd 0 far) i) (g2 (trL x0 y0 vx vy vd 0 far) i) 3 && _) = false
          rw [h9d]; rfl
         have g'40 := (jn @h9 (jn @h9d g'38))
         refine aa g'40 ?_
         refine hJ1 _ _ ⟨k1 - 1, by omega, _, _, _, ⟨3 + 1, by omega, rfl, rfl⟩, Abs.byG hbel [] rfl [0, 1, 2, 3, 4] (by decide) ?_⟩
         exact aN @hst
      ·have h5d := bsT h5
       obtain rfl : n = 4 := by omega
       have g'41 := (jn @h5 (jn @h5d g'29))
       refine aa g'41 ?_
       refine aq (fun h10 => ?_) (fun h10 => ?_)
       ·have h10d := bsT h10
        have hfinH : d4 W Hh xs x0 y0 x1 y1 vx vy vd far false = true := by
         unfold d4
         rw [decide_eq_false hf0]
         exact List.any_eq_true.2 ⟨_, List.getElem_mem hlt, by
          rw [← cu hlt]; unfold ft; rw [Bool.and_eq_true, beq_iff_eq]; exact ⟨hat, h4K_4.symm.trans h10d⟩⟩
        have g'42 := (jn @h10 (jn @h10d g'41))
        refine aa g'42 ?_
        exact hQ _ _ (ai (.inl rfl) hbel (x := .bool true) (av Tryz.results195) rfl ⟨by first | (rw [hfinH]; done) | (rw [hfinH]; rfl), rfl⟩)
       ·have h10d := bsT h10
        have hno : ft W Hh xs false x0 y0 x1 y1 vx vy vd far ((g1 (trL x0 y0 vx vy vd 0 far) i), (g2 (trL x0 y0 vx vy vd 0 far) i)) = false := by unfold ft; rw [Bool.and_eq_false_iff]; right; exact h4K_4.symm.trans h10d
        have g'43 := (jn @h10 (jn @h10d g'41))
        refine aa g'43 ?_
        refine hJ0 _ _ ⟨k0 - 1, by omega, _, _, _, ⟨i + 1, by omega, fun j hj => by
              rcases Nat.lt_or_ge j i with h | h
              ·exact hal j h
              ·rw [show j = i by omega]; exact hno, rfl, rfl⟩, Abs.byG hbel [] rfl [0, 1, 2, 3] (by decide) ?_⟩
        exact eX
   ·have h2d := bsT h2
    obtain rfl : i = (trL x0 y0 vx vy vd 0 far).length := by omega
    have hfinH : d4 W Hh xs x0 y0 x1 y1 vx vy vd far false = false := by
     unfold d4
     rw [lB (fun j hj => by rw [← cu hj]; exact hal j hj)]; simp
    have g'44 := (jn @h2 (jn @h2d g'26))
    refine aa g'44 ?_
    exact hQ _ _ (ai (.inl rfl) hbel (x := .bool false) (av Tryz.results195) rfl ⟨by first | (rw [hfinH]; done) | (rw [hfinH]; rfl), rfl⟩)
open Go.RowKit
theorem emp_c (H : ac) (W : Int) (Hh : Int) (pp : AV) (xs : List Int) (x0 : Int) (y0 : Int) (x1 : Int) (y1 : Int) (vx : Int) (vy : Int) (vd : Int) (lo : Int) (hi : Int) (hpp : Sl H 1 pp xs.length (ints .u8 xs)) (hV : b9 W Hh xs = true) : ACalls Tryz.prog 196 [.agg [.int .i64 W, .int .i64 Hh, pp], .agg [.int .i64 x0, .int .i64 y0, .int .i64 x1, .int .i64 y1], .agg [.int .i64 vx, .int .i64 vy, .int .i64 vd], .int .i64 lo, .int .i64 hi] H (fun v H' => v = .bool (empB W Hh xs x0 y0 x1 y1 vx vy vd lo hi) ∧ H' = H) := by
 obtain ⟨bpp, opp, cpp, rfl, hbpp⟩ := hpp
 have hblpp := getElem?_lt hbpp
 have hb0pp := fun l => aD (l := l) hbpp
 have htl := ki x0 y0 x1 y1 vx vy vd lo hi
 refine AcT true Tryz.func196 ?_; intro hbel Q hQ
 have g'1 := (jn @hbpp @hb0pp)
 refine aa g'1 ?_
 refine aj (by kernel_rfl) (swept_c _ x0 y0 x1 y1 vx vy vd lo hi) ?_
 refine aa g'1 ?_
 refine go_loop try_mixed (by kernel_rfl) (fun k F Hx => ∃ i : Nat, i + k = (cC x0 y0 x1 y1 vx vy vd lo hi).length ∧ (∀ j : Nat, j < i → frC W Hh xs (g1 (cC x0 y0 x1 y1 vx vy vd lo hi) j, g2 (cC x0 y0 x1 y1 vx vy vd lo hi) j) = true) ∧ F = [(5, .ptr (some (H.length, 0))), (23, .sl (some (H.length + 1, 0)) ((cC x0 y0 x1 y1 vx vy vd lo hi).length) (bA (cC x0 y0 x1 y1 vx vy vd lo hi).length)), (24, .int .i64 (((cC x0 y0 x1 y1 vx vy vd lo hi).length : Nat) : Int)), (25, .int .i64 ((i : Nat) : Int))] ∧ Hx = H ++ [.cells true 0 [.int .i64 W, .int .i64 Hh, .sl (some (bpp, 0)) xs.length cpp], .cells (bm (cC x0 y0 x1 y1 vx vy vd lo hi).length) 2 (prs (cC x0 y0 x1 y1 vx vy vd lo hi))]) ((cC x0 y0 x1 y1 vx vy vd lo hi).length) ?_ ?_
 ·refine ⟨_, _, _, ⟨0, by omega, (fun j h => by omega), rfl, rfl⟩, Abs.byG hbel [] rfl [0, 3] (by decide) ?_⟩
  exact eX
 ·rintro k0 F Hx ⟨i, hm0, hal, rfl, rfl⟩ J0 hJ0
  have g'2 := (jn @bE (jn @cD g'1))
  refine aa g'2 ?_
  refine aq (fun h1 => ?_) (fun h1 => ?_)
  ·have h1d := bsT h1
   have hlt : i < (cC x0 y0 x1 y1 vx vy vd lo hi).length := by omega
   have q2 := cA (l := cC x0 y0 x1 y1 vx vy vd lo hi) (j := i) (by omega)
   have g'3 := (jn @h1 (jn @h1d (jn @q2 g'2)))
   refine aa g'3 ?_
   refine aj (by kernel_rfl) (pat_c _ W Hh _ xs (g1 (cC x0 y0 x1 y1 vx vy vd lo hi) i) (g2 (cC x0 y0 x1 y1 vx vy vd lo hi) i) ⟨_, _, _, rfl, by first | exact hb0pp _ | exact hbpp⟩ hV) ?_
   refine aa g'3 ?_
   refine aq (fun h3 => ?_) (fun h3 => ?_)
   ·have h3d := bsT h3
    have h3n := bnT h3
    have hfinE : empB W Hh xs x0 y0 x1 y1 vx vy vd lo hi = false := by
     rw [← Bool.not_eq_true]; intro k
     have q := List.all_eq_true.1 k _ (List.getElem_mem hlt)
     rw [← cu hlt] at q
     have q2 : atI W Hh xs (g1 (cC x0 y0 x1 y1 vx vy vd lo hi) i) (g2 (cC x0 y0 x1 y1 vx vy vd lo hi) i) = 1 := by unfold frC at q; simpa using q
     exact absurd q2 (by first | exact h3d | simpa using h3d)
    have g'4 := (jn @h3 (jn @h3n (jn @aT (jn @aS g'3))))
    refine aa g'4 ?_
    exact hQ _ _ (ai (.inl rfl) hbel (x := .bool false) (av Tryz.results196) rfl ⟨by first | (rw [hfinE]; done) | (rw [hfinE]; rfl), rfl⟩)
   ·have h3d := bsT h3
    have h3n := bnT h3
    have hone : frC W Hh xs ((g1 (cC x0 y0 x1 y1 vx vy vd lo hi) i), (g2 (cC x0 y0 x1 y1 vx vy vd lo hi) i)) = true := by unfold frC; rw [beq_iff_eq]; first | exact h3d | simpa using h3d
    have g'5 := (jn @h3 (jn @h3n (jn @aT (jn @aS g'3))))
    refine aa g'5 ?_
    refine hJ0 _ _ ⟨k0 - 1, by omega, _, _, _, ⟨i + 1, by omega, fun j hj => by
          rcases Nat.lt_or_ge j i with h | h
          ·exact hal j h
          ·rw [show j = i by omega]; exact hone, rfl, rfl⟩, Abs.byG hbel [] rfl [0, 1] (by decide) ?_⟩
    exact eX
  ·have h1d := bsT h1
   obtain rfl : i = (cC x0 y0 x1 y1 vx vy vd lo hi).length := by omega
   have hfinE : empB W Hh xs x0 y0 x1 y1 vx vy vd lo hi = true := List.all_eq_true.2 fun c hc => by
    obtain ⟨j, hj, rfl⟩ := List.mem_iff_getElem.1 hc
    rw [← cu hj]; exact hal j hj
   have g'6 := (jn @h1 (jn @h1d g'2))
   refine aa g'6 ?_
   exact hQ _ _ (ai (.inl rfl) hbel (x := .bool true) (av Tryz.results196) rfl ⟨by first | (rw [hfinE]; done) | (rw [hfinE]; rfl), rfl⟩)
theorem ref_c (H : ac) (W : Int) (Hh : Int) (pp : AV) (xs : List Int) (x0 : Int) (y0 : Int) (x1 : Int) (y1 : Int) (h : Int) (m : Int) (r : Int) (g : Int) (hpp : Sl H 1 pp xs.length (ints .u8 xs)) (hV : b9 W Hh xs = true) (hA : dU x0 y0 x1 y1 = true) (hg : 1 ≤ g ∧ g ≤ 32) (hbe : dy m r = true) : ACalls Tryz.prog 166 [.agg [.int .i64 W, .int .i64 Hh, pp], .agg [.int .i64 x0, .int .i64 y0, .int .i64 x1, .int .i64 y1], .int .i64 h, .agg [.int .i64 m, .int .i64 r], .int .i64 g] H (fun v H' => v = .bool (refB W Hh xs x0 y0 x1 y1 h m r g) ∧ H' = H) := by
 obtain ⟨bpp, opp, cpp, rfl, hbpp⟩ := hpp
 have hblpp := getElem?_lt hbpp
 have hb0pp := fun l => aD (l := l) hbpp
 have had := admB_iff.1 hA
 have hbb := kh.1 hbe
 have el0 : (if 0 < r - g then r - g else 0) = low0 r g := rfl
 have el1 : 0 ≤ low0 r g := by unfold low0; split <;> omega
 refine AcT true Tryz.func166 ?_; intro hbel Q hQ
 have g'7 := (jn @hbpp (jn @hb0pp @el0))
 refine aa g'7 ?_
 refine aj (by kernel_rfl) (hbeam_c _ h m) ?_
 refine aa g'7 ?_
 refine aq (fun h1 => ?_) (fun h1 => ?_)
 ·have h1d := bsT h1
  have h1n := bnT h1
  have hfinR : refB W Hh xs x0 y0 x1 y1 h m r g = d4 W Hh xs x0 y0 x1 y1 ((bN h m).1) ((bN h m).2.1) ((bN h m).2.2) (1024 - g) false := by unfold refB; rw [h1]; rfl
  have g'8 := (jn @h1 (jn @h1n (jn @aT (jn @aS g'7))))
  refine aa g'8 ?_
  refine aj (by kernel_rfl) (hidf_c _ W Hh _ xs x0 y0 x1 y1 ((bN h m).1) ((bN h m).2.1) ((bN h m).2.2) (1024 - g) ⟨_, _, _, rfl, by first | exact hb0pp _ | exact hbpp⟩ hV (by omega) (by omega)) ?_
  refine aa g'8 ?_
  exact hQ _ _ (ai (.inl rfl) hbel (x := .bool (d4 W Hh xs x0 y0 x1 y1 ((bN h m).1) ((bN h m).2.1) ((bN h m).2.2) (1024 - g) false)) (av Tryz.results166) rfl ⟨by first | (rw [hfinR]; done) | (rw [hfinR]; rfl), rfl⟩)
 ·have h1d := bsT h1
  have h1n := bnT h1
  have hrf := h1
  have g'9 := (jn @h1 (jn @h1n (jn @aT (jn @aS g'7))))
  refine aa g'9 ?_
  refine aj (by kernel_rfl) (hidt_c _ W Hh _ xs x0 y0 x1 y1 ((bN h m).1) ((bN h m).2.1) ((bN h m).2.2) (r - g) ⟨_, _, _, rfl, by first | exact hb0pp _ | exact hbpp⟩ hV (by omega) (by omega)) ?_
  refine aa g'9 ?_
  refine az (fun h2 => ?_) (fun h2 => ?_)
  ·have h2d := bsT h2
   have hfinR : refB W Hh xs x0 y0 x1 y1 h m r g = empB W Hh xs x0 y0 x1 y1 (bN h m).1 (bN h m).2.1 (bN h m).2.2 (low0 r g) (r + g) := by unfold refB; rw [hrf, h2d]; rfl
   have g'10 := (jn @h2 (jn @h2d g'9))
   refine aa g'10 ?_
   refine aj (by kernel_rfl) (emp_c _ W Hh _ xs x0 y0 x1 y1 ((bN h m).1) ((bN h m).2.1) ((bN h m).2.2) (low0 r g) (r + g) ⟨_, _, _, rfl, by first | exact hb0pp _ | exact hbpp⟩ hV) ?_
   refine aa g'10 ?_
   exact hQ _ _ (ai (.inl rfl) hbel (x := .bool (empB W Hh xs x0 y0 x1 y1 ((bN h m).1) ((bN h m).2.1) ((bN h m).2.2) (low0 r g) (r + g))) (av Tryz.results166) rfl ⟨by first | (rw [hfinR]; done) | (rw [hfinR]; rfl), rfl⟩)
  ·have h2d := bsT h2
   have hfinR : refB W Hh xs x0 y0 x1 y1 h m r g = true := by unfold refB; rw [hrf, h2d]; rfl
   have g'11 := (jn @h2 (jn @h2d g'9))
   refine aa g'11 ?_
   exact hQ _ _ (ai (.inl rfl) hbel (x := .bool true) (av Tryz.results166) rfl ⟨by first | (rw [hfinR]; done) | (rw [hfinR]; rfl), rfl⟩)
theorem bad_c (H : ac) (W : Int) (Hh : Int) (pp : AV) (xs : List Int) (x0 : Int) (y0 : Int) (x1 : Int) (y1 : Int) (h : Int) (q : AV) (sc : List (Int × Int)) (g : Int) (hpp : Sl H 1 pp xs.length (ints .u8 xs)) (hq : Sl H 2 q sc.length (prs sc)) (hV : b9 W Hh xs = true) (hg : 1 ≤ g ∧ g ≤ 32) (hsB : cd sc = true) : ACalls Tryz.prog 124 [.agg [.int .i64 W, .int .i64 Hh, pp], .agg [.int .i64 x0, .int .i64 y0, .int .i64 x1, .int .i64 y1], .int .i64 h, q, .int .i64 g] H (fun v H' => v = .bool (badB W Hh xs x0 y0 x1 y1 h sc g) ∧ H' = H) := by
 obtain ⟨bpp, opp, cpp, rfl, hbpp⟩ := hpp
 have hblpp := getElem?_lt hbpp
 have hb0pp := fun l => aD (l := l) hbpp
 obtain ⟨bq, oq, cq, rfl, hbq⟩ := hq
 have hblq := getElem?_lt hbq
 have hb0q := fun l => aD (l := l) hbq
 have hsc := dG.1 hsB
 refine AcT true Tryz.func124 ?_; intro hbel Q hQ
 have g'12 := (jn @hbpp (jn @hb0pp (jn @hbq @hb0q)))
 refine aa g'12 ?_
 refine aj (by kernel_rfl) (cadm_c _ x0 y0 x1 y1) ?_
 refine aa g'12 ?_
 refine aq (fun h1 => ?_) (fun h1 => ?_)
 ·have h1d := bsT h1
  have hfinB : badB W Hh xs x0 y0 x1 y1 h sc g = false := by unfold badB; rw [h1d]; rfl
  have g'13 := (jn @h1 (jn @h1d g'12))
  refine aa g'13 ?_
  exact hQ _ _ (ai (.inl rfl) hbel (x := .bool false) (av Tryz.results124) rfl ⟨by first | (rw [hfinB]; done) | (rw [hfinB]; rfl), rfl⟩)
 ·have h1d := bsT h1
  have hadm := h1d
  have g'14 := (jn @h1 (jn @h1d g'12))
  refine aa g'14 ?_
  refine go_loop try_mixed (by kernel_rfl) (fun k F Hx => ∃ i : Nat, i + k = sc.length ∧ (∀ j : Nat, j < i → refB W Hh xs x0 y0 x1 y1 h (g1 sc j) (g2 sc j) g = false) ∧ F = [(2, .int .i64 h), (4, .int .i64 g), (5, .ptr (some (H.length, 0))), (6, .ptr (some (H.length + 1, 0))), (16, .sl (some (bq, 0)) sc.length cq), (17, .int .i64 ((sc.length : Nat) : Int)), (18, .int .i64 ((i : Nat) : Int))] ∧ Hx = H ++ [.cells true 0 [.int .i64 W, .int .i64 Hh, .sl (some (bpp, 0)) xs.length cpp], .cells true 0 [.int .i64 x0, .int .i64 y0, .int .i64 x1, .int .i64 y1]]) (sc.length) ?_ ?_
  ·refine ⟨_, _, _, ⟨0, by omega, (fun j h => by omega), rfl, rfl⟩, Abs.byG hbel [] rfl [0, 1] (by decide) ?_⟩
   exact bj
  ·rintro k0 F Hx ⟨i, hm0, hal, rfl, rfl⟩ J0 hJ0
   refine aa g'14 ?_
   refine aq (fun h2 => ?_) (fun h2 => ?_)
   ·have h2d := bsT h2
    have hlt : i < sc.length := by omega
    have hbe := hsc.2 _ (List.getElem_mem hlt)
    rw [← cu hlt] at hbe
    have hbe2 : dy (g1 sc i) (g2 sc i) = true := hbe
    have q3 := cA (l := sc) (j := i) (by omega)
    have g'15 := (jn @h2 (jn @h2d (jn @q3 g'14)))
    refine aa g'15 ?_
    refine aj (by kernel_rfl) (ref_c _ W Hh _ xs x0 y0 x1 y1 h (g1 sc i) (g2 sc i) g ⟨_, _, _, rfl, by first | exact hb0pp _ | exact hbpp⟩ hV (by assumption) hg (by assumption)) ?_
    refine aa g'15 ?_
    refine aq (fun h4 => ?_) (fun h4 => ?_)
    ·have h4d := bsT h4
     have hfinB : badB W Hh xs x0 y0 x1 y1 h sc g = true := by
      unfold badB
      rw [hadm]
      exact List.any_eq_true.2 ⟨_, List.getElem_mem hlt, by rw [← cu hlt]; exact h4d⟩
     have g'16 := (jn @h4 (jn @h4d g'15))
     refine aa g'16 ?_
     exact hQ _ _ (ai (.inl rfl) hbel (x := .bool true) (av Tryz.results124) rfl ⟨by first | (rw [hfinB]; done) | (rw [hfinB]; rfl), rfl⟩)
    ·have h4d := bsT h4
     have hno := h4d
     have g'17 := (jn @h4 (jn @h4d g'15))
     refine aa g'17 ?_
     refine hJ0 _ _ ⟨k0 - 1, by omega, _, _, _, ⟨i + 1, by omega, fun j hj => by
           rcases Nat.lt_or_ge j i with h | h
           ·exact hal j h
           ·rw [show j = i by omega]; exact hno, rfl, rfl⟩, Abs.byG hbel [] rfl [0, 1] (by decide) ?_⟩
     exact bj
   ·have h2d := bsT h2
    obtain rfl : i = sc.length := by omega
    have hfinB : badB W Hh xs x0 y0 x1 y1 h sc g = false := by
     unfold badB
     rw [lB (fun j hj => by rw [← cu hj]; exact hal j hj)]; simp
    have g'18 := (jn @h2 (jn @h2d g'14))
    refine aa g'18 ?_
    exact hQ _ _ (ai (.inl rfl) hbel (x := .bool false) (av Tryz.results124) rfl ⟨by first | (rw [hfinB]; done) | (rw [hfinB]; rfl), rfl⟩)
open Go.RowKit
theorem tOk_x {W Hh : Int} {xs : List Int} {b : T6} {s : List (Int × Int)} {g : Int} (h : tX1 W b < tX0 b) : tOk W Hh xs b s g = false := by unfold tOk; rw [decide_eq_true h]; rfl
theorem tOk_y {W Hh : Int} {xs : List Int} {b : T6} {s : List (Int × Int)} {g : Int} (h : tY1 Hh b < tY0 b) : tOk W Hh xs b s g = false := by unfold tOk; rw [decide_eq_true h]; simp
theorem tOk_n {W Hh : Int} {xs : List Int} {b : T6} {s : List (Int × Int)} {g : Int} {i : Nat} (hi : i = (mkB b).length) (h : ∀ k : Nat, k < i → tP W Hh xs b s g k = true) : tOk W Hh xs b s g = false := by
 have e : tI W Hh xs b s g = (mkB b).length := by unfold tI; rw [← hi]; exact lA h (Nat.le_refl _) (.inl rfl)
 unfold tOk; rw [e, decide_eq_false (Nat.lt_irrefl _)]; simp
theorem tI_i {W Hh : Int} {xs : List Int} {b : T6} {s : List (Int × Int)} {g : Int} {i : Nat} (hi : i < (mkB b).length) (h : ∀ k : Nat, k < i → tP W Hh xs b s g k = true) (h0 : tP W Hh xs b s g i = false) : tI W Hh xs b s g = i := lA h (by omega) (.inr h0)
theorem tOk_y2 {W Hh : Int} {xs : List Int} {b : T6} {s : List (Int × Int)} {g : Int} {i : Nat} (hx : ¬ tX1 W b < tX0 b) (hy : ¬ tY1 Hh b < tY0 b) (hi : i < (mkB b).length) (h : tI W Hh xs b s g = i) : tOk W Hh xs b s g = true := by
 unfold tOk; rw [decide_eq_false hx, decide_eq_false hy, h, decide_eq_true hi]; rfl
theorem tJ_j {W Hh : Int} {xs : List Int} {b : T6} {s : List (Int × Int)} {g : Int} {j : Nat} (hj : 0 < j) (h0 : tP W Hh xs b s g (j - 1) = false) (hn : j ≤ (mkB b).length) (h : ∀ k : Nat, j ≤ k → k < (mkB b).length → tP W Hh xs b s g k = true) : tJ W Hh xs b s g = j := tlN_eq ⟨hj, h0⟩ hn h
theorem trim_c (H : ac) (W : Int) (Hh : Int) (pp : AV) (xs : List Int) (x0 : Int) (y0 : Int) (x1 : Int) (y1 : Int) (f : Int) (c : Int) (q : AV) (sc : List (Int × Int)) (g : Int) (hpp : Sl H 1 pp xs.length (ints .u8 xs)) (hq : Sl H 2 q sc.length (prs sc)) (hV : b9 W Hh xs = true) (hb : bxB x0 y0 x1 y1 f c = true) (hsB : cd sc = true) (hg : 1 ≤ g ∧ g ≤ 32) : ACalls Tryz.prog 89 [.agg [.int .i64 W, .int .i64 Hh, pp], .agg [.int .i64 x0, .int .i64 y0, .int .i64 x1, .int .i64 y1, .int .i64 f, .int .i64 c], q, .int .i64 g] H (fun v H' => v = .tup [.agg [.int .i64 (mkV (tOk W Hh xs (x0, y0, x1, y1, f, c) sc g) ((tB W Hh xs (x0, y0, x1, y1, f, c) sc g).1)), .int .i64 (mkV (tOk W Hh xs (x0, y0, x1, y1, f, c) sc g) ((tB W Hh xs (x0, y0, x1, y1, f, c) sc g).2.1)), .int .i64 (mkV (tOk W Hh xs (x0, y0, x1, y1, f, c) sc g) ((tB W Hh xs (x0, y0, x1, y1, f, c) sc g).2.2.1)), .int .i64 (mkV (tOk W Hh xs (x0, y0, x1, y1, f, c) sc g) ((tB W Hh xs (x0, y0, x1, y1, f, c) sc g).2.2.2.1)), .int .i64 (mkV (tOk W Hh xs (x0, y0, x1, y1, f, c) sc g) ((tB W Hh xs (x0, y0, x1, y1, f, c) sc g).2.2.2.2.1)), .int .i64 (mkV (tOk W Hh xs (x0, y0, x1, y1, f, c) sc g) ((tB W Hh xs (x0, y0, x1, y1, f, c) sc g).2.2.2.2.2))], .bool (tOk W Hh xs (x0, y0, x1, y1, f, c) sc g)] ∧ H' = H) := by
 obtain ⟨bpp, opp, cpp, rfl, hbpp⟩ := hpp
 have hblpp := getElem?_lt hbpp
 have hb0pp := fun l => aD (l := l) hbpp
 obtain ⟨bq, oq, cq, rfl, hbq⟩ := hq
 have hblq := getElem?_lt hbq
 have hb0q := fun l => aD (l := l) hbq
 have hbb := bY.1 hb
 have hab := hbb.2.2
 have haa := bS.1 hab
 have hVV := cg.1 hV
 have hw0 := hVV.w0
 have hw1 := hVV.w1
 have hh0 := hVV.h0
 have hh1 := hVV.h1
 have hln := dT f c.toNat
 have e0 : (if x0 < 0 then 0 else x0) = tX0 (x0, y0, x1, y1, f, c) := rfl
 have e1 : (if y0 < 0 then 0 else y0) = tY0 (x0, y0, x1, y1, f, c) := rfl
 have e2 : (if 64 * W < x1 then 64 * W else x1) = tX1 W (x0, y0, x1, y1, f, c) := rfl
 have e3 : (if 64 * Hh < y1 then 64 * Hh else y1) = tY1 Hh (x0, y0, x1, y1, f, c) := rfl
 refine AcT true Tryz.func89 ?_; intro hbel Q hQ
 have g'1 := (jn @hbpp (jn @hb0pp (jn @hbq (jn @hb0q (jn @e0 (jn @e1 (jn @e2 @e3)))))))
 refine aa g'1 ?_
 refine az (fun h1 => ?_) (fun h1 => ?_)
 ·have h1d := bsT h1
  have hnx := h1d
  have g'2 := (jn @h1 (jn @h1d g'1))
  refine aa g'2 ?_
  refine aq (fun h2 => ?_) (fun h2 => ?_)
  ·have h2d := bsT h2
   have hfinO := tOk_y (W := W) (Hh := Hh) (xs := xs) (b := (x0, y0, x1, y1, f, c)) (s := sc) (g := g) h2d
   have g'3 := (jn @h2 (jn @h2d g'2))
   refine aa g'3 ?_
   exact hQ _ _ (ai (.inl rfl) hbel (x := .tup [.agg [.int .i64 0, .int .i64 0, .int .i64 0, .int .i64 0, .int .i64 0, .int .i64 0], .bool false]) (av Tryz.results89) rfl ⟨by first | (rw [hfinO]; done) | (rw [hfinO]; rfl) | (unfold tB; rw [hfinO, hfinI, hfinJ]; rfl) | skip, rfl⟩)
  ·have h2d := bsT h2
   have hny := h2d
   have g'4 := (jn @h2 (jn @h2d g'2))
   refine aa g'4 ?_
   refine aj (by kernel_rfl) (lV _ f c hab) ?_
   refine aa g'4 ?_
   refine go_loop try_mixed (by kernel_rfl) (fun k F Hx => ∃ i : Nat, i + k = (bk f c.toNat).length ∧ (∀ j : Nat, j < i → tP W Hh xs (x0, y0, x1, y1, f, c) sc g j = true) ∧ F = [(2, .sl (some (bq, 0)) sc.length cq), (3, .int .i64 g), (4, .ptr (some (H.length, 0))), (8, .ptr (some (H.length + 1, 0))), (10, .ptr (some (H.length + 2, 0))), (11, .sl (some (H.length + 3, i)) ((bk f c.toNat).length - i) none)] ∧ Hx = H ++ [.cells true 0 [.int .i64 W, .int .i64 Hh, .sl (some (bpp, 0)) xs.length cpp], .cells true 0 [.int .i64 0, .int .i64 0, .int .i64 0, .int .i64 0, .int .i64 0, .int .i64 0], .cells true 0 [.int .i64 (tX0 (x0, y0, x1, y1, f, c)), .int .i64 (tY0 (x0, y0, x1, y1, f, c)), .int .i64 (tX1 W (x0, y0, x1, y1, f, c)), .int .i64 (tY1 Hh (x0, y0, x1, y1, f, c))], .cells true 1 (ints .i64 (bk f c.toNat))]) ((bk f c.toNat).length) ?_ ?_
   ·refine ⟨_, _, _, ⟨0, by omega, (fun j h => by omega), rfl, rfl⟩, Abs.byG hbel [] rfl [0, 2, 3, 4] (by decide) ?_⟩
    exact eX
   ·rintro k0 F Hx ⟨i, hm0, hal, rfl, rfl⟩ J0 hJ0
    have g'5 := (jn @aK (jn @aJ g'4))
    refine aa g'5 ?_
    refine az (fun h3 => ?_) (fun h3 => ?_)
    ·have h3d := bsT h3
     have q4 := c7 (k := .i64) (xs := bk f c.toNat) (j := i) (by omega)
     have g'6 := (jn @h3 (jn @h3d (jn @q4 g'5)))
     refine aa g'6 ?_
     refine aP (by kernel_rfl) (bad_c _ W Hh _ xs (tX0 (x0, y0, x1, y1, f, c)) (tY0 (x0, y0, x1, y1, f, c)) (tX1 W (x0, y0, x1, y1, f, c)) (tY1 Hh (x0, y0, x1, y1, f, c)) (gi (bk f c.toNat) i) _ sc g ⟨_, _, _, rfl, by first | exact hb0pp _ | exact hbpp⟩ ⟨_, _, _, rfl, by first | exact hb0q _ | exact hbq⟩ hV hg hsB) ?_
     refine aa g'6 ?_
     refine aq (fun h5 => ?_) (fun h5 => ?_)
     ·have h5d := bsT h5
      have hbi := h5d
      have g'7 := (jn @h5 (jn @h5d g'6))
      refine aa g'7 ?_
      have hv1 : (bk f c.toNat).length - i - 1 = (bk f c.toNat).length - (i + 1) := by omega
      refine hJ0 _ _ ⟨k0 - 1, by omega, _, _, _, ⟨i + 1, by omega, fun j hj => by
            rcases Nat.lt_or_ge j i with h | h
            ·exact hal j h
            ·rw [show j = i by omega]; exact hbi, rfl, rfl⟩, Abs.byG hbel [] rfl [0, 1, 2, 3] (by decide) ?_⟩
      exact aN @hv1
     ·have h5d := bsT h5
      have hpi : tP W Hh xs (x0, y0, x1, y1, f, c) sc g i = false := h5d
      have hiN : i < (mkB (x0, y0, x1, y1, f, c)).length := by show i < (bk f c.toNat).length; omega
      have hfinI := tI_i hiN hal hpi
      have hfinO := tOk_y2 hnx hny hiN hfinI
      have g'8 := (jn @h5 (jn @h5d g'6))
      refine aa g'8 ?_
      refine aq (fun h6 => ?_) (fun h6 => ?_)
      ·have h6d := bsT h6
       have h6n := bnT h6
       omega
      ·have h6d := bsT h6
       have h6n := bnT h6
       have g'9 := (jn @h6 (jn @h6n (jn @aT (jn @aS g'8))))
       refine aa g'9 ?_
       refine go_loop try_mixed (by kernel_rfl) (fun k F Hx => ∃ j : Nat, i + k = j ∧ i < j ∧ j ≤ (bk f c.toNat).length ∧ (∀ q : Nat, j ≤ q → q < (mkB (x0, y0, x1, y1, f, c)).length → tP W Hh xs (x0, y0, x1, y1, f, c) sc g q = true) ∧ F = [(2, .sl (some (bq, 0)) sc.length cq), (3, .int .i64 g), (4, .ptr (some (H.length, 0))), (8, .ptr (some (H.length + 1, 0))), (10, .ptr (some (H.length + 2, 0))), (11, .sl (some (H.length + 3, i)) (j - i) none)] ∧ Hx = H ++ [.cells true 0 [.int .i64 W, .int .i64 Hh, .sl (some (bpp, 0)) xs.length cpp], .cells true 0 [.int .i64 0, .int .i64 0, .int .i64 0, .int .i64 0, .int .i64 0, .int .i64 0], .cells true 0 [.int .i64 (tX0 (x0, y0, x1, y1, f, c)), .int .i64 (tY0 (x0, y0, x1, y1, f, c)), .int .i64 (tX1 W (x0, y0, x1, y1, f, c)), .int .i64 (tY1 Hh (x0, y0, x1, y1, f, c))], .cells true 1 (ints .i64 (bk f c.toNat))]) ((bk f c.toNat).length - i) ?_ ?_
       ·refine ⟨_, _, _, ⟨(bk f c.toNat).length, by omega, by omega, Nat.le_refl _, (fun q h1 h2 => by have h2' : q < (bk f c.toNat).length := h2; omega), rfl, rfl⟩, Abs.byG hbel [] rfl [0, 1, 2, 3] (by decide) ?_⟩
        exact eX
       ·rintro k1 F Hx ⟨j, hm1, hij, hjn, hbk, rfl, rfl⟩ J1 hJ1
        have hj1 : ((j - i : Nat) : Int) - 1 = ((j - 1 - i : Nat) : Int) := by omega
        have hj2 : i + (j - 1 - i) = j - 1 := by omega
        have q7 := c7 (k := .i64) (xs := bk f c.toNat) (j := j - 1) (by omega)
        have g'10 := (jn @hj1 (jn @hj2 (jn @q7 g'9)))
        refine aa g'10 ?_
        refine aP (by kernel_rfl) (bad_c _ W Hh _ xs (tX0 (x0, y0, x1, y1, f, c)) (tY0 (x0, y0, x1, y1, f, c)) (tX1 W (x0, y0, x1, y1, f, c)) (tY1 Hh (x0, y0, x1, y1, f, c)) (gi (bk f c.toNat) (j - 1)) _ sc g ⟨_, _, _, rfl, by first | exact hb0pp _ | exact hbpp⟩ ⟨_, _, _, rfl, by first | exact hb0q _ | exact hbq⟩ hV hg hsB) ?_
        refine aa g'10 ?_
        refine aq (fun h8 => ?_) (fun h8 => ?_)
        ·have h8d := bsT h8
         have hbj := h8d
         have hne : ¬ j - 1 = i := fun e => by
          have q := hbj
          rw [e] at q
          exact absurd (q.symm.trans hpi) (by decide)
         have g'11 := (jn @h8 (jn @h8d g'10))
         refine aa g'11 ?_
         refine hJ1 _ _ ⟨k1 - 1, by omega, _, _, _, ⟨j - 1, by omega, by omega, by omega, fun q h1 h2 => by
               rcases Nat.lt_or_ge q j with h | h
               ·rw [show q = j - 1 by omega]; exact hbj
               ·exact hbk q h h2, rfl, rfl⟩, Abs.byG hbel [] rfl [0, 1, 2, 3] (by decide) ?_⟩
         exact eX
        ·have h8d := bsT h8
         have hfinJ := tJ_j (W := W) (Hh := Hh) (xs := xs) (b := (x0, y0, x1, y1, f, c)) (s := sc) (g := g) (j := j) (by omega) h8d (by show j ≤ (bk f c.toNat).length; omega) hbk
         have q9 := c7 (k := .i64) (xs := bk f c.toNat) (j := i) (by omega)
         have g'12 := (jn @h8 (jn @h8d (jn @q9 g'10)))
         refine aa g'12 ?_
         exact hQ _ _ (ai (.inl rfl) hbel (x := .tup [.agg [.int .i64 (tX0 (x0, y0, x1, y1, f, c)), .int .i64 (tY0 (x0, y0, x1, y1, f, c)), .int .i64 (tX1 W (x0, y0, x1, y1, f, c)), .int .i64 (tY1 Hh (x0, y0, x1, y1, f, c)), .int .i64 (gi (bk f c.toNat) i), .int .i64 ((j - i : Nat) : Int)], .bool true]) (av Tryz.results89) rfl ⟨by first | (rw [hfinO]; done) | (rw [hfinO]; rfl) | (unfold tB; rw [hfinO, hfinI, hfinJ]; rfl) | skip, rfl⟩)
    ·have h3d := bsT h3
     have hfinO := tOk_n (W := W) (Hh := Hh) (xs := xs) (b := (x0, y0, x1, y1, f, c)) (s := sc) (g := g) (i := i) (by show i = (bk f c.toNat).length; omega) hal
     have g'13 := (jn @h3 (jn @h3d g'5))
     refine aa g'13 ?_
     refine aq (fun h10 => ?_) (fun h10 => ?_)
     ·have h10d := bsT h10
      have h10n := bnT h10
      have g'14 := (jn @h10 (jn @h10n (jn @aT (jn @aS g'13))))
      refine aa g'14 ?_
      exact hQ _ _ (ai (.inl rfl) hbel (x := .tup [.agg [.int .i64 0, .int .i64 0, .int .i64 0, .int .i64 0, .int .i64 0, .int .i64 0], .bool false]) (av Tryz.results89) rfl ⟨by first | (rw [hfinO]; done) | (rw [hfinO]; rfl) | (unfold tB; rw [hfinO, hfinI, hfinJ]; rfl) | skip, rfl⟩)
     ·have h10d := bsT h10
      have h10n := bnT h10
      omega
 ·have h1d := bsT h1
  have hfinO := tOk_x (W := W) (Hh := Hh) (xs := xs) (b := (x0, y0, x1, y1, f, c)) (s := sc) (g := g) h1d
  have g'15 := (jn @h1 (jn @h1d g'1))
  refine aa g'15 ?_
  exact hQ _ _ (ai (.inl rfl) hbel (x := .tup [.agg [.int .i64 0, .int .i64 0, .int .i64 0, .int .i64 0, .int .i64 0, .int .i64 0], .bool false]) (av Tryz.results89) rfl ⟨by first | (rw [hfinO]; done) | (rw [hfinO]; rfl) | (unfold tB; rw [hfinO, hfinI, hfinJ]; rfl) | skip, rfl⟩)
theorem trim_t (H : ac) (W Hh : Int) (pp : AV) (xs : List Int) (b : T6) (q : AV) (sc : List (Int × Int)) (g : Int) (hpp : Sl H 1 pp xs.length (ints .u8 xs)) (hq : Sl H 2 q sc.length (prs sc)) (hV : b9 W Hh xs = true) (hb : bG b = true) (hsB : cd sc = true) (hg : 1 ≤ g ∧ g ≤ 32) :
  ACalls Tryz.prog 89 [.agg [.int .i64 W, .int .i64 Hh, pp], .agg [.int .i64 b.1, .int .i64 b.2.1, .int .i64 b.2.2.1, .int .i64 b.2.2.2.1, .int .i64 b.2.2.2.2.1, .int .i64 b.2.2.2.2.2], q, .int .i64 g] H (fun v H' => v = .tup [.agg [.int .i64 (mkV (tOk W Hh xs b sc g) (tB W Hh xs b sc g).1), .int .i64 (mkV (tOk W Hh xs b sc g) (tB W Hh xs b sc g).2.1), .int .i64 (mkV (tOk W Hh xs b sc g) (tB W Hh xs b sc g).2.2.1), .int .i64 (mkV (tOk W Hh xs b sc g) (tB W Hh xs b sc g).2.2.2.1), .int .i64 (mkV (tOk W Hh xs b sc g) (tB W Hh xs b sc g).2.2.2.2.1), .int .i64 (mkV (tOk W Hh xs b sc g) (tB W Hh xs b sc g).2.2.2.2.2)], .bool (tOk W Hh xs b sc g)] ∧ H' = H) :=
 trim_c H W Hh pp xs b.1 b.2.1 b.2.2.1 b.2.2.2.1 b.2.2.2.2.1 b.2.2.2.2.2 q sc g hpp hq hV hb hsB hg
open Go.RowKit
theorem mkV_f (n : Int) : mkV false n = 0 := rfl
set_option maxRecDepth 100000 in
theorem ir (H : ac) (s : AV) (l : List T6) (hs : Sl H 6 s l.length (r6 l)) (hl : l.length ≤ 1000000) (h0 : 0 < l.length) : ACalls Tryz.prog 44 [s] H (fun v H' => v = .sl (some (H.length, 0)) l.length none ∧ H' = H ++ [.cells true 6 (r6 l)]) := by
 obtain ⟨b, own, cap, rfl, hb⟩ := hs
 have hbl := getElem?_lt hb
 have hb0 := fun l => aD (l := l) hb
 generalize hm : l.length = m at *
 refine AcT true Tryz.func44 ?_; intro hbel Q hQ
 have htk : List.take (m * 6) (r6 l) = r6 l := List.take_of_length_le (by rw [aL]; omega)
 have hm0 : (m == 0) = false := beq_eq_false_iff_ne.2 (by omega)
 have hm1 : (m != 0) = true := bne_iff_ne.2 (by omega)
 have hln : (r6 l).length = m * 6 := by rw [aL, hm]
 simp -implicitDefEqProofs (disch := omega) only [hb, hb0, Option.isNone_some, hm0, h0, htk, gq, hm1, aY, hln, simprocAttr, ax, ay, Function.comp_apply, one1, lenV, af, am, ap, aop, AV.ofValue, AV.ofCell, AV.cells, AV.flat, AV.one, arep, aB, aH, aw]
 repeat refine And.intro (by omega) ?_
 refine hQ _ _ (end_by (.inl rfl) hbel (x1 := .sl (some (H.length + 1, 0)) m none) (.sl (some (H.length, 0)) m none) (av Tryz.results44) [1] (by decide) ⟨rfl, rfl⟩ ?_)
 exact absTf @bo
theorem vol_c (H : ac) (x0 : Int) (y0 : Int) (x1 : Int) (y1 : Int) (f : Int) (c : Int) : ACalls Tryz.prog 64 [.agg [.int .i64 x0, .int .i64 y0, .int .i64 x1, .int .i64 y1, .int .i64 f, .int .i64 c]] H (fun v H' => v = .int .i64 (dt (x0, y0, x1, y1, f, c)) ∧ H' = H) := by
 refine AcT true Tryz.func64 ?_; intro hbel Q hQ
 refine bi ?_
 refine aj (by kernel_rfl) (eo _ x0 y0 x1 y1 f c) ?_
 refine bi ?_
 refine aq (fun h1 => ?_) (fun h1 => ?_)
 ·have h1d := bsT h1
  have hfinV : dt (x0, y0, x1, y1, f, c) = 0 := if_neg (fun k => absurd ((show bxB x0 y0 x1 y1 f c = true from k).symm.trans h1d) (by decide))
  have g'1 := (jn @h1 @h1d)
  refine aa g'1 ?_
  exact hQ _ _ (ai (.inl rfl) hbel (x := .int .i64 0) (av Tryz.results64) rfl ⟨by first | (rw [hfinV]; done) | (rw [hfinV]; rfl), rfl⟩)
 ·have h1d := bsT h1
  have hbb := bY.1 h1d
  have haa := bS.1 hbb.2.2
  have m1 := bR (a := x1 - x0 + 1) (b := y1 - y0 + 1) (A := 2097153) (B := 2097153) (by omega) (by omega)
  have m2 := bR (a := (x1 - x0 + 1) * (y1 - y0 + 1)) (b := c) (A := 4398050705409) (B := 256) (by omega) (by omega)
  have hfinV : dt (x0, y0, x1, y1, f, c) = (x1 - x0 + 1) * (y1 - y0 + 1) * c := if_pos h1d
  have g'2 := (jn @h1 @h1d)
  refine aa g'2 ?_
  exact hQ _ _ (ai (.inl rfl) hbel (x := .int .i64 ((((x1 - x0) + 1) * ((y1 - y0) + 1)) * c)) (av Tryz.results64) rfl ⟨by first | (rw [hfinV]; done) | (rw [hfinV]; rfl), rfl⟩)
theorem spl1_c (H : ac) (n : Int) (u : Int) (hn : 0 ≤ n ∧ n ≤ 4194304) (hu : 0 ≤ u ∧ u ≤ 8) : ACalls Tryz.prog 125 [.int .i64 n, .int .i64 u] H (fun v H' => v = .int .i64 (c9 n u) ∧ H' = H) := by
 have m1 := bR (a := n) (b := u) (A := 4194304) (B := 8) (by omega) (by omega)
 refine AcT true Tryz.func125 ?_; intro hbel Q hQ
 refine bi ?_
 refine aq (fun h1 => ?_) (fun h1 => ?_)
 ·have h1d := bsT h1
  have g'3 := (jn @h1 (jn @h1d (jn @aT @aS)))
  refine aa g'3 ?_
  exact hQ _ _ (aE (.inl rfl) hbel (x := .int .i64 0) (av Tryz.results125) rfl ⟨by first | (unfold c9; rw [if_pos (by omega)]; done) | (unfold c9; rw [if_neg (by omega)]; done) | (unfold c9; rw [if_pos (by omega)]; rfl) | (unfold c9; rw [if_neg (by omega)]; rfl), rfl⟩)
 ·have h1d := bsT h1
  have g'4 := (jn @h1 (jn @h1d (jn @aT @aS)))
  refine aa g'4 ?_
  exact hQ _ _ (aE (.inl rfl) hbel (x := .int .i64 (n * u)) (av Tryz.results125) rfl ⟨by first | (unfold c9; rw [if_pos (by omega)]; done) | (unfold c9; rw [if_neg (by omega)]; done) | (unfold c9; rw [if_pos (by omega)]; rfl) | (unfold c9; rw [if_neg (by omega)]; rfl), rfl⟩)
theorem split_c (H : ac) (x0 : Int) (y0 : Int) (x1 : Int) (y1 : Int) (f : Int) (c : Int) (hb : bxB x0 y0 x1 y1 f c = true) : ACalls Tryz.prog 90 [.agg [.int .i64 x0, .int .i64 y0, .int .i64 x1, .int .i64 y1, .int .i64 f, .int .i64 c]] H (fun v H' => v = .tup [.agg [.int .i64 (mkV (cW (x0, y0, x1, y1, f, c)) ((du (x0, y0, x1, y1, f, c)).1)), .int .i64 (mkV (cW (x0, y0, x1, y1, f, c)) ((du (x0, y0, x1, y1, f, c)).2.1)), .int .i64 (mkV (cW (x0, y0, x1, y1, f, c)) ((du (x0, y0, x1, y1, f, c)).2.2.1)), .int .i64 (mkV (cW (x0, y0, x1, y1, f, c)) ((du (x0, y0, x1, y1, f, c)).2.2.2.1)), .int .i64 (mkV (cW (x0, y0, x1, y1, f, c)) ((du (x0, y0, x1, y1, f, c)).2.2.2.2.1)), .int .i64 (mkV (cW (x0, y0, x1, y1, f, c)) ((du (x0, y0, x1, y1, f, c)).2.2.2.2.2))], .agg [.int .i64 (mkV (cW (x0, y0, x1, y1, f, c)) ((dw (x0, y0, x1, y1, f, c)).1)), .int .i64 (mkV (cW (x0, y0, x1, y1, f, c)) ((dw (x0, y0, x1, y1, f, c)).2.1)), .int .i64 (mkV (cW (x0, y0, x1, y1, f, c)) ((dw (x0, y0, x1, y1, f, c)).2.2.1)), .int .i64 (mkV (cW (x0, y0, x1, y1, f, c)) ((dw (x0, y0, x1, y1, f, c)).2.2.2.1)), .int .i64 (mkV (cW (x0, y0, x1, y1, f, c)) ((dw (x0, y0, x1, y1, f, c)).2.2.2.2.1)), .int .i64 (mkV (cW (x0, y0, x1, y1, f, c)) ((dw (x0, y0, x1, y1, f, c)).2.2.2.2.2))], .bool (cW (x0, y0, x1, y1, f, c))] ∧ H' = H) := by
 have hbb := bY.1 hb
 have haa := bS.1 hbb.2.2
 have et1 : Int.tdiv (x1 - x0 + 1) 2 = (x1 - x0 + 1) / 2 := Int.tdiv_eq_ediv_of_nonneg (by omega)
 have et2 : Int.tdiv (y1 - y0 + 1) 2 = (y1 - y0 + 1) / 2 := Int.tdiv_eq_ediv_of_nonneg (by omega)
 have et3 : Int.tdiv c 2 = c / 2 := Int.tdiv_eq_ediv_of_nonneg (by omega)
 have et4 : Int.tmod (f + c / 2) 256 = (f + c / 2) % 256 := Int.tmod_eq_emod_of_nonneg (by omega)
 (refine bK Tryz.func90 _ rfl (Nat.le_of_ble_eq_true (by kernel_rfl)) rfl ?_; intro hbel Q hQ hQ' c hc; unfold Tryz.f90 at hc; simp only [Option.some.injEq] at hc; subst hc; clear hQ')
 refine aO fun Q1 hn1 hr1 he1 => ?_
 have hQ1 := fun F H' h => hr1 F H' (hQ F H' h)
 refine aI true try_mixed (by kernel_rfl) ?_
 have g'5 := (jn @et1 (jn @et2 (jn @et3 @et4)))
 refine aa g'5 ?_
 refine hn1 _ _ ?_
 refine aO fun Q2 hn2 hr2 he2 => ?_
 have hQ2 := fun F H' h => hr2 F H' (hQ F H' h)
 refine aI true try_mixed (by kernel_rfl) ?_
 refine aa g'5 ?_
 refine aj (by kernel_rfl) (vol_c _ x0 y0 x1 y1 f c) ?_
 refine aa g'5 ?_
 refine aq (fun h1 => ?_) (fun h1 => ?_)
 ·have h1d := bsT h1
  have hfinV : cW (x0, y0, x1, y1, f, c) = false := by unfold cW; rw [decide_eq_true h1d]; rfl
  have g'6 := (jn @h1 (jn @h1d g'5))
  refine aa g'6 ?_
  exact hQ2 _ _ (ai (.inl rfl) hbel (x := .tup [.agg [.int .i64 0, .int .i64 0, .int .i64 0, .int .i64 0, .int .i64 0, .int .i64 0], .agg [.int .i64 0, .int .i64 0, .int .i64 0, .int .i64 0, .int .i64 0, .int .i64 0], .bool false]) (av Tryz.results90) rfl ⟨by first | (rw [hfinV]; done) | (rw [hfinV]; rfl) | (rw [hfinV, hfinX, hfinY]; rfl), rfl⟩)
 ·have h1d := bsT h1
  have hfinV : cW (x0, y0, x1, y1, f, c) = true := by unfold cW; rw [decide_eq_false (by omega)]; rfl
  have g'7 := (jn @h1 (jn @h1d g'5))
  refine aa g'7 ?_
  refine hn2 _ _ ?_
  refine aO fun Q3 hn3 hr3 he3 => ?_
  have hQ3 := fun F H' h => hr3 F H' (hQ F H' h)
  refine aI true try_mixed (by kernel_rfl) ?_
  refine aa g'7 ?_
  refine hn3 _ _ ?_
  refine aO fun Q4 hn4 hr4 he4 => ?_
  have hQ4 := fun F H' h => hr4 F H' (hQ F H' h)
  refine aI true try_mixed (by kernel_rfl) ?_
  refine aa g'7 ?_
  refine hn4 _ _ ?_
  refine aO fun Q5 hn5 hr5 he5 => ?_
  have hQ5 := fun F H' h => hr5 F H' (hQ F H' h)
  refine aI true try_mixed (by kernel_rfl) ?_
  refine aa g'7 ?_
  refine aP (by kernel_rfl) (spl1_c _ ((x1 - x0) + 1) 1 (by omega) (by omega)) ?_
  refine aa g'7 ?_
  refine aP (by kernel_rfl) (spl1_c _ ((y1 - y0) + 1) 1 (by omega) (by omega)) ?_
  refine aa g'7 ?_
  refine aP (by kernel_rfl) (spl1_c _ c 8 (by omega) (by omega)) ?_
  refine aa g'7 ?_
  refine hn5 _ _ ?_
  refine cm true try_mixed [[0, 1, 2, 3, 4, 5], [0, 2, 3, 4, 1, 5], [0, 1, 3, 2, 4, 5], [0, 3, 2, 4, 1, 5]] (by kernel_rfl) (fun F2 H2 => F2 = [(1, .ptr (some (H.length, 0))), (2, .ptr (some (H.length + 1, 0))), (3, .ptr (some (H.length + 2, 0))), (4, .bool false), (6, .int .i64 ((x1 - x0) + 1)), (7, .int .i64 ((y1 - y0) + 1)), (8, .int .i64 (c9 ((x1 - x0) + 1) 1)), (9, .int .i64 (c9 ((y1 - y0) + 1) 1)), (10, .int .i64 (c9 c 8)), (11, .ptr (some (H.length + 3, 0))), (12, .ptr (some (H.length + 4, 0)))] ∧ H2 = H ++ [.cells true 0 [.int .i64 x0, .int .i64 y0, .int .i64 x1, .int .i64 y1, .int .i64 f, .int .i64 c], .cells true 0 [.int .i64 0, .int .i64 0, .int .i64 0, .int .i64 0, .int .i64 0, .int .i64 0], .cells true 0 [.int .i64 0, .int .i64 0, .int .i64 0, .int .i64 0, .int .i64 0, .int .i64 0], .cells true 0 [.int .i64 x0, .int .i64 y0, .int .i64 x1, .int .i64 y1, .int .i64 f, .int .i64 c], .cells true 0 [.int .i64 x0, .int .i64 y0, .int .i64 x1, .int .i64 y1, .int .i64 f, .int .i64 c]]) ?_ ?_
  ·refine aR ?_ (aR ?_ (aR ?_ (aR ?_ (cn)))) <;> intro J hJ
   ·skip
    refine aM g'7 ?_
    refine aZ (hJ _ _ ⟨_, _, _, ⟨rfl, rfl⟩, Abs.byG hbel [] rfl [0, 1, 2, 3, 4] (by decide) ?_⟩)
    exact bj
   ·skip
    refine aM g'7 ?_
    refine aZ (hJ _ _ ⟨_, _, _, ⟨rfl, rfl⟩, Abs.byG hbel [] rfl [0, 1, 2, 3, 4] (by decide) ?_⟩)
    exact bj
   ·skip
    refine aM g'7 ?_
    refine aZ (hJ _ _ ⟨_, _, _, ⟨rfl, rfl⟩, Abs.byG hbel [] rfl [0, 1, 2, 4, 3] (by decide) ?_⟩)
    exact bj
   ·skip
    refine aM g'7 ?_
    refine aZ (hJ _ _ ⟨_, _, _, ⟨rfl, rfl⟩, Abs.byG hbel [] rfl [0, 1, 2, 4, 3] (by decide) ?_⟩)
    exact bj
  rintro F2 H2 ⟨rfl, rfl⟩
  refine aO fun Q6 hn6 hr6 he6 => ?_
  have hQ6 := fun F H' h => hr6 F H' (hQ F H' h)
  refine dM fun Q7 hn7 hr7 he7 hb7 => ?_
  have hQ7 := fun F H' h => hr7 F H' (hQ6 F H' h)
  refine aO fun Q8 hn8 hr8 he8 => ?_
  have hQ8 := fun F H' h => hr8 F H' (hQ7 F H' h)
  refine aI true try_mixed (by kernel_rfl) ?_
  refine aa g'7 ?_
  refine az (fun h2 => ?_) (fun h2 => ?_)
  ·have h2d := bsT h2
   have hc1 : fQ (x0, y0, x1, y1, f, c) ≤ fu (x0, y0, x1, y1, f, c) := h2d
   have g'8 := (jn @h2 (jn @h2d g'7))
   refine aa g'8 ?_
   refine hn8 _ _ ?_
   refine ga (decide ((c9 c 8) ≤ (c9 ((x1 - x0) + 1) 1))) (by rfl) (fun h3 => ?_) (fun h3 => ?_)
   ·have h3d := bsT h3
    have hfinX : du (x0, y0, x1, y1, f, c) = (x0, y0, x0 + ((x1 - x0) + 1) / 2 - 1, y1, f, c) := if_pos ⟨hc1, h3d⟩
    have hfinY : dw (x0, y0, x1, y1, f, c) = (x0 + ((x1 - x0) + 1) / 2, y0, x1, y1, f, c) := if_pos ⟨hc1, h3d⟩
    refine aI true try_mixed (by kernel_rfl) ?_
    have g'9 := (jn @h3 (jn @h3d g'8))
    refine aa g'9 ?_
    refine hn7 _ _ ?_
    refine hn6 _ _ ?_
    refine cm true try_mixed [[0, 1, 2, 3, 4], [0, 2, 1, 3, 4]] (by kernel_rfl) (fun F2 H2 => F2 = [(2, .ptr (some (H.length, 0))), (3, .ptr (some (H.length + 1, 0))), (4, .bool true)] ∧ H2 = H ++ [.cells true 0 [.int .i64 x0, .int .i64 y0, .int .i64 ((x0 + (((x1 - x0) + 1) / 2)) - 1), .int .i64 y1, .int .i64 f, .int .i64 c], .cells true 0 [.int .i64 (x0 + (((x1 - x0) + 1) / 2)), .int .i64 y0, .int .i64 x1, .int .i64 y1, .int .i64 f, .int .i64 c]]) ?_ ?_
    ·refine aR ?_ (aR ?_ (cn)) <;> intro J hJ
     ·skip
      refine aM g'9 ?_
      refine aZ (hJ _ _ ⟨_, _, _, ⟨rfl, rfl⟩, Abs.byG hbel [] rfl [1, 2] (by decide) ?_⟩)
      exact bj
     ·skip
      refine aM g'9 ?_
      refine aZ (hJ _ _ ⟨_, _, _, ⟨rfl, rfl⟩, Abs.byG hbel [] rfl [1, 2] (by decide) ?_⟩)
      exact bj
    rintro F2 H2 ⟨rfl, rfl⟩
    refine aI true try_mixed (by kernel_rfl) ?_
    refine aa g'9 ?_
    exact hQ _ _ (ai (.inl rfl) hbel (x := .tup [.agg [.int .i64 x0, .int .i64 y0, .int .i64 ((x0 + (((x1 - x0) + 1) / 2)) - 1), .int .i64 y1, .int .i64 f, .int .i64 c], .agg [.int .i64 (x0 + (((x1 - x0) + 1) / 2)), .int .i64 y0, .int .i64 x1, .int .i64 y1, .int .i64 f, .int .i64 c], .bool true]) (av Tryz.results90) rfl ⟨by first | (rw [hfinV]; done) | (rw [hfinV]; rfl) | (rw [hfinV, hfinX, hfinY]; rfl), rfl⟩)
   ·have h3d := bsT h3
    have hc2 : ¬ splC (x0, y0, x1, y1, f, c) ≤ fu (x0, y0, x1, y1, f, c) := by have q := h3d; exact Int.not_le.2 (by first | exact q | exact Int.not_le.1 q)
    have hn1 : ¬ (fQ (x0, y0, x1, y1, f, c) ≤ fu (x0, y0, x1, y1, f, c) ∧ splC (x0, y0, x1, y1, f, c) ≤ fu (x0, y0, x1, y1, f, c)) := fun q => hc2 q.2
    refine aO fun Q9 hn9 hr9 he9 => ?_
    have hQ9 := fun F H' h => hr9 F H' (hQ7 F H' h)
    refine aI true try_mixed (by kernel_rfl) ?_
    have g'10 := (jn @h3 (jn @h3d g'8))
    refine aa g'10 ?_
    refine hn9 _ _ ?_
    refine ga (decide ((c9 c 8) ≤ (c9 ((y1 - y0) + 1) 1))) (by rfl) (fun h4 => ?_) (fun h4 => ?_)
    ·have h4d := bsT h4
     exact (hc2 (Int.le_trans h4d hc1)).elim
    ·have h4d := bsT h4
     have hc3 : ¬ splC (x0, y0, x1, y1, f, c) ≤ fQ (x0, y0, x1, y1, f, c) := by have q := h4d; exact Int.not_le.2 (by first | exact q | exact Int.not_le.1 q)
     have hfinX : du (x0, y0, x1, y1, f, c) = (x0, y0, x1, y1, f, c / 2) := (if_neg hn1).trans (if_neg hc3)
     have hfinY : dw (x0, y0, x1, y1, f, c) = (x0, y0, x1, y1, (f + c / 2) % 256, c - c / 2) := (if_neg hn1).trans (if_neg hc3)
     refine aO fun Q10 hn10 hr10 he10 => ?_
     have hQ10 := fun F H' h => hr10 F H' (hQ7 F H' h)
     refine aI true try_mixed (by kernel_rfl) ?_
     have g'11 := (jn @h4 (jn @h4d g'10))
     refine aa g'11 ?_
     refine hn10 _ _ ?_
     refine aO fun Q11 hn11 hr11 he11 => ?_
     have hQ11 := fun F H' h => hr11 F H' (hQ7 F H' h)
     refine aI true try_mixed (by kernel_rfl) ?_
     refine aa g'11 ?_
     refine hn11 _ _ ?_
     refine jR true try_mixed [[0, 1, 2, 3, 4, 5, 6, 7, 8, 9, 10, 11, 12], [0, 1, 2, 3, 4, 5, 7, 9, 10, 6, 8, 11, 12]] (by kernel_rfl) (fun F2 H2 => F2 = [(2, .ptr (some (H.length, 0))), (3, .ptr (some (H.length + 1, 0))), (11, .ptr (some (H.length + 2, 0))), (12, .ptr (some (H.length + 3, 0)))] ∧ H2 = H ++ [.cells true 0 [.int .i64 0, .int .i64 0, .int .i64 0, .int .i64 0, .int .i64 0, .int .i64 0], .cells true 0 [.int .i64 0, .int .i64 0, .int .i64 0, .int .i64 0, .int .i64 0, .int .i64 0], .cells true 0 [.int .i64 x0, .int .i64 y0, .int .i64 x1, .int .i64 y1, .int .i64 f, .int .i64 (c / 2)], .cells true 0 [.int .i64 x0, .int .i64 y0, .int .i64 x1, .int .i64 y1, .int .i64 ((f + (c / 2)) % 256), .int .i64 (c - (c / 2))]]) ?_ ?_
     ·refine aR ?_ (aR ?_ (cn)) <;> intro J hJ
      ·skip
       refine aM g'11 ?_
       refine aZ (hJ _ _ ⟨_, _, _, ⟨rfl, rfl⟩, Abs.byG hbel [] rfl [1, 2, 3, 4] (by decide) ?_⟩)
       exact bj
      ·skip
       refine aM g'11 ?_
       refine aZ (hJ _ _ ⟨_, _, _, ⟨rfl, rfl⟩, Abs.byG hbel [] rfl [1, 2, 3, 4] (by decide) ?_⟩)
       exact bj
     rintro F2 H2 ⟨rfl, rfl⟩
     refine hn7 _ _ ?_
     refine hn6 _ _ ?_
     refine cm true try_mixed [[0, 1, 2, 3, 4], [0, 2, 1, 3, 4]] (by kernel_rfl) (fun F2 H2 => F2 = [(2, .ptr (some (H.length, 0))), (3, .ptr (some (H.length + 1, 0))), (4, .bool true)] ∧ H2 = H ++ [.cells true 0 [.int .i64 x0, .int .i64 y0, .int .i64 x1, .int .i64 y1, .int .i64 f, .int .i64 (c / 2)], .cells true 0 [.int .i64 x0, .int .i64 y0, .int .i64 x1, .int .i64 y1, .int .i64 ((f + (c / 2)) % 256), .int .i64 (c - (c / 2))]]) ?_ ?_
     ·refine aR ?_ (aR ?_ (cn)) <;> intro J hJ
      ·skip
       refine aM g'11 ?_
       refine aZ (hJ _ _ ⟨_, _, _, ⟨rfl, rfl⟩, Abs.byG hbel [] rfl [0, 1] (by decide) ?_⟩)
       exact bj
      ·skip
       refine aM g'11 ?_
       refine aZ (hJ _ _ ⟨_, _, _, ⟨rfl, rfl⟩, Abs.byG hbel [] rfl [0, 1] (by decide) ?_⟩)
       exact bj
     rintro F2 H2 ⟨rfl, rfl⟩
     refine aI true try_mixed (by kernel_rfl) ?_
     refine aa g'11 ?_
     exact hQ _ _ (ai (.inl rfl) hbel (x := .tup [.agg [.int .i64 x0, .int .i64 y0, .int .i64 x1, .int .i64 y1, .int .i64 f, .int .i64 (c / 2)], .agg [.int .i64 x0, .int .i64 y0, .int .i64 x1, .int .i64 y1, .int .i64 ((f + (c / 2)) % 256), .int .i64 (c - (c / 2))], .bool true]) (av Tryz.results90) rfl ⟨by first | (rw [hfinV]; done) | (rw [hfinV]; rfl) | (rw [hfinV, hfinX, hfinY]; rfl), rfl⟩)
  ·have h2d := bsT h2
   have hc1 : ¬ fQ (x0, y0, x1, y1, f, c) ≤ fu (x0, y0, x1, y1, f, c) := by have q := h2d; exact Int.not_le.2 (by first | exact q | exact Int.not_le.1 q)
   have hn1 : ¬ (fQ (x0, y0, x1, y1, f, c) ≤ fu (x0, y0, x1, y1, f, c) ∧ splC (x0, y0, x1, y1, f, c) ≤ fu (x0, y0, x1, y1, f, c)) := fun q => hc1 q.1
   have g'12 := (jn @h2 (jn @h2d g'7))
   refine aa g'12 ?_
   refine hn8 _ _ ?_
   refine ga false (by rfl) (fun h => by cases h) (fun h => ?_)
   refine aO fun Q12 hn12 hr12 he12 => ?_
   have hQ12 := fun F H' h => hr12 F H' (hQ7 F H' h)
   refine aI true try_mixed (by kernel_rfl) ?_
   refine aa g'12 ?_
   refine hn12 _ _ ?_
   refine ga (decide ((c9 c 8) ≤ (c9 ((y1 - y0) + 1) 1))) (by rfl) (fun h5 => ?_) (fun h5 => ?_)
   ·have h5d := bsT h5
    have hfinX : du (x0, y0, x1, y1, f, c) = (x0, y0, x1, y0 + ((y1 - y0) + 1) / 2 - 1, f, c) := (if_neg hn1).trans (if_pos h5d)
    have hfinY : dw (x0, y0, x1, y1, f, c) = (x0, y0 + ((y1 - y0) + 1) / 2, x1, y1, f, c) := (if_neg hn1).trans (if_pos h5d)
    refine aI true try_mixed (by kernel_rfl) ?_
    have g'13 := (jn @h5 (jn @h5d g'12))
    refine aa g'13 ?_
    refine hn7 _ _ ?_
    refine hn6 _ _ ?_
    refine cm true try_mixed [[0, 1, 2, 3, 4], [0, 2, 1, 3, 4]] (by kernel_rfl) (fun F2 H2 => F2 = [(2, .ptr (some (H.length, 0))), (3, .ptr (some (H.length + 1, 0))), (4, .bool true)] ∧ H2 = H ++ [.cells true 0 [.int .i64 x0, .int .i64 y0, .int .i64 x1, .int .i64 ((y0 + (((y1 - y0) + 1) / 2)) - 1), .int .i64 f, .int .i64 c], .cells true 0 [.int .i64 x0, .int .i64 (y0 + (((y1 - y0) + 1) / 2)), .int .i64 x1, .int .i64 y1, .int .i64 f, .int .i64 c]]) ?_ ?_
    ·refine aR ?_ (aR ?_ (cn)) <;> intro J hJ
     ·skip
      refine aM g'13 ?_
      refine aZ (hJ _ _ ⟨_, _, _, ⟨rfl, rfl⟩, Abs.byG hbel [] rfl [1, 2] (by decide) ?_⟩)
      exact bj
     ·skip
      refine aM g'13 ?_
      refine aZ (hJ _ _ ⟨_, _, _, ⟨rfl, rfl⟩, Abs.byG hbel [] rfl [1, 2] (by decide) ?_⟩)
      exact bj
    rintro F2 H2 ⟨rfl, rfl⟩
    refine aI true try_mixed (by kernel_rfl) ?_
    refine aa g'13 ?_
    exact hQ _ _ (ai (.inl rfl) hbel (x := .tup [.agg [.int .i64 x0, .int .i64 y0, .int .i64 x1, .int .i64 ((y0 + (((y1 - y0) + 1) / 2)) - 1), .int .i64 f, .int .i64 c], .agg [.int .i64 x0, .int .i64 (y0 + (((y1 - y0) + 1) / 2)), .int .i64 x1, .int .i64 y1, .int .i64 f, .int .i64 c], .bool true]) (av Tryz.results90) rfl ⟨by first | (rw [hfinV]; done) | (rw [hfinV]; rfl) | (rw [hfinV, hfinX, hfinY]; rfl), rfl⟩)
   ·have h5d := bsT h5
    have hc3 : ¬ splC (x0, y0, x1, y1, f, c) ≤ fQ (x0, y0, x1, y1, f, c) := by have q := h5d; exact Int.not_le.2 (by first | exact q | exact Int.not_le.1 q)
    have hfinX : du (x0, y0, x1, y1, f, c) = (x0, y0, x1, y1, f, c / 2) := (if_neg hn1).trans (if_neg hc3)
    have hfinY : dw (x0, y0, x1, y1, f, c) = (x0, y0, x1, y1, (f + c / 2) % 256, c - c / 2) := (if_neg hn1).trans (if_neg hc3)
    refine aO fun Q13 hn13 hr13 he13 => ?_
    have hQ13 := fun F H' h => hr13 F H' (hQ7 F H' h)
    refine aI true try_mixed (by kernel_rfl) ?_
    have g'14 := (jn @h5 (jn @h5d g'12))
    refine aa g'14 ?_
    refine hn13 _ _ ?_
    refine aO fun Q14 hn14 hr14 he14 => ?_
    have hQ14 := fun F H' h => hr14 F H' (hQ7 F H' h)
    refine aI true try_mixed (by kernel_rfl) ?_
    refine aa g'14 ?_
    refine hn14 _ _ ?_
    refine jR true try_mixed [[0, 1, 2, 3, 4, 5, 6, 7, 8, 9, 10, 11, 12], [0, 1, 2, 3, 4, 5, 7, 9, 10, 6, 8, 11, 12]] (by kernel_rfl) (fun F2 H2 => F2 = [(2, .ptr (some (H.length, 0))), (3, .ptr (some (H.length + 1, 0))), (11, .ptr (some (H.length + 2, 0))), (12, .ptr (some (H.length + 3, 0)))] ∧ H2 = H ++ [.cells true 0 [.int .i64 0, .int .i64 0, .int .i64 0, .int .i64 0, .int .i64 0, .int .i64 0], .cells true 0 [.int .i64 0, .int .i64 0, .int .i64 0, .int .i64 0, .int .i64 0, .int .i64 0], .cells true 0 [.int .i64 x0, .int .i64 y0, .int .i64 x1, .int .i64 y1, .int .i64 f, .int .i64 (c / 2)], .cells true 0 [.int .i64 x0, .int .i64 y0, .int .i64 x1, .int .i64 y1, .int .i64 ((f + (c / 2)) % 256), .int .i64 (c - (c / 2))]]) ?_ ?_
    ·refine aR ?_ (aR ?_ (cn)) <;> intro J hJ
     ·skip
      refine aM g'14 ?_
      refine aZ (hJ _ _ ⟨_, _, _, ⟨rfl, rfl⟩, Abs.byG hbel [] rfl [1, 2, 3, 4] (by decide) ?_⟩)
      exact bj
     ·skip
      refine aM g'14 ?_
      refine aZ (hJ _ _ ⟨_, _, _, ⟨rfl, rfl⟩, Abs.byG hbel [] rfl [1, 2, 3, 4] (by decide) ?_⟩)
      exact bj
    rintro F2 H2 ⟨rfl, rfl⟩
    refine hn7 _ _ ?_
    refine hn6 _ _ ?_
    refine cm true try_mixed [[0, 1, 2, 3, 4], [0, 2, 1, 3, 4]] (by kernel_rfl) (fun F2 H2 => F2 = [(2, .ptr (some (H.length, 0))), (3, .ptr (some (H.length + 1, 0))), (4, .bool true)] ∧ H2 = H ++ [.cells true 0 [.int .i64 x0, .int .i64 y0, .int .i64 x1, .int .i64 y1, .int .i64 f, .int .i64 (c / 2)], .cells true 0 [.int .i64 x0, .int .i64 y0, .int .i64 x1, .int .i64 y1, .int .i64 ((f + (c / 2)) % 256), .int .i64 (c - (c / 2))]]) ?_ ?_
    ·refine aR ?_ (aR ?_ (cn)) <;> intro J hJ
     ·skip
      refine aM g'14 ?_
      refine aZ (hJ _ _ ⟨_, _, _, ⟨rfl, rfl⟩, Abs.byG hbel [] rfl [0, 1] (by decide) ?_⟩)
      exact bj
     ·skip
      refine aM g'14 ?_
      refine aZ (hJ _ _ ⟨_, _, _, ⟨rfl, rfl⟩, Abs.byG hbel [] rfl [0, 1] (by decide) ?_⟩)
      exact bj
    rintro F2 H2 ⟨rfl, rfl⟩
    refine aI true try_mixed (by kernel_rfl) ?_
    refine aa g'14 ?_
    exact hQ _ _ (ai (.inl rfl) hbel (x := .tup [.agg [.int .i64 x0, .int .i64 y0, .int .i64 x1, .int .i64 y1, .int .i64 f, .int .i64 (c / 2)], .agg [.int .i64 x0, .int .i64 y0, .int .i64 x1, .int .i64 y1, .int .i64 ((f + (c / 2)) % 256), .int .i64 (c - (c / 2))], .bool true]) (av Tryz.results90) rfl ⟨by first | (rw [hfinV]; done) | (rw [hfinV]; rfl) | (rw [hfinV, hfinX, hfinY]; rfl), rfl⟩)
theorem split_t (H : ac) (b : T6) (hb : bG b = true) (h : cW b = true) : ACalls Tryz.prog 90 [.agg [.int .i64 b.1, .int .i64 b.2.1, .int .i64 b.2.2.1, .int .i64 b.2.2.2.1, .int .i64 b.2.2.2.2.1, .int .i64 b.2.2.2.2.2]] H (fun v H' => v = .tup [.agg [.int .i64 (du b).1, .int .i64 (du b).2.1, .int .i64 (du b).2.2.1, .int .i64 (du b).2.2.2.1, .int .i64 (du b).2.2.2.2.1, .int .i64 (du b).2.2.2.2.2], .agg [.int .i64 (dw b).1, .int .i64 (dw b).2.1, .int .i64 (dw b).2.2.1, .int .i64 (dw b).2.2.2.1, .int .i64 (dw b).2.2.2.2.1, .int .i64 (dw b).2.2.2.2.2], .bool true] ∧ H' = H) := by
 have q := split_c H b.1 b.2.1 b.2.2.1 b.2.2.2.1 b.2.2.2.2.1 b.2.2.2.2.2 hb
 have e : cW (b.1, b.2.1, b.2.2.1, b.2.2.2.1, b.2.2.2.2.1, b.2.2.2.2.2) = true := h
 simp only [e, mkV_t] at q; exact q
theorem split_f (H : ac) (b : T6) (hb : bG b = true) (h : cW b = false) : ACalls Tryz.prog 90 [.agg [.int .i64 b.1, .int .i64 b.2.1, .int .i64 b.2.2.1, .int .i64 b.2.2.2.1, .int .i64 b.2.2.2.2.1, .int .i64 b.2.2.2.2.2]] H (fun v H' => v = .tup [.agg [.int .i64 0, .int .i64 0, .int .i64 0, .int .i64 0, .int .i64 0, .int .i64 0], .agg [.int .i64 0, .int .i64 0, .int .i64 0, .int .i64 0, .int .i64 0, .int .i64 0], .bool false] ∧ H' = H) := by
 have q := split_c H b.1 b.2.1 b.2.2.1 b.2.2.2.1 b.2.2.2.2.1 b.2.2.2.2.2 hb
 have e : cW (b.1, b.2.1, b.2.2.1, b.2.2.2.1, b.2.2.2.2.1, b.2.2.2.2.2) = false := h
 simp only [e, mkV_f] at q; exact q
theorem cmp1_c (H : ac) (x0 : Int) (y0 : Int) (x1 : Int) (y1 : Int) (f : Int) (c : Int) : ACalls Tryz.prog 91 [.agg [.int .i64 x0, .int .i64 y0, .int .i64 x1, .int .i64 y1, .int .i64 f, .int .i64 c]] H (fun v H' => v = .bool (!(bxB x0 y0 x1 y1 f c)) ∧ H' = H) := by
 refine AcT true Tryz.func91 ?_; intro hbel Q hQ
 refine bi ?_
 refine aj (by kernel_rfl) (eo _ x0 y0 x1 y1 f c) ?_
 refine bi ?_
 exact hQ _ _ (ai (.inl rfl) hbel (x := .bool (!(bxB x0 y0 x1 y1 f c))) (av Tryz.results91) rfl ⟨rfl, rfl⟩)
open Go.RowKit
def iu (n : Int) : Bool := decide (n < -2097152) || decide (2097152 < n)
def mvO (x0 y0 x1 y1 a b c d : Int) : Bool := !([x0 + a, x1 + b, y0 + c, y1 + d].any offB)
def mvE (x0 y0 x1 y1 a b c d : Int) : Int := if mvO x0 y0 x1 y1 a b c d = true then 0 else 2
theorem lC {n : Int} (h : -64 ≤ n ∧ n ≤ 64) : iu n = false := by unfold iu; rw [decide_eq_false (by omega), decide_eq_false (by omega)]; rfl
theorem off2_4 {a b c d : Int} (h1 : -64 ≤ a ∧ a ≤ 64) (h2 : -64 ≤ b ∧ b ≤ 64) (h3 : -64 ≤ c ∧ c ≤ 64) (h4 : -64 ≤ d ∧ d ≤ 64) : [a, b, c, d].any iu = false := by
 simp only [List.any_cons, List.any_nil, lC h1, lC h2, lC h3, lC h4]; rfl
theorem drch_c (H : ac) (t : Int) (f : Int) (tu : Int) (le : Int) (sl : Int) (ra : Int) (h : Int) (hC : cJ t f = true) (hB : cK tu le sl ra = true) (hh : 0 ≤ h ∧ h ≤ 255) : ACalls Tryz.prog 163 [.agg [.int .i64 t, .int .i64 f], .agg [.int .i64 tu, .int .i64 le, .int .i64 sl, .int .i64 ra], .int .i64 h] H (fun v H' => v = .tup [.agg [.int .i64 ((rqR f le sl h).1), .int .i64 ((rqR f le sl h).2.1), .int .i64 ((rqR f le sl h).2.2.1), .int .i64 ((rqR f le sl h).2.2.2)], .int .i64 0] ∧ H' = H) := by
 have hCi := hC
 simp only [cJ, Bool.and_eq_true, bM] at hCi
 have hBi := hB
 simp only [cK, Bool.and_eq_true, bM] at hBi
 have hbt : btw h 0 255 = true := bM.2 hh
 have m1 : 0 ≤ mxI (f - le) 0 ∧ mxI (f - le) 0 ≤ 48 := by unfold mxI; split <;> omega
 have m2 : 0 ≤ mxI (f + le) 0 ∧ mxI (f + le) 0 ≤ 48 := by unfold mxI; split <;> omega
 have w1 := lu h m1.1
 have w2 := lu h m2.1
 have n1 := fH (a := cT h (mxI (f - le) 0)) (b := cT h (mxI (f + le) 0))
 have n2 := fH (a := cU h (mxI (f - le) 0)) (b := cU h (mxI (f + le) 0))
 have n3 := fI (a := cT h (mxI (f - le) 0)) (b := cT h (mxI (f + le) 0))
 have n4 := fI (a := cU h (mxI (f - le) 0)) (b := cU h (mxI (f + le) 0))
 have e1 : (if (cT h (mxI (f + le) 0)) < (cT h (mxI (f - le) 0)) then (cT h (mxI (f + le) 0)) else (cT h (mxI (f - le) 0))) = mnI (cT h (mxI (f - le) 0)) (cT h (mxI (f + le) 0)) := rfl
 have e2 : (if (cU h (mxI (f + le) 0)) < (cU h (mxI (f - le) 0)) then (cU h (mxI (f + le) 0)) else (cU h (mxI (f - le) 0))) = mnI (cU h (mxI (f - le) 0)) (cU h (mxI (f + le) 0)) := rfl
 have e3 : (if (cT h (mxI (f - le) 0)) < (cT h (mxI (f + le) 0)) then (cT h (mxI (f + le) 0)) else (cT h (mxI (f - le) 0))) = mxI (cT h (mxI (f - le) 0)) (cT h (mxI (f + le) 0)) := rfl
 have e4 : (if (cU h (mxI (f - le) 0)) < (cU h (mxI (f + le) 0)) then (cU h (mxI (f + le) 0)) else (cU h (mxI (f - le) 0))) = mxI (cU h (mxI (f - le) 0)) (cU h (mxI (f + le) 0)) := rfl
 (refine bK Tryz.func163 _ rfl (Nat.le_of_ble_eq_true (by kernel_rfl)) rfl ?_; intro hbel Q hQ hQ' c hc; unfold Tryz.f163 at hc; simp only [Option.some.injEq] at hc; subst hc; clear hQ')
 refine aO fun Q1 hn1 hr1 he1 => ?_
 have hQ1 := fun F H' h => hr1 F H' (hQ F H' h)
 refine aI true try_mixed (by kernel_rfl) ?_
 have g'1 := (jn @hC (jn @hB (jn @hbt (jn @e1 (jn @e2 (jn @e3 @e4))))))
 refine aa g'1 ?_
 refine hn1 _ _ ?_
 refine aO fun Q2 hn2 hr2 he2 => ?_
 have hQ2 := fun F H' h => hr2 F H' (hQ F H' h)
 refine aI true try_mixed (by kernel_rfl) ?_
 refine aa g'1 ?_
 refine aj (by kernel_rfl) (fF _ t f) ?_
 refine aa g'1 ?_
 refine aj (by kernel_rfl) (gW _ tu le sl ra) ?_
 refine aa g'1 ?_
 refine hn2 _ _ ?_
 refine aO fun Q3 hn3 hr3 he3 => ?_
 have hQ3 := fun F H' h => hr3 F H' (hQ F H' h)
 refine aI true try_mixed (by kernel_rfl) ?_
 refine aa g'1 ?_
 refine aj (by kernel_rfl) (dS _ h 0 255) ?_
 refine aa g'1 ?_
 refine hn3 _ _ ?_
 refine aO fun Q4 hn4 hr4 he4 => ?_
 have hQ4 := fun F H' h => hr4 F H' (hQ F H' h)
 refine aI true try_mixed (by kernel_rfl) ?_
 refine aa g'1 ?_
 refine aq (fun h1 => ?_) (fun h1 => ?_)
 ·have h1d := bsT h1
  have hfinZ : rqR f le sl h = (0, 0, 0, 0) := if_pos h1d
  have g'2 := (jn @h1 (jn @h1d (jn @aT (jn @aS g'1))))
  refine aa g'2 ?_
  exact hQ4 _ _ (ai (.inl rfl) hbel (x := .tup [.agg [.int .i64 0, .int .i64 0, .int .i64 0, .int .i64 0], .int .i64 0]) (av Tryz.results163) rfl ⟨by first | (rw [hfinZ]; done) | (rw [hfinZ]; rfl), rfl⟩)
 ·have h1d := bsT h1
  have hfinZ : rqR f le sl h = (mnI (rqA f le h) (rqB f le h) - sl, mnI (rqC f le h) (rqD f le h) - sl, mxI (rqA f le h) (rqB f le h) + sl, mxI (rqC f le h) (rqD f le h) + sl) := if_neg h1d
  have g'3 := (jn @h1 (jn @h1d (jn @aT (jn @aS g'1))))
  refine aa g'3 ?_
  refine hn4 _ _ ?_
  refine cm true try_mixed [[0, 1, 2, 3, 4, 5, 6, 7, 8, 9, 10, 11, 12, 13, 14, 15, 16, 17], [0, 1, 2, 3, 4, 5, 6, 7, 8, 9, 10, 11, 12, 13, 15, 14, 16, 17], [0, 1, 2, 3, 4, 5, 6, 7, 8, 9, 10, 11, 12, 15, 13, 14, 16, 17], [0, 1, 2, 3, 4, 5, 7, 8, 9, 10, 11, 12, 15, 6, 13, 14, 16, 17], [0, 1, 2, 3, 4, 5, 6, 7, 8, 9, 10, 11, 12, 14, 13, 15, 16, 17], [0, 1, 2, 3, 4, 5, 6, 7, 8, 9, 10, 11, 12, 14, 15, 13, 16, 17], [0, 1, 2, 3, 4, 5, 6, 7, 8, 9, 10, 11, 12, 15, 14, 13, 16, 17], [0, 1, 2, 3, 4, 5, 7, 8, 9, 10, 11, 12, 15, 6, 14, 13, 16, 17], [0, 1, 2, 3, 4, 5, 7, 8, 9, 10, 11, 12, 14, 6, 13, 15, 16, 17], [0, 1, 2, 3, 4, 5, 7, 8, 9, 10, 11, 12, 14, 6, 15, 13, 16, 17], [0, 1, 2, 3, 4, 5, 7, 8, 9, 10, 11, 12, 14, 15, 6, 13, 16, 17], [0, 1, 2, 3, 4, 5, 7, 8, 9, 10, 11, 12, 15, 14, 6, 13, 16, 17]] (by kernel_rfl) (fun F2 H2 => F2 = [(4, .ptr (some (H.length, 0))), (6, .ptr (some (H.length + 1, 0))), (7, .int .i64 0), (8, .ptr (some (H.length + 2, 0))), (9, .ptr (some (H.length + 3, 0)))] ∧ H2 = H ++ [.cells true 0 [.int .i64 tu, .int .i64 le, .int .i64 sl, .int .i64 ra], .cells true 0 [.int .i64 0, .int .i64 0, .int .i64 0, .int .i64 0], .cells true 0 [.int .i64 (cT h (mxI (f - le) 0)), .int .i64 (cU h (mxI (f - le) 0))], .cells true 0 [.int .i64 (cT h (mxI (f + le) 0)), .int .i64 (cU h (mxI (f + le) 0))]]) ?_ ?_
  ·refine aR ?_ (aR ?_ (aR ?_ (aR ?_ (aR ?_ (aR ?_ (aR ?_ (aR ?_ (aR ?_ (aR ?_ (aR ?_ (aR ?_ (cn)))))))))))) <;> intro J hJ
   ·skip
    refine aM g'3 ?_
    refine aP (by kernel_rfl) (bV _ h (f - le) (by omega)) ?_
    refine aM g'3 ?_
    refine aP (by kernel_rfl) (bV _ h (f + le) (by omega)) ?_
    refine aM g'3 ?_
    refine aZ (hJ _ _ ⟨_, _, _, ⟨rfl, rfl⟩, Abs.byG hbel [] rfl [1, 2, 3, 4] (by decide) ?_⟩)
    exact bj
   ·skip
    refine aM g'3 ?_
    refine aP (by kernel_rfl) (bV _ h (f - le) (by omega)) ?_
    refine aM g'3 ?_
    refine aP (by kernel_rfl) (bV _ h (f + le) (by omega)) ?_
    refine aM g'3 ?_
    refine aZ (hJ _ _ ⟨_, _, _, ⟨rfl, rfl⟩, Abs.byG hbel [] rfl [1, 2, 4, 3] (by decide) ?_⟩)
    exact bj
   ·skip
    refine aM g'3 ?_
    refine aP (by kernel_rfl) (bV _ h (f - le) (by omega)) ?_
    refine aM g'3 ?_
    refine aP (by kernel_rfl) (bV _ h (f + le) (by omega)) ?_
    refine aM g'3 ?_
    refine aZ (hJ _ _ ⟨_, _, _, ⟨rfl, rfl⟩, Abs.byG hbel [] rfl [1, 2, 4, 3] (by decide) ?_⟩)
    exact bj
   ·skip
    refine aM g'3 ?_
    refine aP (by kernel_rfl) (bV _ h (f - le) (by omega)) ?_
    refine aM g'3 ?_
    refine aP (by kernel_rfl) (bV _ h (f + le) (by omega)) ?_
    refine aM g'3 ?_
    refine aZ (hJ _ _ ⟨_, _, _, ⟨rfl, rfl⟩, Abs.byG hbel [] rfl [1, 2, 4, 3] (by decide) ?_⟩)
    exact bj
   ·skip
    refine aM g'3 ?_
    refine aP (by kernel_rfl) (bV _ h (f - le) (by omega)) ?_
    refine aM g'3 ?_
    refine aP (by kernel_rfl) (bV _ h (f + le) (by omega)) ?_
    refine aM g'3 ?_
    refine aZ (hJ _ _ ⟨_, _, _, ⟨rfl, rfl⟩, Abs.byG hbel [] rfl [1, 2, 3, 4] (by decide) ?_⟩)
    exact bj
   ·skip
    refine aM g'3 ?_
    refine aP (by kernel_rfl) (bV _ h (f - le) (by omega)) ?_
    refine aM g'3 ?_
    refine aP (by kernel_rfl) (bV _ h (f + le) (by omega)) ?_
    refine aM g'3 ?_
    refine aZ (hJ _ _ ⟨_, _, _, ⟨rfl, rfl⟩, Abs.byG hbel [] rfl [1, 2, 3, 4] (by decide) ?_⟩)
    exact bj
   ·skip
    refine aM g'3 ?_
    refine aP (by kernel_rfl) (bV _ h (f - le) (by omega)) ?_
    refine aM g'3 ?_
    refine aP (by kernel_rfl) (bV _ h (f + le) (by omega)) ?_
    refine aM g'3 ?_
    refine aZ (hJ _ _ ⟨_, _, _, ⟨rfl, rfl⟩, Abs.byG hbel [] rfl [1, 2, 4, 3] (by decide) ?_⟩)
    exact bj
   ·skip
    refine aM g'3 ?_
    refine aP (by kernel_rfl) (bV _ h (f - le) (by omega)) ?_
    refine aM g'3 ?_
    refine aP (by kernel_rfl) (bV _ h (f + le) (by omega)) ?_
    refine aM g'3 ?_
    refine aZ (hJ _ _ ⟨_, _, _, ⟨rfl, rfl⟩, Abs.byG hbel [] rfl [1, 2, 4, 3] (by decide) ?_⟩)
    exact bj
   ·skip
    refine aM g'3 ?_
    refine aP (by kernel_rfl) (bV _ h (f - le) (by omega)) ?_
    refine aM g'3 ?_
    refine aP (by kernel_rfl) (bV _ h (f + le) (by omega)) ?_
    refine aM g'3 ?_
    refine aZ (hJ _ _ ⟨_, _, _, ⟨rfl, rfl⟩, Abs.byG hbel [] rfl [1, 2, 3, 4] (by decide) ?_⟩)
    exact bj
   ·skip
    refine aM g'3 ?_
    refine aP (by kernel_rfl) (bV _ h (f - le) (by omega)) ?_
    refine aM g'3 ?_
    refine aP (by kernel_rfl) (bV _ h (f + le) (by omega)) ?_
    refine aM g'3 ?_
    refine aZ (hJ _ _ ⟨_, _, _, ⟨rfl, rfl⟩, Abs.byG hbel [] rfl [1, 2, 3, 4] (by decide) ?_⟩)
    exact bj
   ·skip
    refine aM g'3 ?_
    refine aP (by kernel_rfl) (bV _ h (f - le) (by omega)) ?_
    refine aM g'3 ?_
    refine aP (by kernel_rfl) (bV _ h (f + le) (by omega)) ?_
    refine aM g'3 ?_
    refine aZ (hJ _ _ ⟨_, _, _, ⟨rfl, rfl⟩, Abs.byG hbel [] rfl [1, 2, 3, 4] (by decide) ?_⟩)
    exact bj
   ·skip
    refine aM g'3 ?_
    refine aP (by kernel_rfl) (bV _ h (f - le) (by omega)) ?_
    refine aM g'3 ?_
    refine aP (by kernel_rfl) (bV _ h (f + le) (by omega)) ?_
    refine aM g'3 ?_
    refine aZ (hJ _ _ ⟨_, _, _, ⟨rfl, rfl⟩, Abs.byG hbel [] rfl [1, 2, 4, 3] (by decide) ?_⟩)
    exact bj
  rintro F2 H2 ⟨rfl, rfl⟩
  refine aI true try_mixed (by kernel_rfl) ?_
  refine aa g'3 ?_
  exact hQ _ _ (ai (.inl rfl) hbel (x := .tup [.agg [.int .i64 ((mnI (cT h (mxI (f - le) 0)) (cT h (mxI (f + le) 0))) - sl), .int .i64 ((mnI (cU h (mxI (f - le) 0)) (cU h (mxI (f + le) 0))) - sl), .int .i64 ((mxI (cT h (mxI (f - le) 0)) (cT h (mxI (f + le) 0))) + sl), .int .i64 ((mxI (cU h (mxI (f - le) 0)) (cU h (mxI (f + le) 0))) + sl)], .int .i64 0]) (av Tryz.results163) rfl ⟨by first | (rw [hfinZ]; done) | (rw [hfinZ]; rfl), rfl⟩)
open Go.RowKit
theorem bmv1_c (H : ac) (n : Int) : ACalls Tryz.prog 194 [.int .i64 n] H (fun v H' => v = .bool (iu n) ∧ H' = H) := by
 refine AcT true Tryz.func194 ?_; intro hbel Q hQ
 refine bi ?_
 refine az (fun h1 => ?_) (fun h1 => ?_)
 ·have h1d := bsT h1
  have g'1 := (jn @h1 @h1d)
  refine aa g'1 ?_
  exact hQ _ _ (aE (.inl rfl) hbel (x := .bool (decide (2097152 < n))) (av Tryz.results194) rfl ⟨by simp [iu, h1d], rfl⟩)
 ·have h1d := bsT h1
  have g'2 := (jn @h1 @h1d)
  refine aa g'2 ?_
  exact hQ _ _ (aE (.inl rfl) hbel (x := .bool true) (av Tryz.results194) rfl ⟨by simp [iu, h1d], rfl⟩)
theorem bxmv_c (H : ac) (x0 : Int) (y0 : Int) (x1 : Int) (y1 : Int) (f : Int) (c : Int) (p : Int) (q : Int) (r : Int) (s : Int) (hb : bxB x0 y0 x1 y1 f c = true) (hd1 : -64 ≤ p ∧ p ≤ q ∧ q ≤ 64) (hd2 : -64 ≤ r ∧ r ≤ s ∧ s ≤ 64) : ACalls Tryz.prog 162 [.agg [.int .i64 x0, .int .i64 y0, .int .i64 x1, .int .i64 y1, .int .i64 f, .int .i64 c], .int .i64 p, .int .i64 q, .int .i64 r, .int .i64 s] H (fun v H' => v = .tup [.agg [.int .i64 (mkV (mvO x0 y0 x1 y1 p q r s) (x0 + p)), .int .i64 (mkV (mvO x0 y0 x1 y1 p q r s) (y0 + r)), .int .i64 (mkV (mvO x0 y0 x1 y1 p q r s) (x1 + q)), .int .i64 (mkV (mvO x0 y0 x1 y1 p q r s) (y1 + s)), .int .i64 (mkV (mvO x0 y0 x1 y1 p q r s) f), .int .i64 (mkV (mvO x0 y0 x1 y1 p q r s) c)], .int .i64 (mvE x0 y0 x1 y1 p q r s)] ∧ H' = H) := by
 have hbb := bY.1 hb
 have ho2 := off2_4 (a := p) (b := q) (c := r) (d := s) (by omega) (by omega) (by omega) (by omega)
 refine AcT true Tryz.func162 ?_; intro hbel Q hQ
 have g'3 := (jn @hb @ho2)
 refine aa g'3 ?_
 refine aj (by kernel_rfl) (eo _ x0 y0 x1 y1 f c) ?_
 refine aa g'3 ?_
 refine az (fun h1 => ?_) (fun h1 => ?_)
 ·have h1d := bsT h1
  have g'4 := (jn @h1 (jn @h1d g'3))
  refine aa g'4 ?_
  refine aq (fun h2 => ?_) (fun h2 => ?_)
  ·have h2d := bsT h2
   omega
  ·have h2d := bsT h2
   have g'5 := (jn @h2 (jn @h2d g'4))
   refine aa g'5 ?_
   refine aj (by kernel_rfl) (has_int _ _ [p, q, r, s] ⟨_, _, _, by first | rfl | (rw [List.length_append]; done) | (rw [List.length_append]; rfl), by first | rfl | (rw [ah]; rfl) | (rw [ae]; rfl) | (rw [ah, ag]; rfl) | (rw [ae, ag]; rfl)⟩ (by first | omega | simp) _ [] (by kernel_rfl) rfl iu (fun j hj => bmv1_c _ _)) ?_
   refine aa g'5 ?_
   refine aj (by kernel_rfl) (small_c _ _ [x0 + p, x1 + q, y0 + r, y1 + s] ⟨_, _, _, by first | rfl | (rw [List.length_append]; done) | (rw [List.length_append]; rfl), by first | rfl | (rw [ah]; rfl) | (rw [ae]; rfl) | (rw [ah, ag]; rfl) | (rw [ae, ag]; rfl)⟩ (by first | decide | omega | simp)) ?_
   refine aa g'5 ?_
   refine aq (fun h3 => ?_) (fun h3 => ?_)
   ·have h3d := bsT h3
    have hfinO : mvO x0 y0 x1 y1 p q r s = false := by unfold mvO; rw [h3d]; rfl
    have g'6 := (jn @h3 (jn @h3d g'5))
    refine aa g'6 ?_
    exact hQ _ _ (ai (.inl rfl) hbel (x := .tup [.agg [.int .i64 0, .int .i64 0, .int .i64 0, .int .i64 0, .int .i64 0, .int .i64 0], .int .i64 2]) (av Tryz.results162) rfl ⟨by unfold mvE; rw [hfinO]; rfl, rfl⟩)
   ·have h3d := bsT h3
    have hfinO : mvO x0 y0 x1 y1 p q r s = true := by unfold mvO; rw [h3d]; rfl
    have g'7 := (jn @h3 (jn @h3d g'5))
    refine aa g'7 ?_
    exact hQ _ _ (ai (.inl rfl) hbel (x := .tup [.agg [.int .i64 (x0 + p), .int .i64 (y0 + r), .int .i64 (x1 + q), .int .i64 (y1 + s), .int .i64 f, .int .i64 c], .int .i64 0]) (av Tryz.results162) rfl ⟨by unfold mvE; rw [hfinO]; rfl, rfl⟩)
 ·have h1d := bsT h1
  omega
open Go.RowKit
theorem parc_c (H : ac) (x0 : Int) (y0 : Int) (x1 : Int) (y1 : Int) (f : Int) (c : Int) : ACalls Tryz.prog 160 [.agg [.int .i64 x0, .int .i64 y0, .int .i64 x1, .int .i64 y1, .int .i64 f, .int .i64 c]] H (fun v H' => v = .agg [.int .i64 f, .int .i64 c] ∧ H' = H) := by
 refine AcT true Tryz.func160 ?_; intro hbel Q hQ
 refine bi ?_
 exact hQ _ _ (ai (.inl rfl) hbel (x := .agg [.int .i64 f, .int .i64 c]) (av Tryz.results160) rfl ⟨rfl, rfl⟩)
theorem ptrn_c (H : ac) (x0 : Int) (y0 : Int) (x1 : Int) (y1 : Int) (f : Int) (c : Int) (t : Int) (tu : Int) (ha : cp f c = true) (hu : 0 ≤ tu ∧ tu ≤ 256) : ACalls Tryz.prog 118 [.agg [.int .i64 x0, .int .i64 y0, .int .i64 x1, .int .i64 y1, .int .i64 f, .int .i64 c], .int .i64 t, .int .i64 tu] H (fun v H' => v = .agg [.int .i64 (grF (shF f c t) (cB c) tu), .int .i64 (grC (cB c) tu)] ∧ H' = H) := by
 have ka := bS.1 ha
 have hs2 : cp (shF f c t) (cB c) = true := gX (by omega)
 refine AcT true Tryz.func118 ?_; intro hbel Q hQ
 refine bi ?_
 refine aj (by kernel_rfl) (parc_c _ x0 y0 x1 y1 f c) ?_
 refine bi ?_
 refine aj (by kernel_rfl) (hshift_c _ f c t (by assumption)) ?_
 refine bi ?_
 refine aj (by kernel_rfl) (hgrow_c _ (shF f c t) (cB c) tu (by assumption) (by omega)) ?_
 refine bi ?_
 exact hQ _ _ (ai (.inl rfl) hbel (x := .agg [.int .i64 (grF (shF f c t) (cB c) tu), .int .i64 (grC (cB c) tu)]) (av Tryz.results118) rfl ⟨rfl, rfl⟩)
theorem preach_c (H : ac) (t : Int) (g : Int) (tu : Int) (le : Int) (sl : Int) (ra : Int) (bf : Int) (bc : Int) (hC : cJ t g = true) (hB : cK tu le sl ra = true) (hA : cp bf bc = true) : ACalls Tryz.prog 120 [.agg [.int .i64 t, .int .i64 g], .agg [.int .i64 tu, .int .i64 le, .int .i64 sl, .int .i64 ra], .agg [.int .i64 bf, .int .i64 bc]] H (fun v H' => v = .agg [.int .i64 ((rcS g le sl (bk bf bc.toNat) (bk bf bc.toNat).length).1), .int .i64 ((rcS g le sl (bk bf bc.toNat) (bk bf bc.toNat).length).2.1), .int .i64 ((rcS g le sl (bk bf bc.toNat) (bk bf bc.toNat).length).2.2.1), .int .i64 ((rcS g le sl (bk bf bc.toNat) (bk bf bc.toNat).length).2.2.2)] ∧ H' = H) := by
 have hCi := hC
 simp only [cJ, Bool.and_eq_true, bM] at hCi
 have hBi := hB
 simp only [cK, Bool.and_eq_true, bM] at hBi
 have ka := bS.1 hA
 have hln := dT bf bc.toNat
 refine AcT true Tryz.func120 ?_; intro hbel Q hQ
 refine bi ?_
 refine aj (by kernel_rfl) (lV _ bf bc hA) ?_
 refine bi ?_
 refine go_loop try_mixed (by kernel_rfl) (fun k F Hx => ∃ i : Nat, i + k = (bk bf bc.toNat).length ∧ F = [(3, .ptr (some (H.length, 0))), (4, .ptr (some (H.length + 1, 0))), (6, .ptr (some (H.length + 2, 0))), (7, .ptr (some (H.length + 3, 0))), (13, .sl (some (H.length + 4, 0)) ((bk bf bc.toNat).length) none), (14, .int .i64 (((bk bf bc.toNat).length : Nat) : Int)), (15, .int .i64 ((i : Nat) : Int))] ∧ Hx = H ++ [.cells true 0 [.int .i64 t, .int .i64 g], .cells true 0 [.int .i64 tu, .int .i64 le, .int .i64 sl, .int .i64 ra], .cells true 0 [.int .i64 0, .int .i64 0, .int .i64 0, .int .i64 0], .cells true 0 [.int .i64 ((rcS g le sl (bk bf bc.toNat) i).1), .int .i64 ((rcS g le sl (bk bf bc.toNat) i).2.1), .int .i64 ((rcS g le sl (bk bf bc.toNat) i).2.2.1), .int .i64 ((rcS g le sl (bk bf bc.toNat) i).2.2.2)], .cells true 1 (ints .i64 (bk bf bc.toNat))]) ((bk bf bc.toNat).length) ?_ ?_
 ·refine ⟨_, _, _, ⟨0, by omega, rfl, rfl⟩, Abs.byG hbel [] rfl [0, 1, 3, 4, 5] (by decide) ?_⟩
  exact aN @rcS.eq_1
 ·rintro k0 F Hx ⟨i, hm0, rfl, rfl⟩ J0 hJ0
  have g'1 := (jn @aK @aJ)
  refine aa g'1 ?_
  refine aq (fun h1 => ?_) (fun h1 => ?_)
  ·have h1d := bsT h1
   have hiL : i < (bk bf bc.toNat).length := by omega
   have hgi := mrkL_bd (f := bf) (n := bc.toNat) _ (gi_mem hiL)
   have q2 := c7 (k := .i64) (xs := bk bf bc.toNat) (j := i) (by omega)
   have g'2 := (jn @h1 (jn @h1d (jn @q2 g'1)))
   refine aa g'2 ?_
   refine aj (by kernel_rfl) (drch_c _ t g tu le sl ra (gi (bk bf bc.toNat) i) (by assumption) (by assumption) (by omega)) ?_
   refine aa g'2 ?_
   refine aq (fun h3 => ?_) (fun h3 => ?_)
   ·have h3d := bsT h3
    have h3n := bnT h3
    have hi0 : i = 0 := by have q := h3d; simpa using q
    have hs0 : (rcS g le sl (bk bf bc.toNat) (i + 1)).1 = mnI ((rqR g le sl (gi (bk bf bc.toNat) i)).1) ((rqR g le sl (gi (bk bf bc.toNat) i)).1) := by rw [rcS]; simp only; rw [if_pos hi0]
    have hs1 : (rcS g le sl (bk bf bc.toNat) (i + 1)).2.1 = mnI ((rqR g le sl (gi (bk bf bc.toNat) i)).2.1) ((rqR g le sl (gi (bk bf bc.toNat) i)).2.1) := by rw [rcS]; simp only; rw [if_pos hi0]
    have hs2 : (rcS g le sl (bk bf bc.toNat) (i + 1)).2.2.1 = mxI ((rqR g le sl (gi (bk bf bc.toNat) i)).2.2.1) ((rqR g le sl (gi (bk bf bc.toNat) i)).2.2.1) := by rw [rcS]; simp only; rw [if_pos hi0]
    have hs3 : (rcS g le sl (bk bf bc.toNat) (i + 1)).2.2.2 = mxI ((rqR g le sl (gi (bk bf bc.toNat) i)).2.2.2) ((rqR g le sl (gi (bk bf bc.toNat) i)).2.2.2) := by rw [rcS]; simp only; rw [if_pos hi0]
    have g'3 := (jn @h3 (jn @h3n (jn @aT (jn @aS g'2))))
    refine aa g'3 ?_
    refine hJ0 _ _ ⟨k0 - 1, by omega, _, _, _, ⟨i + 1, by omega, rfl, rfl⟩, Abs.byG hbel [] rfl [0, 1, 2, 3, 4] (by decide) ?_⟩
    exact aN (jn @hs0 (jn @hs1 (jn @hs2 @hs3)))
   ·have h3d := bsT h3
    have h3n := bnT h3
    have hi0 : ¬ i = 0 := by have q := h3d; simpa using q
    have hs0 : (rcS g le sl (bk bf bc.toNat) (i + 1)).1 = mnI ((rcS g le sl (bk bf bc.toNat) i).1) ((rqR g le sl (gi (bk bf bc.toNat) i)).1) := by rw [rcS]; simp only; rw [if_neg hi0]
    have hs1 : (rcS g le sl (bk bf bc.toNat) (i + 1)).2.1 = mnI ((rcS g le sl (bk bf bc.toNat) i).2.1) ((rqR g le sl (gi (bk bf bc.toNat) i)).2.1) := by rw [rcS]; simp only; rw [if_neg hi0]
    have hs2 : (rcS g le sl (bk bf bc.toNat) (i + 1)).2.2.1 = mxI ((rcS g le sl (bk bf bc.toNat) i).2.2.1) ((rqR g le sl (gi (bk bf bc.toNat) i)).2.2.1) := by rw [rcS]; simp only; rw [if_neg hi0]
    have hs3 : (rcS g le sl (bk bf bc.toNat) (i + 1)).2.2.2 = mxI ((rcS g le sl (bk bf bc.toNat) i).2.2.2) ((rqR g le sl (gi (bk bf bc.toNat) i)).2.2.2) := by rw [rcS]; simp only; rw [if_neg hi0]
    have g'4 := (jn @h3 (jn @h3n (jn @aT (jn @aS g'2))))
    refine aa g'4 ?_
    refine hJ0 _ _ ⟨k0 - 1, by omega, _, _, _, ⟨i + 1, by omega, rfl, rfl⟩, Abs.byG hbel [] rfl [0, 1, 2, 3, 4] (by decide) ?_⟩
    exact aN (jn @hs0 (jn @hs1 (jn @hs2 @hs3)))
  ·have h1d := bsT h1
   obtain rfl : i = (bk bf bc.toNat).length := by omega
   have g'5 := (jn @h1 (jn @h1d g'1))
   refine aa g'5 ?_
   exact hQ _ _ (ai (.inl rfl) hbel (x := .agg [.int .i64 ((rcS g le sl (bk bf bc.toNat) (bk bf bc.toNat).length).1), .int .i64 ((rcS g le sl (bk bf bc.toNat) (bk bf bc.toNat).length).2.1), .int .i64 ((rcS g le sl (bk bf bc.toNat) (bk bf bc.toNat).length).2.2.1), .int .i64 ((rcS g le sl (bk bf bc.toNat) (bk bf bc.toNat).length).2.2.2)]) (av Tryz.results120) rfl ⟨rfl, rfl⟩)
open Go.RowKit
theorem pval_c (H : ac) (x0 : Int) (y0 : Int) (x1 : Int) (y1 : Int) (f : Int) (c : Int) (t : Int) (g : Int) (tu : Int) (le : Int) (sl : Int) (ra : Int) : ACalls Tryz.prog 117 [.agg [.int .i64 x0, .int .i64 y0, .int .i64 x1, .int .i64 y1, .int .i64 f, .int .i64 c], .agg [.int .i64 t, .int .i64 g], .agg [.int .i64 tu, .int .i64 le, .int .i64 sl, .int .i64 ra]] H (fun v H' => v = .bool (bxB x0 y0 x1 y1 f c && cJ t g && cK tu le sl ra) ∧ H' = H) := by
 refine AcT true Tryz.func117 ?_; intro hbel Q hQ
 refine bi ?_
 refine aj (by kernel_rfl) (eo _ x0 y0 x1 y1 f c) ?_
 refine bi ?_
 refine az (fun h1 => ?_) (fun h1 => ?_)
 ·have h1d := bsT h1
  have g'1 := (jn @h1 @h1d)
  refine aa g'1 ?_
  refine aj (by kernel_rfl) (fF _ t g) ?_
  refine aa g'1 ?_
  refine az (fun h2 => ?_) (fun h2 => ?_)
  ·have h2d := bsT h2
   have g'2 := (jn @h2 (jn @h2d g'1))
   refine aa g'2 ?_
   refine aj (by kernel_rfl) (gW _ tu le sl ra) ?_
   refine aa g'2 ?_
   exact hQ _ _ (ai (.inl rfl) hbel (x := .bool (cK tu le sl ra)) (av Tryz.results117) rfl ⟨by simp [h1d, h2d], rfl⟩)
  ·have h2d := bsT h2
   have g'3 := (jn @h2 (jn @h2d g'1))
   refine aa g'3 ?_
   exact hQ _ _ (ai (.inl rfl) hbel (x := .bool false) (av Tryz.results117) rfl ⟨by simp [h1d, h2d], rfl⟩)
 ·have h1d := bsT h1
  have g'4 := (jn @h1 @h1d)
  refine aa g'4 ?_
  exact hQ _ _ (ai (.inl rfl) hbel (x := .bool false) (av Tryz.results117) rfl ⟨by simp [h1d], rfl⟩)
theorem pmvd_c (H : ac) (x0 : Int) (y0 : Int) (x1 : Int) (y1 : Int) (f : Int) (c : Int) (nf : Int) (nc : Int) (p : Int) (r : Int) (q : Int) (s : Int) (hb : bxB x0 y0 x1 y1 f c = true) (ha : cp nf nc = true) (hd1 : -64 ≤ p ∧ p ≤ q ∧ q ≤ 64) (hd2 : -64 ≤ r ∧ r ≤ s ∧ s ≤ 64) : ACalls Tryz.prog 119 [.agg [.int .i64 x0, .int .i64 y0, .int .i64 x1, .int .i64 y1, .int .i64 f, .int .i64 c], .agg [.int .i64 nf, .int .i64 nc], .agg [.int .i64 p, .int .i64 r, .int .i64 q, .int .i64 s]] H (fun v H' => v = .tup [.agg [.int .i64 (mkV (mvO x0 y0 x1 y1 p q r s) (x0 + p)), .int .i64 (mkV (mvO x0 y0 x1 y1 p q r s) (y0 + r)), .int .i64 (mkV (mvO x0 y0 x1 y1 p q r s) (x1 + q)), .int .i64 (mkV (mvO x0 y0 x1 y1 p q r s) (y1 + s)), .int .i64 (mkV (mvO x0 y0 x1 y1 p q r s) nf), .int .i64 (mkV (mvO x0 y0 x1 y1 p q r s) nc)], .int .i64 (mvE x0 y0 x1 y1 p q r s)] ∧ H' = H) := by
 have hbb := bY.1 hb
 have hb2 : bxB x0 y0 x1 y1 nf nc = true := bY.2 ⟨hbb.1, hbb.2.1, ha⟩
 (refine bK Tryz.func119 _ rfl (Nat.le_of_ble_eq_true (by kernel_rfl)) rfl ?_; intro hbel Q hQ hQ' c hc; unfold Tryz.f119 at hc; simp only [Option.some.injEq] at hc; subst hc; clear hQ')
 refine aO fun Q1 hn1 hr1 he1 => ?_
 have hQ1 := fun F H' h => hr1 F H' (hQ F H' h)
 refine aI true try_mixed (by kernel_rfl) ?_
 refine bi ?_
 refine hn1 _ _ ?_
 refine cm true try_mixed [[0, 1, 2, 3, 4, 5, 6, 7], [0, 1, 2, 4, 5, 3, 6, 7]] (by kernel_rfl) (fun F2 H2 => F2 = [(3, .ptr (some (H.length, 0))), (5, .ptr (some (H.length + 1, 0))), (6, .ptr (some (H.length + 2, 0))), (7, .int .i64 0)] ∧ H2 = H ++ [.cells true 0 [.int .i64 x0, .int .i64 y0, .int .i64 x1, .int .i64 y1, .int .i64 nf, .int .i64 nc], .cells true 0 [.int .i64 p, .int .i64 r, .int .i64 q, .int .i64 s], .cells true 0 [.int .i64 0, .int .i64 0, .int .i64 0, .int .i64 0, .int .i64 0, .int .i64 0]]) ?_ ?_
 ·refine aR ?_ (aR ?_ (cn)) <;> intro J hJ
  ·skip
   refine runD ?_
   refine aZ (hJ _ _ ⟨_, _, _, ⟨rfl, rfl⟩, Abs.byG hbel [] rfl [0, 2, 3] (by decide) ?_⟩)
   exact bj
  ·skip
   refine runD ?_
   refine aZ (hJ _ _ ⟨_, _, _, ⟨rfl, rfl⟩, Abs.byG hbel [] rfl [0, 2, 3] (by decide) ?_⟩)
   exact bj
 rintro F2 H2 ⟨rfl, rfl⟩
 refine aI true try_mixed (by kernel_rfl) ?_
 refine bi ?_
 refine aj (by kernel_rfl) (bxmv_c _ x0 y0 x1 y1 nf nc p q r s (by assumption) (by omega) (by omega)) ?_
 refine bi ?_
 exact hQ _ _ (ai (.inl rfl) hbel (x := .tup [.agg [.int .i64 (mkV (mvO x0 y0 x1 y1 p q r s) (x0 + p)), .int .i64 (mkV (mvO x0 y0 x1 y1 p q r s) (y0 + r)), .int .i64 (mkV (mvO x0 y0 x1 y1 p q r s) (x1 + q)), .int .i64 (mkV (mvO x0 y0 x1 y1 p q r s) (y1 + s)), .int .i64 (mkV (mvO x0 y0 x1 y1 p q r s) nf), .int .i64 (mkV (mvO x0 y0 x1 y1 p q r s) nc)], .int .i64 (mvE x0 y0 x1 y1 p q r s)]) (av Tryz.results119) rfl ⟨rfl, rfl⟩)
theorem preachq_c (H : ac) (t g tu le sl ra f c : Int) (hC : cJ t g = true) (hB : cK tu le sl ra = true) (ha : cp f c = true) (hu : 0 ≤ tu ∧ tu ≤ 8) {x0 y0 x1 y1 : Int} : ACalls Tryz.prog 120 [.agg [.int .i64 t, .int .i64 g], .agg [.int .i64 tu, .int .i64 le, .int .i64 sl, .int .i64 ra], .agg [.int .i64 (grF (shF f c t) (cB c) tu), .int .i64 (grC (cB c) tu)]] H (fun v H' => v = .agg [.int .i64 (imR (x0, y0, x1, y1, f, c) t g tu le sl).1, .int .i64 (imR (x0, y0, x1, y1, f, c) t g tu le sl).2.1, .int .i64 (imR (x0, y0, x1, y1, f, c) t g tu le sl).2.2.1, .int .i64 (imR (x0, y0, x1, y1, f, c) t g tu le sl).2.2.2] ∧ H' = H) :=
 preach_c H t g tu le sl ra _ _ hC hB (by have k := bS.1 ha; refine gX ?_; unfold cB; split <;> omega)
theorem image_c (H : ac) (x0 : Int) (y0 : Int) (x1 : Int) (y1 : Int) (f : Int) (c : Int) (t : Int) (g : Int) (tu : Int) (le : Int) (sl : Int) (ra : Int) (hb : bxB x0 y0 x1 y1 f c = true) (hC : cJ t g = true) (hB : cK tu le sl ra = true) : ACalls Tryz.prog 84 [.agg [.int .i64 x0, .int .i64 y0, .int .i64 x1, .int .i64 y1, .int .i64 f, .int .i64 c], .agg [.int .i64 t, .int .i64 g], .agg [.int .i64 tu, .int .i64 le, .int .i64 sl, .int .i64 ra]] H (fun v H' => v = .tup [.agg [.int .i64 (mkV (mvO x0 y0 x1 y1 (imR (x0, y0, x1, y1, f, c) t g tu le sl).1 (imR (x0, y0, x1, y1, f, c) t g tu le sl).2.2.1 (imR (x0, y0, x1, y1, f, c) t g tu le sl).2.1 (imR (x0, y0, x1, y1, f, c) t g tu le sl).2.2.2) (x0 + (imR (x0, y0, x1, y1, f, c) t g tu le sl).1)), .int .i64 (mkV (mvO x0 y0 x1 y1 (imR (x0, y0, x1, y1, f, c) t g tu le sl).1 (imR (x0, y0, x1, y1, f, c) t g tu le sl).2.2.1 (imR (x0, y0, x1, y1, f, c) t g tu le sl).2.1 (imR (x0, y0, x1, y1, f, c) t g tu le sl).2.2.2) (y0 + (imR (x0, y0, x1, y1, f, c) t g tu le sl).2.1)), .int .i64 (mkV (mvO x0 y0 x1 y1 (imR (x0, y0, x1, y1, f, c) t g tu le sl).1 (imR (x0, y0, x1, y1, f, c) t g tu le sl).2.2.1 (imR (x0, y0, x1, y1, f, c) t g tu le sl).2.1 (imR (x0, y0, x1, y1, f, c) t g tu le sl).2.2.2) (x1 + (imR (x0, y0, x1, y1, f, c) t g tu le sl).2.2.1)), .int .i64 (mkV (mvO x0 y0 x1 y1 (imR (x0, y0, x1, y1, f, c) t g tu le sl).1 (imR (x0, y0, x1, y1, f, c) t g tu le sl).2.2.1 (imR (x0, y0, x1, y1, f, c) t g tu le sl).2.1 (imR (x0, y0, x1, y1, f, c) t g tu le sl).2.2.2) (y1 + (imR (x0, y0, x1, y1, f, c) t g tu le sl).2.2.2)), .int .i64 (mkV (mvO x0 y0 x1 y1 (imR (x0, y0, x1, y1, f, c) t g tu le sl).1 (imR (x0, y0, x1, y1, f, c) t g tu le sl).2.2.1 (imR (x0, y0, x1, y1, f, c) t g tu le sl).2.1 (imR (x0, y0, x1, y1, f, c) t g tu le sl).2.2.2) (grF (shF f c t) (cB c) tu)), .int .i64 (mkV (mvO x0 y0 x1 y1 (imR (x0, y0, x1, y1, f, c) t g tu le sl).1 (imR (x0, y0, x1, y1, f, c) t g tu le sl).2.2.1 (imR (x0, y0, x1, y1, f, c) t g tu le sl).2.1 (imR (x0, y0, x1, y1, f, c) t g tu le sl).2.2.2) (grC (cB c) tu))], .int .i64 (mvE x0 y0 x1 y1 (imR (x0, y0, x1, y1, f, c) t g tu le sl).1 (imR (x0, y0, x1, y1, f, c) t g tu le sl).2.2.1 (imR (x0, y0, x1, y1, f, c) t g tu le sl).2.1 (imR (x0, y0, x1, y1, f, c) t g tu le sl).2.2.2)] ∧ H' = H) := by
 have hCi := hC
 simp only [cJ, Bool.and_eq_true, bM] at hCi
 have hBi := hB
 simp only [cK, Bool.and_eq_true, bM] at hBi
 have hbb := bY.1 hb
 have hab := hbb.2.2
 have ka := bS.1 hab
 have hs2 : cp (shF f c t) (cB c) = true := gX (by omega)
 have htu : 0 ≤ tu ∧ tu ≤ 8 := by omega
 have hg2 : cp (grF (shF f c t) (cB c) tu) (grC (cB c) tu) = true := gX (by unfold cB; split <;> omega)
 have hbd : (-64 ≤ (imR (x0, y0, x1, y1, f, c) t g tu le sl).1 ∧ (imR (x0, y0, x1, y1, f, c) t g tu le sl).1 ≤ (imR (x0, y0, x1, y1, f, c) t g tu le sl).2.2.1 ∧ (imR (x0, y0, x1, y1, f, c) t g tu le sl).2.2.1 ≤ 64) ∧ -64 ≤ (imR (x0, y0, x1, y1, f, c) t g tu le sl).2.1 ∧ (imR (x0, y0, x1, y1, f, c) t g tu le sl).2.1 ≤ (imR (x0, y0, x1, y1, f, c) t g tu le sl).2.2.2 ∧ (imR (x0, y0, x1, y1, f, c) t g tu le sl).2.2.2 ≤ 64 := rcS_bd (by omega) (by omega) (by omega) _
 (refine bK Tryz.func84 _ rfl (Nat.le_of_ble_eq_true (by kernel_rfl)) rfl ?_; intro hbel Q hQ hQ' c hc; unfold Tryz.f84 at hc; simp only [Option.some.injEq] at hc; subst hc; clear hQ')
 refine aO fun Q2 hn2 hr2 he2 => ?_
 have hQ2 := fun F H' h => hr2 F H' (hQ F H' h)
 refine aI true try_mixed (by kernel_rfl) ?_
 have g'5 := (jn @hb (jn @hC @hB))
 refine aa g'5 ?_
 refine hn2 _ _ ?_
 refine aO fun Q3 hn3 hr3 he3 => ?_
 have hQ3 := fun F H' h => hr3 F H' (hQ F H' h)
 refine aI true try_mixed (by kernel_rfl) ?_
 refine aa g'5 ?_
 refine aj (by kernel_rfl) (pval_c _ x0 y0 x1 y1 f c t g tu le sl ra) ?_
 refine aa g'5 ?_
 refine hn3 _ _ ?_
 refine aO fun Q4 hn4 hr4 he4 => ?_
 have hQ4 := fun F H' h => hr4 F H' (hQ F H' h)
 refine aI true try_mixed (by kernel_rfl) ?_
 refine aa g'5 ?_
 refine aj (by kernel_rfl) (ptrn_c _ x0 y0 x1 y1 f c t tu (by assumption) (by omega)) ?_
 refine aa g'5 ?_
 refine hn4 _ _ ?_
 refine cm true try_mixed [[0, 1, 2, 3, 4, 5, 6, 7, 8, 9, 10]] (by kernel_rfl) (fun F2 H2 => F2 = [(6, .ptr (some (H.length, 0))), (7, .int .i64 (mvE x0 y0 x1 y1 ((imR (x0, y0, x1, y1, f, c) t g tu le sl).1) ((imR (x0, y0, x1, y1, f, c) t g tu le sl).2.2.1) ((imR (x0, y0, x1, y1, f, c) t g tu le sl).2.1) ((imR (x0, y0, x1, y1, f, c) t g tu le sl).2.2.2)))] ∧ H2 = H ++ [.cells true 0 [.int .i64 (mkV (mvO x0 y0 x1 y1 ((imR (x0, y0, x1, y1, f, c) t g tu le sl).1) ((imR (x0, y0, x1, y1, f, c) t g tu le sl).2.2.1) ((imR (x0, y0, x1, y1, f, c) t g tu le sl).2.1) ((imR (x0, y0, x1, y1, f, c) t g tu le sl).2.2.2)) (x0 + ((imR (x0, y0, x1, y1, f, c) t g tu le sl).1))), .int .i64 (mkV (mvO x0 y0 x1 y1 ((imR (x0, y0, x1, y1, f, c) t g tu le sl).1) ((imR (x0, y0, x1, y1, f, c) t g tu le sl).2.2.1) ((imR (x0, y0, x1, y1, f, c) t g tu le sl).2.1) ((imR (x0, y0, x1, y1, f, c) t g tu le sl).2.2.2)) (y0 + ((imR (x0, y0, x1, y1, f, c) t g tu le sl).2.1))), .int .i64 (mkV (mvO x0 y0 x1 y1 ((imR (x0, y0, x1, y1, f, c) t g tu le sl).1) ((imR (x0, y0, x1, y1, f, c) t g tu le sl).2.2.1) ((imR (x0, y0, x1, y1, f, c) t g tu le sl).2.1) ((imR (x0, y0, x1, y1, f, c) t g tu le sl).2.2.2)) (x1 + ((imR (x0, y0, x1, y1, f, c) t g tu le sl).2.2.1))), .int .i64 (mkV (mvO x0 y0 x1 y1 ((imR (x0, y0, x1, y1, f, c) t g tu le sl).1) ((imR (x0, y0, x1, y1, f, c) t g tu le sl).2.2.1) ((imR (x0, y0, x1, y1, f, c) t g tu le sl).2.1) ((imR (x0, y0, x1, y1, f, c) t g tu le sl).2.2.2)) (y1 + ((imR (x0, y0, x1, y1, f, c) t g tu le sl).2.2.2))), .int .i64 (mkV (mvO x0 y0 x1 y1 ((imR (x0, y0, x1, y1, f, c) t g tu le sl).1) ((imR (x0, y0, x1, y1, f, c) t g tu le sl).2.2.1) ((imR (x0, y0, x1, y1, f, c) t g tu le sl).2.1) ((imR (x0, y0, x1, y1, f, c) t g tu le sl).2.2.2)) (grF (shF f c t) (cB c) tu)), .int .i64 (mkV (mvO x0 y0 x1 y1 ((imR (x0, y0, x1, y1, f, c) t g tu le sl).1) ((imR (x0, y0, x1, y1, f, c) t g tu le sl).2.2.1) ((imR (x0, y0, x1, y1, f, c) t g tu le sl).2.1) ((imR (x0, y0, x1, y1, f, c) t g tu le sl).2.2.2)) (grC (cB c) tu))]]) ?_ ?_
 ·refine aR ?_ (cn) <;> intro J hJ
  ·skip
   refine aM g'5 ?_
   refine aP (by kernel_rfl) (preachq_c (x0 := x0) (y0 := y0) (x1 := x1) (y1 := y1) _ t g tu le sl ra f c hC hB hab htu) ?_
   refine aM g'5 ?_
   refine aP (by kernel_rfl) (pmvd_c _ x0 y0 x1 y1 f c (grF (shF f c t) (cB c) tu) (grC (cB c) tu) ((imR (x0, y0, x1, y1, f, c) t g tu le sl).1) ((imR (x0, y0, x1, y1, f, c) t g tu le sl).2.1) ((imR (x0, y0, x1, y1, f, c) t g tu le sl).2.2.1) ((imR (x0, y0, x1, y1, f, c) t g tu le sl).2.2.2) (by assumption) (by assumption) (by omega) (by omega)) ?_
   refine aM g'5 ?_
   refine aZ (hJ _ _ ⟨_, _, _, ⟨rfl, rfl⟩, Abs.byG hbel [] rfl [3] (by decide) ?_⟩)
   exact bj
 rintro F2 H2 ⟨rfl, rfl⟩
 refine aI true try_mixed (by kernel_rfl) ?_
 refine aa g'5 ?_
 exact hQ _ _ (ai (.inl rfl) hbel (x := .tup [.agg [.int .i64 (mkV (mvO x0 y0 x1 y1 ((imR (x0, y0, x1, y1, f, c) t g tu le sl).1) ((imR (x0, y0, x1, y1, f, c) t g tu le sl).2.2.1) ((imR (x0, y0, x1, y1, f, c) t g tu le sl).2.1) ((imR (x0, y0, x1, y1, f, c) t g tu le sl).2.2.2)) (x0 + ((imR (x0, y0, x1, y1, f, c) t g tu le sl).1))), .int .i64 (mkV (mvO x0 y0 x1 y1 ((imR (x0, y0, x1, y1, f, c) t g tu le sl).1) ((imR (x0, y0, x1, y1, f, c) t g tu le sl).2.2.1) ((imR (x0, y0, x1, y1, f, c) t g tu le sl).2.1) ((imR (x0, y0, x1, y1, f, c) t g tu le sl).2.2.2)) (y0 + ((imR (x0, y0, x1, y1, f, c) t g tu le sl).2.1))), .int .i64 (mkV (mvO x0 y0 x1 y1 ((imR (x0, y0, x1, y1, f, c) t g tu le sl).1) ((imR (x0, y0, x1, y1, f, c) t g tu le sl).2.2.1) ((imR (x0, y0, x1, y1, f, c) t g tu le sl).2.1) ((imR (x0, y0, x1, y1, f, c) t g tu le sl).2.2.2)) (x1 + ((imR (x0, y0, x1, y1, f, c) t g tu le sl).2.2.1))), .int .i64 (mkV (mvO x0 y0 x1 y1 ((imR (x0, y0, x1, y1, f, c) t g tu le sl).1) ((imR (x0, y0, x1, y1, f, c) t g tu le sl).2.2.1) ((imR (x0, y0, x1, y1, f, c) t g tu le sl).2.1) ((imR (x0, y0, x1, y1, f, c) t g tu le sl).2.2.2)) (y1 + ((imR (x0, y0, x1, y1, f, c) t g tu le sl).2.2.2))), .int .i64 (mkV (mvO x0 y0 x1 y1 ((imR (x0, y0, x1, y1, f, c) t g tu le sl).1) ((imR (x0, y0, x1, y1, f, c) t g tu le sl).2.2.1) ((imR (x0, y0, x1, y1, f, c) t g tu le sl).2.1) ((imR (x0, y0, x1, y1, f, c) t g tu le sl).2.2.2)) (grF (shF f c t) (cB c) tu)), .int .i64 (mkV (mvO x0 y0 x1 y1 ((imR (x0, y0, x1, y1, f, c) t g tu le sl).1) ((imR (x0, y0, x1, y1, f, c) t g tu le sl).2.2.1) ((imR (x0, y0, x1, y1, f, c) t g tu le sl).2.1) ((imR (x0, y0, x1, y1, f, c) t g tu le sl).2.2.2)) (grC (cB c) tu))], .int .i64 (mvE x0 y0 x1 y1 ((imR (x0, y0, x1, y1, f, c) t g tu le sl).1) ((imR (x0, y0, x1, y1, f, c) t g tu le sl).2.2.1) ((imR (x0, y0, x1, y1, f, c) t g tu le sl).2.1) ((imR (x0, y0, x1, y1, f, c) t g tu le sl).2.2.2))]) (av Tryz.results84) rfl ⟨rfl, rfl⟩)
theorem image_t (H : ac) (b : T6) (t g tu le sl ra : Int) (hb : bG b = true) (hC : cJ t g = true) (hB : cK tu le sl ra = true) : ACalls Tryz.prog 84 [.agg [.int .i64 b.1, .int .i64 b.2.1, .int .i64 b.2.2.1, .int .i64 b.2.2.2.1, .int .i64 b.2.2.2.2.1, .int .i64 b.2.2.2.2.2], .agg [.int .i64 t, .int .i64 g], .agg [.int .i64 tu, .int .i64 le, .int .i64 sl, .int .i64 ra]] H (fun v H' => v = .tup [.agg [.int .i64 (mkV (imO b t g tu le sl) (imB b t g tu le sl).1), .int .i64 (mkV (imO b t g tu le sl) (imB b t g tu le sl).2.1), .int .i64 (mkV (imO b t g tu le sl) (imB b t g tu le sl).2.2.1), .int .i64 (mkV (imO b t g tu le sl) (imB b t g tu le sl).2.2.2.1), .int .i64 (mkV (imO b t g tu le sl) (imB b t g tu le sl).2.2.2.2.1), .int .i64 (mkV (imO b t g tu le sl) (imB b t g tu le sl).2.2.2.2.2)], .int .i64 (imE b t g tu le sl)] ∧ H' = H) :=
 image_c H b.1 b.2.1 b.2.2.1 b.2.2.2.1 b.2.2.2.2.1 b.2.2.2.2.2 t g tu le sl ra hb hC hB
open Go.RowKit
def stF (b : Bool) (g : Int) : Int := if b = true then 0 else g
theorem lW {t g : Int} (b : Bool) (h : cJ t g = true) : cJ t (stF b g) = true := by
 cases b
 ·exact h
 ·show cJ t 0 = true
  unfold cJ at h ⊢
  rw [Bool.and_eq_true] at h ⊢
  exact ⟨h.1, by decide⟩
theorem jB (H : ac) (b : T6) (t g tu le sl ra : Int) (hb : bG b = true) (hC : cJ t g = true) (hB : cK tu le sl ra = true) (h : imO b t g tu le sl = true) : ACalls Tryz.prog 84 [.agg [.int .i64 b.1, .int .i64 b.2.1, .int .i64 b.2.2.1, .int .i64 b.2.2.2.1, .int .i64 b.2.2.2.2.1, .int .i64 b.2.2.2.2.2], .agg [.int .i64 t, .int .i64 g], .agg [.int .i64 tu, .int .i64 le, .int .i64 sl, .int .i64 ra]] H (fun v H' => v = .tup [.agg [.int .i64 (imB b t g tu le sl).1, .int .i64 (imB b t g tu le sl).2.1, .int .i64 (imB b t g tu le sl).2.2.1, .int .i64 (imB b t g tu le sl).2.2.2.1, .int .i64 (imB b t g tu le sl).2.2.2.2.1, .int .i64 (imB b t g tu le sl).2.2.2.2.2], .int .i64 0] ∧ H' = H) := by
 have k := image_t H b t g tu le sl ra hb hC hB
 unfold imE mkV at k
 simp only [h, if_true] at k
 exact k
theorem image_n (H : ac) (b : T6) (t g tu le sl ra : Int) (hb : bG b = true) (hC : cJ t g = true) (hB : cK tu le sl ra = true) (h : imO b t g tu le sl = false) : ACalls Tryz.prog 84 [.agg [.int .i64 b.1, .int .i64 b.2.1, .int .i64 b.2.2.1, .int .i64 b.2.2.2.1, .int .i64 b.2.2.2.2.1, .int .i64 b.2.2.2.2.2], .agg [.int .i64 t, .int .i64 g], .agg [.int .i64 tu, .int .i64 le, .int .i64 sl, .int .i64 ra]] H (fun v H' => v = .tup [.agg [.int .i64 0, .int .i64 0, .int .i64 0, .int .i64 0, .int .i64 0, .int .i64 0], .int .i64 2] ∧ H' = H) := by
 have k := image_t H b t g tu le sl ra hb hC hB
 unfold imE mkV at k
 simp only [h, Bool.false_eq_true, if_false] at k
 exact k
theorem imA_at {l : List T6} {t f tu le sl : Int} (h : imA l t f tu le sl = true) {j : Nat} (hj : j < l.length) : imO (g6 l j) t f tu le sl = true := List.all_eq_true.1 h _ (cG hj)
theorem imA_y {l : List T6} {t f tu le sl : Int} (h : ∀ j : Nat, j < l.length → imO (g6 l j) t f tu le sl = true) : imA l t f tu le sl = true := List.all_eq_true.2 fun b hb => by
 obtain ⟨j, hj, rfl⟩ := List.mem_iff_getElem.1 hb
 rw [← jm hj]; exact h j hj
theorem boxes_y (H : ac) (s : AV) (l : List T6) (t : Int) (g : Int) (tu : Int) (le : Int) (sl : Int) (ra : Int) (still : Bool) (hs : Sl H 6 s l.length (r6 l)) (hS : bU l = true) (hC : cJ t g = true) (hB : cK tu le sl ra = true) (hA : imA l t (stF still g) tu le sl = true) : ACalls Tryz.prog 52 [s, .agg [.int .i64 t, .int .i64 g], .agg [.int .i64 tu, .int .i64 le, .int .i64 sl, .int .i64 ra], .bool still] H (fun v H' => v = .tup [.sl (some (H.length, 0)) ((imS l t (stF still g) tu le sl l.length).length) (bA (imS l t (stF still g) tu le sl l.length).length), .int .i64 0] ∧ H' = H ++ [.cells (bm (imS l t (stF still g) tu le sl l.length).length) 6 (r6 (imS l t (stF still g) tu le sl l.length))]) := by
 obtain ⟨bs, os, cs, rfl, hbs⟩ := hs
 have hbls := getElem?_lt hbs
 have hb0s := fun l => aD (l := l) hbs
 have hSS := bX.1 hS
 have hl16 := hSS.1
 have hC2 := lW still hC
 refine AcT true Tryz.func52 ?_; intro hbel Q hQ
 have g'1 := (jn @hbs (jn @hb0s (jn @hC @hB)))
 refine aa g'1 ?_
 refine az (fun h1 => ?_) (fun h1 => ?_)
 ·have h1d := bsT h1
  have g'2 := (jn @h1 (jn @h1d g'1))
  refine aa g'2 ?_
  refine aj (by kernel_rfl) (fF _ t g) ?_
  refine aa g'2 ?_
  refine aj (by kernel_rfl) (gW _ tu le sl ra) ?_
  refine aa g'2 ?_
  refine go_loop try_mixed (by kernel_rfl) (fun k F Hx => ∃ i : Nat, i + k = l.length ∧ F = [(0, .sl (some (bs, 0)) l.length cs), (3, .bool still), (5, .ptr (some (H.length, 0))), (6, .ptr (some (H.length + 1, 0))), (30, .sl (some (bs, 0)) l.length cs), (31, .int .i64 ((l.length : Nat) : Int)), (32, .int .i64 ((i : Nat) : Int))] ∧ Hx = H ++ [.cells true 0 [.int .i64 t, .int .i64 g], .cells true 0 [.int .i64 tu, .int .i64 le, .int .i64 sl, .int .i64 ra]]) (l.length) ?_ ?_
  ·refine ⟨_, _, _, ⟨0, by omega, rfl, rfl⟩, Abs.byG hbel [] rfl [0, 1] (by decide) ?_⟩
   exact bj
  ·rintro k0 F Hx ⟨i, hm0, rfl, rfl⟩ J0 hJ0
   refine aa g'2 ?_
   refine aq (fun h2 => ?_) (fun h2 => ?_)
   ·have h2d := bsT h2
    have hlt : i < l.length := by omega
    have q3 := cE (l := l) (j := i) (by omega)
    have g'3 := (jn @h2 (jn @h2d (jn @aL (jn @q3 g'2))))
    refine aa g'3 ?_
    refine aj (by kernel_rfl) (eo _ (g61 l i) (g62 l i) (g63 l i) (g64 l i) (g65 l i) (g66 l i)) ?_
    refine aa g'3 ?_
    refine aq (fun h4 => ?_) (fun h4 => ?_)
    ·have h4d := bsT h4
     exact absurd ((show bG (g6 l i) = true from hSS.2 _ (cG hlt)).symm.trans h4d) (by decide)
    ·have h4d := bsT h4
     have g'4 := (jn @h4 (jn @h4d g'3))
     refine aa g'4 ?_
     refine hJ0 _ _ ⟨k0 - 1, by omega, _, _, _, ⟨i + 1, by omega, rfl, rfl⟩, Abs.byG hbel [] rfl [0, 1] (by decide) ?_⟩
     exact bj
   ·have h2d := bsT h2
    obtain rfl : i = l.length := by omega
    have g'5 := (jn @h2 (jn @h2d g'2))
    refine aa g'5 ?_
    refine aq (fun h5 => ?_) (fun h5 => ?_)
    ·have h5d := bsT h5
     have hst0 : stF still g = 0 := by unfold stF; rw [h5d]; rfl
     rw [hst0] at hA hC2
     have g'6 := (jn @h5 (jn @h5d g'5))
     refine aa g'6 ?_
     refine go_loop try_mixed (by kernel_rfl) (fun k F Hx => ∃ i : Nat, i + k = l.length ∧ F = [(5, .ptr (some (H.length, 0))), (6, .ptr (some (H.length + 1, 0))), (12, .sl (some (H.length + 2, 0)) ((imS l t 0 tu le sl i).length) (bA (imS l t 0 tu le sl i).length)), (42, .sl (some (bs, 0)) l.length cs), (43, .int .i64 ((l.length : Nat) : Int)), (44, .int .i64 ((i : Nat) : Int))] ∧ Hx = H ++ [.cells true 0 [.int .i64 t, .int .i64 0], .cells true 0 [.int .i64 tu, .int .i64 le, .int .i64 sl, .int .i64 ra], .cells (bm (imS l t 0 tu le sl i).length) 6 (r6 (imS l t 0 tu le sl i))]) (l.length) ?_ ?_
     ·refine ⟨_, _, _, ⟨0, by omega, rfl, rfl⟩, Abs.byG hbel [.cells false 6 []] rfl [0, 1, 2] (by decide) ?_⟩
      exact aN (jn @imS.eq_1 (jn @bg (jn @be (jn @bt @bo))))
     ·rintro k1 F Hx ⟨i, hm1, rfl, rfl⟩ J1 hJ1
      have hil0 := dk (l := l) (t := t) (f := 0) (tu := tu) (le := le) (sl := sl) i
      have g'7 := (jn @aL (jn @aY g'6))
      refine aa g'7 ?_
      refine aq (fun h6 => ?_) (fun h6 => ?_)
      ·have h6d := bsT h6
       have hlt : i < l.length := by omega
       have hbv : bG (g6 l i) = true := hSS.2 _ (cG hlt)
       have hil := dk (l := l) (t := t) (f := 0) (tu := tu) (le := le) (sl := sl) i
       have q7 := cE (l := l) (j := i) (by omega)
       have g'8 := (jn @h6 (jn @h6d (jn @q7 g'7)))
       refine aa g'8 ?_
       rcases Bool.eq_false_or_eq_true (imO (g6 l i) t 0 tu le sl) with h8 | h8
       ·have h8d := h8
        refine aj (by kernel_rfl) (jB _ (g6 l i) t 0 tu le sl ra (by assumption) (by assumption) (by assumption) (by assumption)) ?_
        have g'9 := (jn @h8 (jn @h8d (jn @bE (jn @dI g'8))))
        refine aa g'9 ?_
        refine hJ1 _ _ ⟨k1 - 1, by omega, _, _, _, ⟨i + 1, by omega, rfl, rfl⟩, Abs.byG hbel [] rfl [0, 1, 6] (by decide) ?_⟩
        exact aN (jn @imS.eq_2 (jn @bg (jn @be (jn @bt @bo))))
       ·have h8d := h8
        exact absurd ((imA_at hA hlt).symm.trans h8d) (by decide)
      ·have h6d := bsT h6
       obtain rfl : i = l.length := by omega
       have g'10 := (jn @h6 (jn @h6d g'7))
       refine aa g'10 ?_
       refine hQ _ _ (br (.inl rfl) hbel (x1 := .tup [.sl (some (H.length + 2, 0)) ((imS l t 0 tu le sl l.length).length) (bA (imS l t 0 tu le sl l.length).length), .int .i64 0]) (l2 := [.cells (bm (imS l t 0 tu le sl l.length).length) 6 (r6 (imS l t 0 tu le sl l.length))]) (.tup [.sl (some (H.length, 0)) ((imS l t 0 tu le sl l.length).length) (bA (imS l t 0 tu le sl l.length).length), .int .i64 0]) (av Tryz.results52) [] rfl [2] (by decide) ⟨by first | rfl | (rw [hst0]; done) | (rw [hst0]; rfl), by first | rfl | (rw [hst0]; done) | (rw [hst0]; rfl)⟩ ?_)
       exact bl @bo
    ·have h5d := bsT h5
     have hst0 : stF still g = g := by unfold stF; rw [h5d]; rfl
     rw [hst0] at hA hC2
     have g'11 := (jn @h5 (jn @h5d g'5))
     refine aa g'11 ?_
     refine go_loop try_mixed (by kernel_rfl) (fun k F Hx => ∃ i : Nat, i + k = l.length ∧ F = [(5, .ptr (some (H.length, 0))), (6, .ptr (some (H.length + 1, 0))), (12, .sl (some (H.length + 2, 0)) ((imS l t g tu le sl i).length) (bA (imS l t g tu le sl i).length)), (42, .sl (some (bs, 0)) l.length cs), (43, .int .i64 ((l.length : Nat) : Int)), (44, .int .i64 ((i : Nat) : Int))] ∧ Hx = H ++ [.cells true 0 [.int .i64 t, .int .i64 g], .cells true 0 [.int .i64 tu, .int .i64 le, .int .i64 sl, .int .i64 ra], .cells (bm (imS l t g tu le sl i).length) 6 (r6 (imS l t g tu le sl i))]) (l.length) ?_ ?_
     ·refine ⟨_, _, _, ⟨0, by omega, rfl, rfl⟩, Abs.byG hbel [.cells false 6 []] rfl [0, 1, 2] (by decide) ?_⟩
      exact aN (jn @imS.eq_1 (jn @bg (jn @be (jn @bt @bo))))
     ·rintro k2 F Hx ⟨i, hm2, rfl, rfl⟩ J2 hJ2
      have hil0 := dk (l := l) (t := t) (f := g) (tu := tu) (le := le) (sl := sl) i
      have g'12 := (jn @aL (jn @aY g'11))
      refine aa g'12 ?_
      refine aq (fun h9 => ?_) (fun h9 => ?_)
      ·have h9d := bsT h9
       have hlt : i < l.length := by omega
       have hbv : bG (g6 l i) = true := hSS.2 _ (cG hlt)
       have hil := dk (l := l) (t := t) (f := g) (tu := tu) (le := le) (sl := sl) i
       have q10 := cE (l := l) (j := i) (by omega)
       have g'13 := (jn @h9 (jn @h9d (jn @q10 g'12)))
       refine aa g'13 ?_
       rcases Bool.eq_false_or_eq_true (imO (g6 l i) t g tu le sl) with h11 | h11
       ·have h11d := h11
        refine aj (by kernel_rfl) (jB _ (g6 l i) t g tu le sl ra (by assumption) (by assumption) (by assumption) (by assumption)) ?_
        have g'14 := (jn @h11 (jn @h11d (jn @bE (jn @dI g'13))))
        refine aa g'14 ?_
        refine hJ2 _ _ ⟨k2 - 1, by omega, _, _, _, ⟨i + 1, by omega, rfl, rfl⟩, Abs.byG hbel [] rfl [0, 1, 6] (by decide) ?_⟩
        exact aN (jn @imS.eq_2 (jn @bg (jn @be (jn @bt @bo))))
       ·have h11d := h11
        exact absurd ((imA_at hA hlt).symm.trans h11d) (by decide)
      ·have h9d := bsT h9
       obtain rfl : i = l.length := by omega
       have g'15 := (jn @h9 (jn @h9d g'12))
       refine aa g'15 ?_
       refine hQ _ _ (br (.inl rfl) hbel (x1 := .tup [.sl (some (H.length + 2, 0)) ((imS l t g tu le sl l.length).length) (bA (imS l t g tu le sl l.length).length), .int .i64 0]) (l2 := [.cells (bm (imS l t g tu le sl l.length).length) 6 (r6 (imS l t g tu le sl l.length))]) (.tup [.sl (some (H.length, 0)) ((imS l t g tu le sl l.length).length) (bA (imS l t g tu le sl l.length).length), .int .i64 0]) (av Tryz.results52) [] rfl [2] (by decide) ⟨by first | rfl | (rw [hst0]; done) | (rw [hst0]; rfl), by first | rfl | (rw [hst0]; done) | (rw [hst0]; rfl)⟩ ?_)
       exact bl @bo
 ·have h1d := bsT h1
  omega
theorem boxes_n (H : ac) (s : AV) (l : List T6) (t : Int) (g : Int) (tu : Int) (le : Int) (sl : Int) (ra : Int) (still : Bool) (hs : Sl H 6 s l.length (r6 l)) (hS : bU l = true) (hC : cJ t g = true) (hB : cK tu le sl ra = true) (hA : imA l t (stF still g) tu le sl = false) : ACalls Tryz.prog 52 [s, .agg [.int .i64 t, .int .i64 g], .agg [.int .i64 tu, .int .i64 le, .int .i64 sl, .int .i64 ra], .bool still] H (fun v H' => v = .tup [.sl none 0 (some 0), .int .i64 2] ∧ H' = H) := by
 obtain ⟨bs, os, cs, rfl, hbs⟩ := hs
 have hbls := getElem?_lt hbs
 have hb0s := fun l => aD (l := l) hbs
 have hSS := bX.1 hS
 have hl16 := hSS.1
 have hC2 := lW still hC
 refine AcT true Tryz.func52 ?_; intro hbel Q hQ
 have g'16 := (jn @hbs (jn @hb0s (jn @hC @hB)))
 refine aa g'16 ?_
 refine az (fun h1 => ?_) (fun h1 => ?_)
 ·have h1d := bsT h1
  have g'17 := (jn @h1 (jn @h1d g'16))
  refine aa g'17 ?_
  refine aj (by kernel_rfl) (fF _ t g) ?_
  refine aa g'17 ?_
  refine aj (by kernel_rfl) (gW _ tu le sl ra) ?_
  refine aa g'17 ?_
  refine go_loop try_mixed (by kernel_rfl) (fun k F Hx => ∃ i : Nat, i + k = l.length ∧ F = [(0, .sl (some (bs, 0)) l.length cs), (3, .bool still), (5, .ptr (some (H.length, 0))), (6, .ptr (some (H.length + 1, 0))), (30, .sl (some (bs, 0)) l.length cs), (31, .int .i64 ((l.length : Nat) : Int)), (32, .int .i64 ((i : Nat) : Int))] ∧ Hx = H ++ [.cells true 0 [.int .i64 t, .int .i64 g], .cells true 0 [.int .i64 tu, .int .i64 le, .int .i64 sl, .int .i64 ra]]) (l.length) ?_ ?_
  ·refine ⟨_, _, _, ⟨0, by omega, rfl, rfl⟩, Abs.byG hbel [] rfl [0, 1] (by decide) ?_⟩
   exact bj
  ·rintro k0 F Hx ⟨i, hm0, rfl, rfl⟩ J0 hJ0
   refine aa g'17 ?_
   refine aq (fun h2 => ?_) (fun h2 => ?_)
   ·have h2d := bsT h2
    have hlt : i < l.length := by omega
    have q3 := cE (l := l) (j := i) (by omega)
    have g'18 := (jn @h2 (jn @h2d (jn @aL (jn @q3 g'17))))
    refine aa g'18 ?_
    refine aj (by kernel_rfl) (eo _ (g61 l i) (g62 l i) (g63 l i) (g64 l i) (g65 l i) (g66 l i)) ?_
    refine aa g'18 ?_
    refine aq (fun h4 => ?_) (fun h4 => ?_)
    ·have h4d := bsT h4
     exact absurd ((show bG (g6 l i) = true from hSS.2 _ (cG hlt)).symm.trans h4d) (by decide)
    ·have h4d := bsT h4
     have g'19 := (jn @h4 (jn @h4d g'18))
     refine aa g'19 ?_
     refine hJ0 _ _ ⟨k0 - 1, by omega, _, _, _, ⟨i + 1, by omega, rfl, rfl⟩, Abs.byG hbel [] rfl [0, 1] (by decide) ?_⟩
     exact bj
   ·have h2d := bsT h2
    obtain rfl : i = l.length := by omega
    have g'20 := (jn @h2 (jn @h2d g'17))
    refine aa g'20 ?_
    refine aq (fun h5 => ?_) (fun h5 => ?_)
    ·have h5d := bsT h5
     have hst0 : stF still g = 0 := by unfold stF; rw [h5d]; rfl
     rw [hst0] at hA hC2
     have g'21 := (jn @h5 (jn @h5d g'20))
     refine aa g'21 ?_
     refine go_loop try_mixed (by kernel_rfl) (fun k F Hx => ∃ i : Nat, i + k = l.length ∧ (∀ j : Nat, j < i → imO (g6 l j) t 0 tu le sl = true) ∧ F = [(5, .ptr (some (H.length, 0))), (6, .ptr (some (H.length + 1, 0))), (12, .sl (some (H.length + 2, 0)) ((imS l t 0 tu le sl i).length) (bA (imS l t 0 tu le sl i).length)), (42, .sl (some (bs, 0)) l.length cs), (43, .int .i64 ((l.length : Nat) : Int)), (44, .int .i64 ((i : Nat) : Int))] ∧ Hx = H ++ [.cells true 0 [.int .i64 t, .int .i64 0], .cells true 0 [.int .i64 tu, .int .i64 le, .int .i64 sl, .int .i64 ra], .cells (bm (imS l t 0 tu le sl i).length) 6 (r6 (imS l t 0 tu le sl i))]) (l.length) ?_ ?_
     ·refine ⟨_, _, _, ⟨0, by omega, fun j h => by omega, rfl, rfl⟩, Abs.byG hbel [.cells false 6 []] rfl [0, 1, 2] (by decide) ?_⟩
      exact aN (jn @imS.eq_1 (jn @bg (jn @be (jn @bt @bo))))
     ·rintro k1 F Hx ⟨i, hm1, hall, rfl, rfl⟩ J1 hJ1
      have hil0 := dk (l := l) (t := t) (f := 0) (tu := tu) (le := le) (sl := sl) i
      have g'22 := (jn @aL (jn @aY g'21))
      refine aa g'22 ?_
      refine aq (fun h6 => ?_) (fun h6 => ?_)
      ·have h6d := bsT h6
       have hlt : i < l.length := by omega
       have hbv : bG (g6 l i) = true := hSS.2 _ (cG hlt)
       have hil := dk (l := l) (t := t) (f := 0) (tu := tu) (le := le) (sl := sl) i
       have q7 := cE (l := l) (j := i) (by omega)
       have g'23 := (jn @h6 (jn @h6d (jn @q7 g'22)))
       refine aa g'23 ?_
       rcases Bool.eq_false_or_eq_true (imO (g6 l i) t 0 tu le sl) with h8 | h8
       ·have h8d := h8
        have hio := h8d
        refine aj (by kernel_rfl) (jB _ (g6 l i) t 0 tu le sl ra (by assumption) (by assumption) (by assumption) (by assumption)) ?_
        have g'24 := (jn @h8 (jn @h8d (jn @bE (jn @dI g'23))))
        refine aa g'24 ?_
        refine hJ1 _ _ ⟨k1 - 1, by omega, _, _, _, ⟨i + 1, by omega, fun j hj => by
              rcases Nat.lt_or_ge j i with hji | hji
              ·exact hall j hji
              ·rw [show j = i by omega]; exact hio, rfl, rfl⟩, Abs.byG hbel [] rfl [0, 1, 6] (by decide) ?_⟩
        exact aN (jn @imS.eq_2 (jn @bg (jn @be (jn @bt @bo))))
       ·have h8d := h8
        refine aj (by kernel_rfl) (image_n _ (g6 l i) t 0 tu le sl ra (by assumption) (by assumption) (by assumption) (by assumption)) ?_
        have g'25 := (jn @h8 (jn @h8d g'23))
        refine aa g'25 ?_
        exact hQ _ _ (ai (.inl rfl) hbel (x := .tup [.sl none 0 (some 0), .int .i64 2]) (av Tryz.results52) rfl ⟨by first | rfl | (rw [hst0]; done) | (rw [hst0]; rfl), rfl⟩)
      ·have h6d := bsT h6
       obtain rfl : i = l.length := by omega
       exact absurd ((imA_y hall).symm.trans hA) (by decide)
    ·have h5d := bsT h5
     have hst0 : stF still g = g := by unfold stF; rw [h5d]; rfl
     rw [hst0] at hA hC2
     have g'26 := (jn @h5 (jn @h5d g'20))
     refine aa g'26 ?_
     refine go_loop try_mixed (by kernel_rfl) (fun k F Hx => ∃ i : Nat, i + k = l.length ∧ (∀ j : Nat, j < i → imO (g6 l j) t g tu le sl = true) ∧ F = [(5, .ptr (some (H.length, 0))), (6, .ptr (some (H.length + 1, 0))), (12, .sl (some (H.length + 2, 0)) ((imS l t g tu le sl i).length) (bA (imS l t g tu le sl i).length)), (42, .sl (some (bs, 0)) l.length cs), (43, .int .i64 ((l.length : Nat) : Int)), (44, .int .i64 ((i : Nat) : Int))] ∧ Hx = H ++ [.cells true 0 [.int .i64 t, .int .i64 g], .cells true 0 [.int .i64 tu, .int .i64 le, .int .i64 sl, .int .i64 ra], .cells (bm (imS l t g tu le sl i).length) 6 (r6 (imS l t g tu le sl i))]) (l.length) ?_ ?_
     ·refine ⟨_, _, _, ⟨0, by omega, fun j h => by omega, rfl, rfl⟩, Abs.byG hbel [.cells false 6 []] rfl [0, 1, 2] (by decide) ?_⟩
      exact aN (jn @imS.eq_1 (jn @bg (jn @be (jn @bt @bo))))
     ·rintro k2 F Hx ⟨i, hm2, hall, rfl, rfl⟩ J2 hJ2
      have hil0 := dk (l := l) (t := t) (f := g) (tu := tu) (le := le) (sl := sl) i
      have g'27 := (jn @aL (jn @aY g'26))
      refine aa g'27 ?_
      refine aq (fun h9 => ?_) (fun h9 => ?_)
      ·have h9d := bsT h9
       have hlt : i < l.length := by omega
       have hbv : bG (g6 l i) = true := hSS.2 _ (cG hlt)
       have hil := dk (l := l) (t := t) (f := g) (tu := tu) (le := le) (sl := sl) i
       have q10 := cE (l := l) (j := i) (by omega)
       have g'28 := (jn @h9 (jn @h9d (jn @q10 g'27)))
       refine aa g'28 ?_
       rcases Bool.eq_false_or_eq_true (imO (g6 l i) t g tu le sl) with h11 | h11
       ·have h11d := h11
        have hio := h11d
        refine aj (by kernel_rfl) (jB _ (g6 l i) t g tu le sl ra (by assumption) (by assumption) (by assumption) (by assumption)) ?_
        have g'29 := (jn @h11 (jn @h11d (jn @bE (jn @dI g'28))))
        refine aa g'29 ?_
        refine hJ2 _ _ ⟨k2 - 1, by omega, _, _, _, ⟨i + 1, by omega, fun j hj => by
              rcases Nat.lt_or_ge j i with hji | hji
              ·exact hall j hji
              ·rw [show j = i by omega]; exact hio, rfl, rfl⟩, Abs.byG hbel [] rfl [0, 1, 6] (by decide) ?_⟩
        exact aN (jn @imS.eq_2 (jn @bg (jn @be (jn @bt @bo))))
       ·have h11d := h11
        refine aj (by kernel_rfl) (image_n _ (g6 l i) t g tu le sl ra (by assumption) (by assumption) (by assumption) (by assumption)) ?_
        have g'30 := (jn @h11 (jn @h11d g'28))
        refine aa g'30 ?_
        exact hQ _ _ (ai (.inl rfl) hbel (x := .tup [.sl none 0 (some 0), .int .i64 2]) (av Tryz.results52) rfl ⟨by first | rfl | (rw [hst0]; done) | (rw [hst0]; rfl), rfl⟩)
      ·have h9d := bsT h9
       obtain rfl : i = l.length := by omega
       exact absurd ((imA_y hall).symm.trans hA) (by decide)
 ·have h1d := bsT h1
  omega
open Go.RowKit
theorem imS_ok {l : List T6} {t f tu le sl : Int} (hv : ∀ b ∈ l, bG b = true) (hf : 0 ≤ f ∧ f ≤ 32) (hu : 0 ≤ tu ∧ tu ≤ 8) (hl : 0 ≤ le ∧ le ≤ 16) (hs : 0 ≤ sl ∧ sl ≤ 8) (hA : imA l t f tu le sl = true) : ∀ b ∈ imS l t f tu le sl l.length, bG b = true := fun b hb => by
 obtain ⟨j, hj, rfl⟩ := imS_mem.1 hb
 exact imB_ok (hv _ (cG hj)) hf hu hl hs (List.all_eq_true.1 hA _ (cG hj))
open Go.RowKit
open Go.RowKit
open Go.RowKit
theorem r6_drop {l : List T6} {j : Nat} : (r6 l).drop (j * 6) = r6 (l.drop j) := by
 induction l generalizing j with
 | nil => simp [bt]
 | cons p l ih =>
  cases j with
  | zero => simp
  | succ j => rw [be, show (j + 1) * 6 = j * 6 + 1 + 1 + 1 + 1 + 1 + 1 by omega, List.drop_succ_cons, List.drop_succ_cons, List.drop_succ_cons, List.drop_succ_cons, List.drop_succ_cons, List.drop_succ_cons, ih]; rfl
theorem r6_dropv {l : List T6} {k : Nat} (h : k ≤ l.length) : List.take ((l.length - k) * 6) (List.drop (k * 6) (r6 l)) = r6 (List.drop k l) := by
 rw [r6_drop]
 exact List.take_of_length_le (by rw [aL, List.length_drop]; omega)
theorem lX {l : List T6} {j : Nat} (h : j < l.length) : l.drop j = g6 l j :: l.drop (j + 1) := by
 rw [List.drop_eq_getElem_cons h, ← jm h]; rfl
section
variable {W Hh : Int} {xs : List Int} {s : List (Int × Int)} {g : Int} {QA O R : List T6} {j K k : Nat}
theorem rfn_no (hj : j < QA.length) (hk : QA.length - j + 2 * K = k) (ht : tOk W Hh xs (g6 QA j) s g = false) (h : rfn W Hh xs s g k (QA.drop j) K O = R) : rfn W Hh xs s g (k - 1) (QA.drop (j + 1)) K O = R := by
 obtain ⟨n, rfl⟩ : ∃ n, k = n + 1 := ⟨k - 1, by omega⟩
 rw [lX hj] at h
 unfold rfn at h
 rw [if_neg (by rw [ht]; decide)] at h
 exact h
theorem rfn_two (hj : j < QA.length) (hk : QA.length - j + 2 * K = k) (ht : tOk W Hh xs (g6 QA j) s g = true) (h2 : 0 < K ∧ cW (tB W Hh xs (g6 QA j) s g) = true) (h : rfn W Hh xs s g k (QA.drop j) K O = R) : rfn W Hh xs s g (k - 1) ((QA.drop (j + 1) ++ [du (tB W Hh xs (g6 QA j) s g), dw (tB W Hh xs (g6 QA j) s g)]).drop 0) (K - 1) O = R := by
 obtain ⟨n, rfl⟩ : ∃ n, k = n + 1 := ⟨k - 1, by omega⟩
 rw [lX hj] at h
 unfold rfn at h
 rw [if_pos ht, if_pos h2] at h
 exact h
theorem rfn_out (hj : j < QA.length) (hk : QA.length - j + 2 * K = k) (ht : tOk W Hh xs (g6 QA j) s g = true) (h2 : ¬ (0 < K ∧ cW (tB W Hh xs (g6 QA j) s g) = true)) (h : rfn W Hh xs s g k (QA.drop j) K O = R) : rfn W Hh xs s g (k - 1) (QA.drop (j + 1)) K (O ++ [tB W Hh xs (g6 QA j) s g]) = R := by
 obtain ⟨n, rfl⟩ : ∃ n, k = n + 1 := ⟨k - 1, by omega⟩
 rw [lX hj] at h
 unfold rfn at h
 rw [if_pos ht, if_neg h2] at h
 exact h
theorem rfn_end (hj : QA.length ≤ j) (h : rfn W Hh xs s g k (QA.drop j) K O = R) : R = O := by
 rw [List.drop_eq_nil_of_le hj] at h
 cases k <;> exact h.symm
end
theorem cright_t (H : ac) (W Hh : Int) (pp : AV) (xs : List Int) (q : AV) (sc : List (Int × Int)) (g : Int) (hpp : Sl H 1 pp xs.length (ints .u8 xs)) (hq : Sl H 2 q sc.length (prs sc)) (hV : b9 W Hh xs = true) (hsB : cd sc = true) (hg : 1 ≤ g ∧ g ≤ 32) : ACalls Tryz.prog 87 [.agg [.int .i64 W, .int .i64 Hh, pp], q, .int .i64 g] H (fun v H' => v = .bool true ∧ H' = H) := by
 have k := cright_c H W Hh pp xs q sc g hpp hq (by have := (dG.1 hsB).1; omega)
 rw [hV, hsB, bM.2 hg] at k
 exact k
theorem kr (H : ac) (W : Int) (Hh : Int) (pp : AV) (xs : List Int) (s : AV) (l : List T6) (q : AV) (sc : List (Int × Int)) (g : Int) (K0 : Nat) (hpp : Sl H 1 pp xs.length (ints .u8 xs)) (hs : Sl H 6 s l.length (r6 l)) (hq : Sl H 2 q sc.length (prs sc)) (hV : b9 W Hh xs = true) (hS : bU l = true) (hl0 : 0 < l.length) (hsB : cd sc = true) (hg : 1 ≤ g ∧ g ≤ 32) (hK0 : K0 ≤ 64) : ACalls Tryz.prog 54 [.agg [.int .i64 W, .int .i64 Hh, pp], s, q, .int .i64 g, .int .i64 ((K0 : Nat) : Int)] H (fun v H' => v = .tup [.sl (some (H.length, 0)) ((bB W Hh xs l sc g K0).length) (bA (bB W Hh xs l sc g K0).length), .int .i64 0] ∧ H' = H ++ [.cells (bm (bB W Hh xs l sc g K0).length) 6 (r6 (bB W Hh xs l sc g K0))]) := by
 obtain ⟨bpp, opp, cpp, rfl, hbpp⟩ := hpp
 have hblpp := getElem?_lt hbpp
 have hb0pp := fun l => aD (l := l) hbpp
 obtain ⟨bs, os, cs, rfl, hbs⟩ := hs
 have hbls := getElem?_lt hbs
 have hb0s := fun l => aD (l := l) hbs
 obtain ⟨bq, oq, cq, rfl, hbq⟩ := hq
 have hblq := getElem?_lt hbq
 have hb0q := fun l => aD (l := l) hbq
 have hsl0 : (l.length == 0) = false := beq_eq_false_iff_ne.2 (by omega)
 have hsl1 : decide (0 < l.length) = true := decide_eq_true hl0
 have hSS := bX.1 hS
 have hl16 := hSS.1
 have hkb : btw ((K0 : Nat) : Int) 0 64 = true := bM.2 (by omega)
 have hVV := cg.1 hV
 have hWW : 1 ≤ W ∧ W ≤ 64 := ⟨hVV.w0, hVV.w1⟩
 have hHH : 1 ≤ Hh ∧ Hh ≤ 64 := ⟨hVV.h0, hVV.h1⟩
 (refine bK Tryz.func54 _ rfl (Nat.le_of_ble_eq_true (by kernel_rfl)) rfl ?_; intro hbel Q hQ hQ' c hc; unfold Tryz.f54 at hc; simp only [Option.some.injEq] at hc; subst hc; clear hQ')
 refine aO fun Q1 hn1 hr1 he1 => ?_
 have hQ1 := fun F H' h => hr1 F H' (hQ F H' h)
 refine aI true try_mixed (by kernel_rfl) ?_
 have g'1 := (jn @hbpp (jn @hb0pp (jn @hbs (jn @hb0s (jn @hbq (jn @hb0q (jn @mkV_t (jn @hkb (jn @hsl0 @hsl1)))))))))
 refine aa g'1 ?_
 refine hn1 _ _ ?_
 refine aO fun Q2 hn2 hr2 he2 => ?_
 have hQ2 := fun F H' h => hr2 F H' (hQ F H' h)
 refine aI true try_mixed (by kernel_rfl) ?_
 refine aa g'1 ?_
 refine aj (by kernel_rfl) (cright_t _ W Hh _ xs _ sc g ⟨_, _, _, rfl, by first | exact hb0pp _ | exact hbpp⟩ ⟨_, _, _, rfl, by first | exact hb0q _ | exact hbq⟩ hV hsB hg) ?_
 refine aa g'1 ?_
 refine aq (fun h1 => ?_) (fun h1 => ?_)
 ·have h1d := bsT h1
  omega
 ·have h1d := bsT h1
  have g'2 := (jn @h1 (jn @h1d g'1))
  refine aa g'2 ?_
  refine hn2 _ _ ?_
  refine aO fun Q3 hn3 hr3 he3 => ?_
  have hQ3 := fun F H' h => hr3 F H' (hQ F H' h)
  refine aI true try_mixed (by kernel_rfl) ?_
  refine aa g'2 ?_
  refine go_loop try_mixed (by kernel_rfl) (fun k F Hx => ∃ i : Nat, i + k = l.length ∧ F = [(1, .sl (some (bs, 0)) l.length cs), (2, .sl (some (bq, 0)) sc.length cq), (3, .int .i64 g), (4, .int .i64 ((K0 : Nat) : Int)), (5, .ptr (some (H.length, 0))), (31, .sl (some (bs, 0)) l.length cs), (32, .int .i64 ((l.length : Nat) : Int)), (33, .int .i64 ((i : Nat) : Int))] ∧ Hx = H ++ [.cells true 0 [.int .i64 W, .int .i64 Hh, .sl (some (bpp, 0)) xs.length cpp]]) (l.length) ?_ ?_
  ·refine ⟨_, _, _, ⟨0, by omega, rfl, rfl⟩, Abs.byG hbel [] rfl [0] (by decide) ?_⟩
   exact bj
  ·rintro k0 F Hx ⟨i, hm0, rfl, rfl⟩ J0 hJ0
   refine aa g'2 ?_
   refine aq (fun h2 => ?_) (fun h2 => ?_)
   ·have h2d := bsT h2
    have hlt : i < l.length := by omega
    have q3 := cE (l := l) (j := i) (by omega)
    have g'3 := (jn @h2 (jn @h2d (jn @aL (jn @q3 g'2))))
    refine aa g'3 ?_
    refine aj (by kernel_rfl) (eo _ (g61 l i) (g62 l i) (g63 l i) (g64 l i) (g65 l i) (g66 l i)) ?_
    refine aa g'3 ?_
    refine aq (fun h4 => ?_) (fun h4 => ?_)
    ·have h4d := bsT h4
     exact absurd ((show bG (g6 l i) = true from hSS.2 _ (cG hlt)).symm.trans h4d) (by decide)
    ·have h4d := bsT h4
     have g'4 := (jn @h4 (jn @h4d g'3))
     refine aa g'4 ?_
     refine hJ0 _ _ ⟨k0 - 1, by omega, _, _, _, ⟨i + 1, by omega, rfl, rfl⟩, Abs.byG hbel [] rfl [0] (by decide) ?_⟩
     exact bj
   ·have h2d := bsT h2
    obtain rfl : i = l.length := by omega
    have g'5 := (jn @h2 (jn @h2d g'2))
    refine aa g'5 ?_
    refine hn3 _ _ ?_
    refine aO fun Q4 hn4 hr4 he4 => ?_
    have hQ4 := fun F H' h => hr4 F H' (hQ F H' h)
    refine aI true try_mixed (by kernel_rfl) ?_
    refine aa g'5 ?_
    refine aj (by kernel_rfl) (dj _ ((K0 : Nat) : Int) 0 64) ?_
    refine aa g'5 ?_
    refine hn4 _ _ ?_
    refine aO fun Q5 hn5 hr5 he5 => ?_
    have hQ5 := fun F H' h => hr5 F H' (hQ F H' h)
    refine aI true try_mixed (by kernel_rfl) ?_
    refine aa g'5 ?_
    refine hn5 _ _ ?_
    refine aO fun Q6 hn6 hr6 he6 => ?_
    have hQ6 := fun F H' h => hr6 F H' (hQ F H' h)
    refine aI true try_mixed (by kernel_rfl) ?_
    have g'6 := (jn @aL (jn @aY (jn @r6_all g'5)))
    refine aa g'6 ?_
    refine hn6 _ _ ?_
    refine aO fun Q7 hn7 hr7 he7 => ?_
    have hQ7 := fun F H' h => hr7 F H' (hQ F H' h)
    refine dM fun Q8 hn8 hr8 he8 hb8 => ?_
    have hQ8 := fun F H' h => hr8 F H' (hQ7 F H' h)
    refine ke (fun k F Hx => ∃ QA : List T6, ∃ j : Nat, ∃ K : Nat, ∃ O : List T6, QA.length - j + 2 * K = k ∧ j ≤ QA.length ∧ QA.length - j + K ≤ l.length + K0 ∧ QA.length ≤ l.length + K0 ∧ O.length + (QA.length - j) + K ≤ l.length + K0 ∧ (∀ b ∈ QA, bG b = true) ∧ rfn W Hh xs sc g k (QA.drop j) K O = bB W Hh xs l sc g K0 ∧ F = [(2, .sl (some (bq, 0)) sc.length cq), (3, .int .i64 g), (4, .int .i64 ((K : Nat) : Int)), (5, .ptr (some (H.length, 0))), (14, .sl (some (H.length + 1, 0)) O.length (bA O.length)), (15, .sl (some (H.length + 2, j * 6)) (QA.length - j) none)] ∧ Hx = H ++ [.cells true 0 [.int .i64 W, .int .i64 Hh, .sl (some (bpp, 0)) xs.length cpp], .cells (bm O.length) 6 (r6 O), .cells true 6 (r6 QA)]) (l.length + 2 * K0) ?_ ?_
    ·refine ⟨_, _, _, ⟨l, 0, K0, [], by first | omega | (simp only [List.length_append, List.length_drop, List.length_cons, List.length_nil]; omega), Nat.zero_le _, by omega, by omega, by simp only [List.length_nil]; omega, hSS.2, rfl, rfl, rfl⟩, Abs.byG hbel [.cells false 6 []] rfl [0, 3, 2] (by decide) ?_⟩
     exact aN (jn @Nat.zero_mul (jn @Nat.sub_zero (jn @bg (jn @be (jn @bt @bo)))))
    ·rintro k1 F Hx ⟨QA, j, K, O, hm1, hjq, hqb, hql, hol, hqv, hrf, rfl, rfl⟩ Q9 hJ1 hr9 he9
     have hQ9 := fun F H' h => hr9 F H' (hQ8 F H' h)
     refine aO fun Q10 hn10 hr10 he10 => ?_
     have hQ10 := fun F H' h => hr10 F H' (hQ9 F H' h)
     refine aI true try_mixed (by kernel_rfl) ?_
     refine aa g'6 ?_
     refine aq (fun h5 => ?_) (fun h5 => ?_)
     ·have h5d := bsT h5
      have hjl : j < QA.length := by omega
      have hbv : bG (g6 QA j) = true := hqv _ (cG hjl)
      have hsf1 : QA.length - j - 1 = QA.length - (j + 1) := by omega
      have hsf2 : j * 6 + 6 = (j + 1) * 6 := by omega
      have g'7 := (jn @h5 (jn @h5d (jn @hsf1 (jn @hsf2 g'6))))
      refine aa g'7 ?_
      refine hn10 _ _ ?_
      refine dM fun Q11 hn11 hr11 he11 hb11 => ?_
      have hQ11 := fun F H' h => hr11 F H' (hQ9 F H' h)
      refine cm true try_mixed [[0, 1, 2, 3, 4, 5, 6, 7, 8, 9, 10, 11, 12], [0, 1, 2, 3, 4, 5, 10, 6, 7, 8, 9, 11, 12]] (by kernel_rfl) (fun F2 H2 => F2 = [(2, .sl (some (bq, 0)) sc.length cq), (3, .int .i64 g), (4, .int .i64 ((K : Nat) : Int)), (5, .ptr (some (H.length, 0))), (14, .sl (some (H.length + 1, 0)) O.length (bA O.length)), (15, .sl (some (H.length + 2, j * 6)) (QA.length - j) none), (16, .ptr (some (H.length + 3, 0))), (17, .bool (tOk W Hh xs (g6 QA j) sc g))] ∧ H2 = H ++ [.cells true 0 [.int .i64 W, .int .i64 Hh, .sl (some (bpp, 0)) xs.length cpp], .cells (bm O.length) 6 (r6 O), .cells true 6 (r6 QA), .cells true 0 [.int .i64 (mkV (tOk W Hh xs (g6 QA j) sc g) ((tB W Hh xs (g6 QA j) sc g).1)), .int .i64 (mkV (tOk W Hh xs (g6 QA j) sc g) ((tB W Hh xs (g6 QA j) sc g).2.1)), .int .i64 (mkV (tOk W Hh xs (g6 QA j) sc g) ((tB W Hh xs (g6 QA j) sc g).2.2.1)), .int .i64 (mkV (tOk W Hh xs (g6 QA j) sc g) ((tB W Hh xs (g6 QA j) sc g).2.2.2.1)), .int .i64 (mkV (tOk W Hh xs (g6 QA j) sc g) ((tB W Hh xs (g6 QA j) sc g).2.2.2.2.1)), .int .i64 (mkV (tOk W Hh xs (g6 QA j) sc g) ((tB W Hh xs (g6 QA j) sc g).2.2.2.2.2))]]) ?_ ?_
      ·refine aR ?_ (aR ?_ (cn)) <;> intro J hJ
       ·skip
        have q6 := cE (l := QA) (j := j) (by omega)
        have g'8 := (jn @q6 g'7)
        refine aM g'8 ?_
        refine aP (by kernel_rfl) (trim_t _ W Hh _ xs (g6 QA j) _ sc g ⟨_, _, _, rfl, by first | exact hb0pp _ | exact hbpp⟩ ⟨_, _, _, rfl, by first | exact hb0q _ | exact hbq⟩ hV (by assumption) hsB hg) ?_
        refine aM g'8 ?_
        refine aZ (hJ _ _ ⟨_, _, _, ⟨rfl, rfl⟩, Abs.byG hbel [] rfl [0, 1, 2, 3] (by decide) ?_⟩)
        exact aN (jn @bg (jn @be (jn @bt @bo)))
       ·skip
        have q7 := cE (l := QA) (j := j) (by omega)
        have g'9 := (jn @q7 g'7)
        refine aM g'9 ?_
        refine aP (by kernel_rfl) (trim_t _ W Hh _ xs (g6 QA j) _ sc g ⟨_, _, _, rfl, by first | exact hb0pp _ | exact hbpp⟩ ⟨_, _, _, rfl, by first | exact hb0q _ | exact hbq⟩ hV (by assumption) hsB hg) ?_
        refine aM g'9 ?_
        refine aZ (hJ _ _ ⟨_, _, _, ⟨rfl, rfl⟩, Abs.byG hbel [] rfl [0, 1, 2, 3] (by decide) ?_⟩)
        exact aN (jn @bg (jn @be (jn @bt @bo)))
      rintro F2 H2 ⟨rfl, rfl⟩
      refine aI true try_mixed (by kernel_rfl) ?_
      refine aa g'7 ?_
      refine aq (fun h8 => ?_) (fun h8 => ?_)
      ·have h8d := bsT h8
       have htf := h8d
       have g'10 := (jn @h8 (jn @h8d g'7))
       refine aa g'10 ?_
       refine hb11 _ _ ?_
       refine hJ1 _ _ ⟨k1 - 1, by omega, _, _, _, ⟨QA, j + 1, K, O, by first | omega | (simp only [List.length_append, List.length_drop, List.length_cons, List.length_nil]; omega), by omega, by omega, hql, by omega, hqv, rfn_no hjl hm1 htf hrf, rfl, rfl⟩, Abs.byG hbel [] rfl [0, 1, 2] (by decide) ?_⟩
       exact aN (jn @Nat.zero_mul (jn @Nat.sub_zero (jn @List.length_drop.{0} (jn @bg (jn @be (jn @bt @bo))))))
      ·have h8d := bsT h8
       have hto := h8d
       have htb := (tB_ok hWW hHH hbv hto).1
       have g'11 := (jn @h8 (jn @h8d g'7))
       refine aa g'11 ?_
       refine aq (fun h9 => ?_) (fun h9 => ?_)
       ·have h9d := bsT h9
        have hK : 0 < K := by omega
        have hsfk : ((K : Nat) : Int) - 1 = ((K - 1 : Nat) : Int) := by omega
        have g'12 := (jn @h9 (jn @h9d (jn @hsfk g'11)))
        refine aa g'12 ?_
        rcases Bool.eq_false_or_eq_true (cW (tB W Hh xs (g6 QA j) sc g)) with h10 | h10
        ·have h10d := h10
         have hs2 := h10d
         have hso := spl_ok htb hs2
         have hdv : List.take ((QA.length - (j + 1)) * 6) (List.drop ((j + 1) * 6) (r6 QA)) = r6 (List.drop (j + 1) QA) := r6_dropv (by omega)
         refine aj (by kernel_rfl) (split_t _ (tB W Hh xs (g6 QA j) sc g) (by assumption) (by assumption)) ?_
         have g'13 := (jn @h10 (jn @h10d (jn @bE (jn @dI g'12))))
         refine aa g'13 ?_
         refine hb11 _ _ ?_
         refine hJ1 _ _ ⟨k1 - 1, by omega, _, _, _, ⟨List.drop (j + 1) QA ++ [du (tB W Hh xs (g6 QA j) sc g), dw (tB W Hh xs (g6 QA j) sc g)], 0, K - 1, O, by first | omega | (simp only [List.length_append, List.length_drop, List.length_cons, List.length_nil]; omega), Nat.zero_le _, by simp only [List.length_append, List.length_drop, List.length_cons, List.length_nil]; omega, by simp only [List.length_append, List.length_drop, List.length_cons, List.length_nil]; omega, by simp only [List.length_append, List.length_drop, List.length_cons, List.length_nil]; omega, fun b hb' => by
               rcases List.mem_append.1 hb' with q | q
               ·exact hqv b (List.mem_of_mem_drop q)
               ·rcases List.mem_cons.1 q with q | q
                ·rw [q]; exact hso.1
                ·rw [List.mem_singleton.1 q]; exact hso.2.1, rfn_two hjl hm1 hto ⟨hK, hs2⟩ hrf, rfl, rfl⟩, Abs.byG hbel [] rfl [0, 1, 7] (by decide) ?_⟩
         exact aN (jn @Nat.zero_mul (jn @Nat.sub_zero (jn @List.length_drop.{0} (jn @hdv (jn @bg (jn @be (jn @bt @bo)))))))
        ·have h10d := h10
         have hno : ¬ (0 < K ∧ cW (tB W Hh xs (g6 QA j) sc g) = true) := fun q => absurd (q.2.symm.trans h10d) (by decide)
         refine aj (by kernel_rfl) (split_f _ (tB W Hh xs (g6 QA j) sc g) (by assumption) (by assumption)) ?_
         have g'14 := (jn @h10 (jn @h10d (jn @bE (jn @dI g'12))))
         refine aa g'14 ?_
         refine hn11 _ _ ?_
         refine hJ1 _ _ ⟨k1 - 1, by omega, _, _, _, ⟨QA, j + 1, K, O ++ [(tB W Hh xs (g6 QA j) sc g)], by first | omega | (simp only [List.length_append, List.length_drop, List.length_cons, List.length_nil]; omega), by omega, by omega, hql, by simp only [List.length_append, List.length_drop, List.length_cons, List.length_nil]; omega, hqv, rfn_out hjl hm1 hto hno hrf, rfl, rfl⟩, Abs.byG hbel [] rfl [0, 7, 2] (by decide) ?_⟩
         exact aN (jn @Nat.zero_mul (jn @Nat.sub_zero (jn @List.length_drop.{0} (jn @bg (jn @be (jn @bt @bo))))))
       ·have h9d := bsT h9
        have hno : ¬ (0 < K ∧ cW (tB W Hh xs (g6 QA j) sc g) = true) := fun q => by omega
        have g'15 := (jn @h9 (jn @h9d (jn @bE (jn @dI g'11))))
        refine aa g'15 ?_
        refine hn11 _ _ ?_
        refine hJ1 _ _ ⟨k1 - 1, by omega, _, _, _, ⟨QA, j + 1, K, O ++ [(tB W Hh xs (g6 QA j) sc g)], by first | omega | (simp only [List.length_append, List.length_drop, List.length_cons, List.length_nil]; omega), by omega, by omega, hql, by simp only [List.length_append, List.length_drop, List.length_cons, List.length_nil]; omega, hqv, rfn_out hjl hm1 hto hno hrf, rfl, rfl⟩, Abs.byG hbel [] rfl [0, 5, 2] (by decide) ?_⟩
        exact aN (jn @Nat.zero_mul (jn @Nat.sub_zero (jn @List.length_drop.{0} (jn @bg (jn @be (jn @bt @bo))))))
     ·have h5d := bsT h5
      have hfinR : bB W Hh xs l sc g K0 = O := rfn_end (by omega) hrf
      have g'16 := (jn @h5 (jn @h5d g'6))
      refine aa g'16 ?_
      refine he10 _ _ _ ?_
      refine he9 _ _ _ ?_
      refine hb8 _ _ ?_
      refine hn7 _ _ ?_
      refine aI true try_mixed (by kernel_rfl) ?_
      refine aa g'16 ?_
      refine hQ _ _ (br (.inl rfl) hbel (x1 := .tup [.sl (some (H.length + 1, 0)) O.length (bA O.length), .int .i64 0]) (l2 := [.cells (bm O.length) 6 (r6 O)]) (.tup [.sl (some (H.length, 0)) O.length (bA O.length), .int .i64 0]) (av Tryz.results54) [] rfl [1] (by decide) ⟨by first | (rw [hfinR]; done) | (rw [hfinR]; rfl), by first | (rw [hfinR]; done) | (rw [hfinR]; rfl)⟩ ?_)
      exact bl @bo
end Go.Proofs.YtojbkljfioegkaaGreat
