/- Parts of the proof: walks and plain facts. Conditions: as each theorem states. -/
import Derived.Test.YtidlfjajjieepaaGreatG2
namespace Go.Proofs.YtidlfjajjieepaaGreat
set_option linter.unusedSimpArgs false
set_option linter.unusedVariables false
open Go.RowKit
set_option maxHeartbeats 4000000
set_option maxRecDepth 100000
theorem g3 {a b : Int} (hb : 0 < b) (hw : -4611686018427387904 ≤ a ∧ a ≤ 4611686018427387904) : -4611686018427387904 ≤ Int.tdiv a b ∧ Int.tdiv a b ≤ 4611686018427387904 := by
 have h := gz (a := a) hb
 have h1 : a / b ≤ 4611686018427387904 := Int.ediv_le_of_le_mul hb (by have := Int.mul_le_mul_of_nonneg_left (show (1 : Int) ≤ b by omega) (by decide : (0 : Int) ≤ 4611686018427387904); omega)
 have h2 : -4611686018427387904 ≤ a / b := by
  rw [Int.le_ediv_iff_mul_le hb]
  have := Int.mul_le_mul_of_nonneg_left (show (1 : Int) ≤ b by omega) (by decide : (0 : Int) ≤ 4611686018427387904)
  rw [Int.neg_mul]; omega
 rw [Int.tdiv_eq_ediv]
 have hs : b.sign = 1 := Int.sign_eq_one_of_pos hb
 split
 ·omega
 ·rename_i hh
  rw [hs]
  rcases (by omega : a / b ≤ 4611686018427387903 ∨ a / b = 4611686018427387904) with k | k
  ·omega
  ·exfalso
   have h3 : 4611686018427387904 * b ≤ a := by rw [← Int.le_ediv_iff_mul_le hb]; omega
   have := Int.mul_le_mul_of_nonneg_left (show (1 : Int) ≤ b by omega) (by decide : (0 : Int) ≤ 4611686018427387904)
   omega
theorem tW (a : Int) : IntKind.i64.wrap ((BitVec.ofInt IntKind.i64.bits a &&& BitVec.ofInt IntKind.i64.bits 255).toNat : Int) = (((a % 256).toNat : Nat) : Int) := by
 have h := and255 a
 show IntKind.i64.wrap (((BitVec.ofInt 64 a &&& BitVec.ofInt 64 255).toNat : Nat) : Int) = _
 rw [h]
 exact lV (by omega) (by omega)
theorem rem_n64 (a : Nat) : Int.tmod (a : Int) 64 = ((a % 64 : Nat) : Int) := rfl
theorem quo_n64 (a : Nat) : Int.tdiv (a : Int) 64 = ((a / 64 : Nat) : Int) := rfl
theorem mod_nn {a b : Int} (hb : 0 < b) : (if Int.tmod a b < 0 then Int.tmod a b + b else Int.tmod a b) = a % b := by
 rw [Int.tmod_eq_emod]
 have h1 := Int.emod_nonneg a (by omega : b ≠ 0)
 have h2 := Int.emod_lt_of_pos a hb
 have hn : (b.natAbs : Int) = b := by omega
 split
 ·rw [if_neg (by omega)]; omega
 ·rw [if_pos (by omega)]; omega
theorem dQ (H : ac) (n : Int) (lo : Int) (hi : Int) : ACalls Tryz.prog 62 [.int .i64 n, .int .i64 lo, .int .i64 hi] H (fun v H' => v = .bool (btw n lo hi) ∧ H' = H) := by
 refine AcT true Tryz.func62 ?_; intro hbel Q hQ
 refine aQ ?_
 refine al (fun h1 => ?_) (fun h1 => ?_)
 ·have h1d := bsT h1
  have g'1 := (jn @h1 @h1d)
  refine aa g'1 ?_
  exact hQ _ _ (au (.inl rfl) hbel (x := .bool (decide (n ≤ hi))) (ai Tryz.results62) rfl ⟨by simp [btw, h1d], rfl⟩)
 ·have h1d := bsT h1
  have g'2 := (jn @h1 @h1d)
  refine aa g'2 ?_
  exact hQ _ _ (au (.inl rfl) hbel (x := .bool false) (ai Tryz.results62) rfl ⟨by simp [btw, h1d], rfl⟩)
theorem dwithin_c (H : ac) (x : Int) (m : Int) (h : 0 ≤ m ∧ m ≤ 4611686018427387904) : ACalls Tryz.prog 67 [.int .i64 x, .int .i64 m] H (fun v H' => v = .bool (cF x m) ∧ H' = H) := by
 refine AcT true Tryz.func67 ?_; intro hbel Q hQ
 refine aQ ?_
 refine af (by kernel_rfl) (dQ _ x (0 - m) m) ?_
 refine aQ ?_
 exact hQ _ _ (au (.inl rfl) hbel (x := .bool (btw x (0 - m) m)) (ai Tryz.results67) rfl ⟨by simp [btw, cF, true_and], rfl⟩)
theorem i9 (H : ac) (t : Int) (f : Int) : ACalls Tryz.prog 43 [.agg [.int .i64 t, .int .i64 f]] H (fun v H' => v = .bool (dt t f) ∧ H' = H) := by
 refine AcT true Tryz.func43 ?_; intro hbel Q hQ
 refine aQ ?_
 refine af (by kernel_rfl) (dwithin_c _ t 32 (by decide)) ?_
 refine aQ ?_
 refine al (fun h1 => ?_) (fun h1 => ?_)
 ·have h1d := bsT h1
  have g'3 := (jn @h1 @h1d)
  refine aa g'3 ?_
  refine af (by kernel_rfl) (dQ _ f 0 32) ?_
  refine aa g'3 ?_
  exact hQ _ _ (ae (.inl rfl) hbel (x := .bool (btw f 0 32)) (ai Tryz.results43) rfl ⟨by simp [dt, h1d], rfl⟩)
 ·have h1d := bsT h1
  have g'4 := (jn @h1 @h1d)
  refine aa g'4 ?_
  exact hQ _ _ (ae (.inl rfl) hbel (x := .bool false) (ai Tryz.results43) rfl ⟨by simp [dt, h1d], rfl⟩)
theorem ja (H : ac) (tu : Int) (le : Int) (sl : Int) (ra : Int) : ACalls Tryz.prog 29 [.agg [.int .i64 tu, .int .i64 le, .int .i64 sl, .int .i64 ra]] H (fun v H' => v = .bool (cu tu le sl ra) ∧ H' = H) := by
 refine AcT true Tryz.func29 ?_; intro hbel Q hQ
 refine aQ ?_
 refine af (by kernel_rfl) (dQ _ tu 0 8) ?_
 refine aQ ?_
 refine al (fun h1 => ?_) (fun h1 => ?_)
 ·have h1d := bsT h1
  have g'9 := (jn @h1 @h1d)
  refine aa g'9 ?_
  refine af (by kernel_rfl) (dQ _ le 0 16) ?_
  refine aa g'9 ?_
  refine al (fun h2 => ?_) (fun h2 => ?_)
  ·have h2d := bsT h2
   have g'10 := (jn @h2 (jn @h2d g'9))
   refine aa g'10 ?_
   refine af (by kernel_rfl) (dQ _ sl 0 8) ?_
   refine aa g'10 ?_
   refine al (fun h3 => ?_) (fun h3 => ?_)
   ·have h3d := bsT h3
    have g'11 := (jn @h3 (jn @h3d g'10))
    refine aa g'11 ?_
    refine af (by kernel_rfl) (dQ _ ra 1 32) ?_
    refine aa g'11 ?_
    exact hQ _ _ (ae (.inl rfl) hbel (x := .bool (btw ra 1 32)) (ai Tryz.results29) rfl ⟨by simp [cu, h1d, h2d, h3d], rfl⟩)
   ·have h3d := bsT h3
    have g'12 := (jn @h3 (jn @h3d g'10))
    refine aa g'12 ?_
    exact hQ _ _ (ae (.inl rfl) hbel (x := .bool false) (ai Tryz.results29) rfl ⟨by simp [cu, h1d, h2d, h3d], rfl⟩)
  ·have h2d := bsT h2
   have g'13 := (jn @h2 (jn @h2d g'9))
   refine aa g'13 ?_
   exact hQ _ _ (ae (.inl rfl) hbel (x := .bool false) (ai Tryz.results29) rfl ⟨by simp [cu, h1d, h2d], rfl⟩)
 ·have h1d := bsT h1
  have g'14 := (jn @h1 @h1d)
  refine aa g'14 ?_
  exact hQ _ _ (ae (.inl rfl) hbel (x := .bool false) (ai Tryz.results29) rfl ⟨by simp [cu, h1d], rfl⟩)
theorem bbnd_c (H : ac) (tu : Int) (le : Int) (sl : Int) (ra : Int) : ACalls Tryz.prog 34 [.agg [.int .i64 tu, .int .i64 le, .int .i64 sl, .int .i64 ra]] H (fun v H' => v = .bool (cu tu le sl ra) ∧ H' = H) := by
 refine AcT true Tryz.func34 ?_; intro hbel Q hQ
 refine aQ ?_
 refine al (fun h1 => ?_) (fun h1 => ?_)
 ·have h1d := bsT h1
  have g'15 := (jn @h1 @h1d)
  refine aa g'15 ?_
  refine al (fun h2 => ?_) (fun h2 => ?_)
  ·have h2d := bsT h2
   have g'16 := (jn @h2 (jn @h2d g'15))
   refine aa g'16 ?_
   refine al (fun h3 => ?_) (fun h3 => ?_)
   ·have h3d := bsT h3
    have g'17 := (jn @h3 (jn @h3d g'16))
    refine aa g'17 ?_
    refine al (fun h4 => ?_) (fun h4 => ?_)
    ·have h4d := bsT h4
     have g'18 := (jn @h4 (jn @h4d g'17))
     refine aa g'18 ?_
     refine al (fun h5 => ?_) (fun h5 => ?_)
     ·have h5d := bsT h5
      have g'19 := (jn @h5 (jn @h5d g'18))
      refine aa g'19 ?_
      refine al (fun h6 => ?_) (fun h6 => ?_)
      ·have h6d := bsT h6
       have g'20 := (jn @h6 (jn @h6d g'19))
       refine aa g'20 ?_
       refine al (fun h7 => ?_) (fun h7 => ?_)
       ·have h7d := bsT h7
        have g'21 := (jn @h7 (jn @h7d g'20))
        refine aa g'21 ?_
        exact hQ _ _ (ae (.inl rfl) hbel (x := .bool (decide (ra ≤ 32))) (ai Tryz.results34) rfl ⟨by simp [cu, btw, h1d, h2d, h3d, h4d, h5d, h6d, h7d], rfl⟩)
       ·have h7d := bsT h7
        have g'22 := (jn @h7 (jn @h7d g'20))
        refine aa g'22 ?_
        exact hQ _ _ (ae (.inl rfl) hbel (x := .bool false) (ai Tryz.results34) rfl ⟨by simp [cu, btw, h1d, h2d, h3d, h4d, h5d, h6d, h7d], rfl⟩)
      ·have h6d := bsT h6
       have g'23 := (jn @h6 (jn @h6d g'19))
       refine aa g'23 ?_
       exact hQ _ _ (ae (.inl rfl) hbel (x := .bool false) (ai Tryz.results34) rfl ⟨by simp [cu, btw, h1d, h2d, h3d, h4d, h5d, h6d], rfl⟩)
     ·have h5d := bsT h5
      have g'24 := (jn @h5 (jn @h5d g'18))
      refine aa g'24 ?_
      exact hQ _ _ (ae (.inl rfl) hbel (x := .bool false) (ai Tryz.results34) rfl ⟨by simp [cu, btw, h1d, h2d, h3d, h4d, h5d], rfl⟩)
    ·have h4d := bsT h4
     have g'25 := (jn @h4 (jn @h4d g'17))
     refine aa g'25 ?_
     exact hQ _ _ (ae (.inl rfl) hbel (x := .bool false) (ai Tryz.results34) rfl ⟨by simp [cu, btw, h1d, h2d, h3d, h4d], rfl⟩)
   ·have h3d := bsT h3
    have g'26 := (jn @h3 (jn @h3d g'16))
    refine aa g'26 ?_
    exact hQ _ _ (ae (.inl rfl) hbel (x := .bool false) (ai Tryz.results34) rfl ⟨by simp [cu, btw, h1d, h2d, h3d], rfl⟩)
  ·have h2d := bsT h2
   have g'27 := (jn @h2 (jn @h2d g'15))
   refine aa g'27 ?_
   exact hQ _ _ (ae (.inl rfl) hbel (x := .bool false) (ai Tryz.results34) rfl ⟨by simp [cu, btw, h1d, h2d], rfl⟩)
 ·have h1d := bsT h1
  have g'28 := (jn @h1 @h1d)
  refine aa g'28 ?_
  exact hQ _ _ (ae (.inl rfl) hbel (x := .bool false) (ai Tryz.results34) rfl ⟨by simp [cu, btw, h1d], rfl⟩)
theorem jw (H : ac) (a : Int) (b : Int) (hb : 0 < b) (hw : -4611686018427387904 ≤ a ∧ a ≤ 4611686018427387904) : ACalls Tryz.prog 232 [.int .i64 a, .int .i64 b] H (fun v H' => v = .int .i64 (a / b) ∧ H' = H) := by
 have htd := g3 (a := a) (b := b) hb hw
 refine AcT true Tryz.func232 ?_; intro hbel Q hQ
 refine aQ ?_
 refine ak (fun h1 => ?_) (fun h1 => ?_)
 ·have h1d := bsT h1
  have hfinq : Int.tdiv a b - 1 = a / b := by rw [← gz hb, if_pos h1d]
  have g'31 := (jn @h1 @h1d)
  refine aa g'31 ?_
  exact hQ _ _ (au (.inl rfl) hbel (x := .int .i64 ((Int.tdiv a b) - 1)) (ai Tryz.results232) rfl ⟨congrArg (AV.int .i64) hfinq, rfl⟩)
 ·have h1d := bsT h1
  have hfinq : Int.tdiv a b = a / b := by rw [← gz hb, if_neg (by omega)]
  have g'32 := (jn @h1 @h1d)
  refine aa g'32 ?_
  exact hQ _ _ (au (.inl rfl) hbel (x := .int .i64 (Int.tdiv a b)) (ai Tryz.results232) rfl ⟨congrArg (AV.int .i64) hfinq, rfl⟩)
theorem bmod_c (H : ac) (a : Int) (b : Int) (hb : 0 < b) (hw : b ≤ 4611686018427387904) : ACalls Tryz.prog 41 [.int .i64 a, .int .i64 b] H (fun v H' => v = .int .i64 (((a % b).toNat : Nat) : Int) ∧ H' = H) := by
 have hmd := mod_nn (a := a) hb
 have hm1 := Int.emod_nonneg a (by omega : b ≠ 0)
 have hm2 := Int.emod_lt_of_pos a hb
 have hm3 : -b ≤ Int.tmod a b ∧ Int.tmod a b < b := by split at hmd <;> omega
 refine AcT true Tryz.func41 ?_; intro hbel Q hQ
 refine aQ ?_
 refine ak (fun h1 => ?_) (fun h1 => ?_)
 ·have h1d := bsT h1
  have hfinq : Int.tmod a b + b = (((a % b).toNat : Nat) : Int) := by rw [if_pos h1d] at hmd; omega
  have g'33 := (jn @h1 @h1d)
  refine aa g'33 ?_
  exact hQ _ _ (au (.inl rfl) hbel (x := .int .i64 ((Int.tmod a b) + b)) (ai Tryz.results41) rfl ⟨congrArg (AV.int .i64) hfinq, rfl⟩)
 ·have h1d := bsT h1
  have hfinq : Int.tmod a b = (((a % b).toNat : Nat) : Int) := by rw [if_neg (by omega)] at hmd; omega
  have g'34 := (jn @h1 @h1d)
  refine aa g'34 ?_
  exact hQ _ _ (au (.inl rfl) hbel (x := .int .i64 (Int.tmod a b)) (ai Tryz.results41) rfl ⟨congrArg (AV.int .i64) hfinq, rfl⟩)
theorem jb (H : ac) (h : Int) : ACalls Tryz.prog 156 [.int .i64 h] H (fun v H' => v = .int .i64 (((h % 256).toNat : Nat) : Int) ∧ H' = H) := by
 refine AcT true Tryz.func156 ?_; intro hbel Q hQ
 have g'35 := @tW
 refine aa g'35 ?_
 exact hQ _ _ (au (.inl rfl) hbel (x := .int .i64 (((h % 256).toNat : Nat) : Int)) (ai Tryz.results156) rfl ⟨rfl, rfl⟩)
open Go.RowKit
def gst (x y d : Int) : Nat → Nat
 | 0 => d.natAbs
 | 1 => Nat.gcd d.natAbs x.natAbs
 | _ + 2 => dP x y d
def nst (x y : Int) : Nat → Nat
 | 0 => x.natAbs
 | _ + 1 => y.natAbs
theorem sW (a b : Nat) : Nat.gcd b (a % b) = Nat.gcd a b := by rw [Nat.gcd_comm b, ← Nat.gcd_rec, Nat.gcd_comm]
theorem rot_ok {v : Vec} (h : eD v = true) : ∀ n, eD (rotN v n) = true
 | 0 => h
 | n + 1 => by
  have ih := dm.1 (rot_ok h n)
  rw [dm]
  unfold rotN
  simp only
  refine ⟨ih.1, by omega, by omega, ?_⟩
  rw [Int.neg_mul_neg]; omega
theorem dir0_ok {k : Nat} (h : k < 64) : eD (dir0 k) = true := by
 have := List.all_eq_true.1 dirs_ok k (by simp; omega)
 unfold dirN at this
 rwa [Nat.mod_eq_of_lt h, Nat.div_eq_of_lt h] at this
theorem rotN_D (v : Vec) : ∀ n, (rotN v n).2.2 = v.2.2
 | 0 => rfl
 | n + 1 => rotN_D v n
theorem low_c (H : ac) (x : Int) (y : Int) (d : Int) (hd : 0 < d) (kbx : -1152921504606846976 ≤ x ∧ x ≤ 1152921504606846976) (kby : -1152921504606846976 ≤ y ∧ y ≤ 1152921504606846976) (kbd : -1152921504606846976 ≤ d ∧ d ≤ 1152921504606846976) : ACalls Tryz.prog 231 [.int .i64 x, .int .i64 y, .int .i64 d] H (fun v H' => v = .agg [.int .i64 ((ew x y d).1), .int .i64 ((ew x y d).2.1), .int .i64 ((ew x y d).2.2)] ∧ H' = H) := by
 have hmx : (if x < 0 - x then 0 - x else x) = ((x.natAbs : Nat) : Int) := by split <;> omega
 have hmy : (if y < 0 - y then 0 - y else y) = ((y.natAbs : Nat) : Int) := by split <;> omega
 have hg00 : ((gst x y d 0 : Nat) : Int) = d := by simp only [gst]; omega
 have hg2 : gst x y d 2 = dP x y d := rfl
 have hg0 : 0 < dP x y d := sV (by omega)
 have t1 := g3 (a := x) (b := ((dP x y d : Nat) : Int)) (by omega) (by omega)
 have t2 := g3 (a := y) (b := ((dP x y d : Nat) : Int)) (by omega) (by omega)
 have t3 := g3 (a := d) (b := ((dP x y d : Nat) : Int)) (by omega) (by omega)
 refine AcT true Tryz.func231 ?_; intro hbel Q hQ
 have g'8 := (jn @hmx (jn @hmy (jn @hg2 @rem_nat)))
 refine aa g'8 ?_
 refine go_loop try_mixed (by kernel_rfl) (fun k F Hx => ∃ j : Nat, j + k = 2 ∧ F = [(0, .int .i64 x), (1, .int .i64 y), (2, .int .i64 d), (6, .ptr (some (H.length, 0))), (7, .int .i64 ((gst x y d j : Nat) : Int)), (13, .agg [.int .i64 x, .int .i64 y]), (14, .int .i64 ((j : Nat) : Int))] ∧ Hx = H ++ [.cells true 0 [.int .i64 0, .int .i64 0, .int .i64 0]]) (2) ?_ ?_
 ·refine ⟨_, _, _, ⟨0, by omega, rfl, rfl⟩, Abs.byG hbel [] rfl [0] (by decide) ?_⟩
  exact aV (jn @hg00 @Int.natCast_zero)
 ·rintro k0 F Hx ⟨j, hm0, rfl, rfl⟩ J0 hJ0
  refine aa g'8 ?_
  refine ak (fun h1 => ?_) (fun h1 => ?_)
  ·have h1d := bsT h1
   obtain rfl | rfl := (by omega : j = 0 ∨ j = 1)
   ·skip
    have g'9 := (jn @h1 (jn @h1d g'8))
    refine aa g'9 ?_
    refine go_loop try_mixed (by kernel_rfl) (fun k F Hx => ∃ a : Nat, ∃ b : Nat, b = k ∧ Nat.gcd a b = gst x y d (0 + 1) ∧ F = [(0, .int .i64 x), (1, .int .i64 y), (2, .int .i64 d), (6, .ptr (some (H.length, 0))), (7, .int .i64 ((a : Nat) : Int)), (9, .int .i64 ((b : Nat) : Int)), (13, .agg [.int .i64 x, .int .i64 y]), (14, .int .i64 0)] ∧ Hx = H ++ [.cells true 0 [.int .i64 0, .int .i64 0, .int .i64 0]]) (nst x y 0) ?_ ?_
    ·refine ⟨_, _, _, ⟨gst x y d 0, nst x y 0, by omega, rfl, rfl, rfl⟩, Abs.byG hbel [] rfl [0] (by decide) ?_⟩
     exact aV (jn @nst.eq_1 @nst.eq_2)
    ·rintro k1 F Hx ⟨a, b, hm1, hG, rfl, rfl⟩ J1 hJ1
     refine aa g'9 ?_
     refine ak (fun h2 => ?_) (fun h2 => ?_)
     ·have h2d := bsT h2
      have hlt : a % b < b := Nat.mod_lt _ (by omega)
      have g'10 := (jn @h2 (jn @h2d (jn @bg (jn @be g'9))))
      refine aa g'10 ?_
      refine hJ1 _ _ ⟨a % b, by omega, _, _, _, ⟨b, a % b, by omega, by rw [← hG, sW], rfl, rfl⟩, Abs.byG hbel [] rfl [0] (by decide) ?_⟩
      exact aV @h2d
     ·have h2d := bsT h2
      obtain rfl : b = 0 := by omega
      rw [Nat.gcd_zero_right] at hG
      have g'11 := (jn @h2 (jn @h2d (jn @bg (jn @be g'9))))
      refine aa g'11 ?_
      refine hJ0 _ _ ⟨k0 - 1, by omega, _, _, _, ⟨0 + 1, by omega, rfl, rfl⟩, Abs.byG hbel [] rfl [0] (by decide) ?_⟩
      exact aV (jn @hG @h2d)
   ·skip
    have g'12 := (jn @h1 (jn @h1d g'8))
    refine aa g'12 ?_
    refine go_loop try_mixed (by kernel_rfl) (fun k F Hx => ∃ a : Nat, ∃ b : Nat, b = k ∧ Nat.gcd a b = gst x y d (1 + 1) ∧ F = [(0, .int .i64 x), (1, .int .i64 y), (2, .int .i64 d), (6, .ptr (some (H.length, 0))), (7, .int .i64 ((a : Nat) : Int)), (9, .int .i64 ((b : Nat) : Int)), (13, .agg [.int .i64 x, .int .i64 y]), (14, .int .i64 1)] ∧ Hx = H ++ [.cells true 0 [.int .i64 0, .int .i64 0, .int .i64 0]]) (nst x y 1) ?_ ?_
    ·refine ⟨_, _, _, ⟨gst x y d 1, nst x y 1, by omega, rfl, rfl, rfl⟩, Abs.byG hbel [] rfl [0] (by decide) ?_⟩
     exact aV (jn @nst.eq_1 @nst.eq_2)
    ·rintro k1 F Hx ⟨a, b, hm1, hG, rfl, rfl⟩ J1 hJ1
     refine aa g'12 ?_
     refine ak (fun h3 => ?_) (fun h3 => ?_)
     ·have h3d := bsT h3
      have hlt : a % b < b := Nat.mod_lt _ (by omega)
      have g'13 := (jn @h3 (jn @h3d (jn @bg (jn @be g'12))))
      refine aa g'13 ?_
      refine hJ1 _ _ ⟨a % b, by omega, _, _, _, ⟨b, a % b, by omega, by rw [← hG, sW], rfl, rfl⟩, Abs.byG hbel [] rfl [0] (by decide) ?_⟩
      exact aV @h3d
     ·have h3d := bsT h3
      obtain rfl : b = 0 := by omega
      rw [Nat.gcd_zero_right] at hG
      have g'14 := (jn @h3 (jn @h3d (jn @bg (jn @be g'12))))
      refine aa g'14 ?_
      refine hJ0 _ _ ⟨k0 - 1, by omega, _, _, _, ⟨1 + 1, by omega, rfl, rfl⟩, Abs.byG hbel [] rfl [0] (by decide) ?_⟩
      exact aV (jn @hG @h3d)
  ·have h1d := bsT h1
   obtain rfl : j = 2 := by omega
   skip
   have g'15 := (jn @h1 (jn @h1d g'8))
   refine aa g'15 ?_
   exact hQ _ _ (ae (.inl rfl) hbel (x := .agg [.int .i64 (Int.tdiv x ((dP x y d : Nat) : Int)), .int .i64 (Int.tdiv y ((dP x y d : Nat) : Int)), .int .i64 (Int.tdiv d ((dP x y d : Nat) : Int))]) (ai Tryz.results231) rfl ⟨rfl, rfl⟩)
theorem dir_c (H : ac) (h : Int) : ACalls Tryz.prog 211 [.int .i64 h] H (fun v H' => v = .agg [.int .i64 ((cR h).1), .int .i64 ((cR h).2.1), .int .i64 ((cR h).2.2)] ∧ H' = H) := by
 have hK : ((h % 256).toNat % 64) < 64 := Nat.mod_lt _ (by decide)
 have hN : ((h % 256).toNat / 64) ≤ 3 := by omega
 have hkk := bE (a := ((((h % 256).toNat % 64) : Nat) : Int)) (b := ((((h % 256).toNat % 64) : Nat) : Int)) (A := 63) (B := 63) (by omega) (by omega)
 refine AcT true Tryz.func211 ?_; intro hbel Q hQ
 have g'16 := (jn @rem_n64 @quo_n64)
 refine aa g'16 ?_
 refine af (by kernel_rfl) (jb _ h) ?_
 refine aa g'16 ?_
 refine af (by kernel_rfl) (low_c _ (4096 - (((((h % 256).toNat) % 64 : Nat) : Int) * ((((h % 256).toNat) % 64 : Nat) : Int))) (128 * ((((h % 256).toNat) % 64 : Nat) : Int)) (4096 + (((((h % 256).toNat) % 64 : Nat) : Int) * ((((h % 256).toNat) % 64 : Nat) : Int))) (by omega) (by omega) (by omega) (by omega)) ?_
 refine aa g'16 ?_
 refine go_loop try_mixed (by kernel_rfl) (fun k F Hx => ∃ n : Nat, n + k = ((h % 256).toNat / 64) ∧ F = [(2, .ptr (some (H.length, 0))), (4, .ptr (some (H.length + 1, 0))), (21, .int .i64 ((((h % 256).toNat) / 64 : Nat) : Int)), (22, .int .i64 ((n : Nat) : Int))] ∧ Hx = H ++ [.cells true 0 [.int .i64 0, .int .i64 0, .int .i64 0], .cells true 0 [.int .i64 ((rotN (dir0 ((h % 256).toNat % 64)) n).1), .int .i64 ((rotN (dir0 ((h % 256).toNat % 64)) n).2.1), .int .i64 ((ew (4096 - (((((h % 256).toNat) % 64 : Nat) : Int) * ((((h % 256).toNat) % 64 : Nat) : Int))) (128 * ((((h % 256).toNat) % 64 : Nat) : Int)) (4096 + (((((h % 256).toNat) % 64 : Nat) : Int) * ((((h % 256).toNat) % 64 : Nat) : Int)))).2.2)]]) (((h % 256).toNat / 64)) ?_ ?_
 ·refine ⟨_, _, _, ⟨0, by omega, rfl, rfl⟩, Abs.byG hbel [] rfl [0, 1] (by decide) ?_⟩
  exact aV (jn @rotN.eq_1 @dir0.eq_1)
 ·rintro k0 F Hx ⟨n, hm0, rfl, rfl⟩ J0 hJ0
  refine aa g'16 ?_
  refine ak (fun h1 => ?_) (fun h1 => ?_)
  ·have h1d := bsT h1
   have hro := dm.1 (rot_ok (dir0_ok hK) n)
   have g'17 := (jn @h1 (jn @h1d g'16))
   refine aa g'17 ?_
   refine hJ0 _ _ ⟨k0 - 1, by omega, _, _, _, ⟨n + 1, by omega, rfl, rfl⟩, Abs.byG hbel [] rfl [0, 1] (by decide) ?_⟩
   exact aV (jn @rotN.eq_2 @Int.zero_sub)
  ·have h1d := bsT h1
   have hfinn : n = ((h % 256).toNat / 64) := by omega
   have g'18 := (jn @h1 (jn @h1d g'16))
   refine aa g'18 ?_
   exact hQ _ _ (ae (.inl rfl) hbel (x := .agg [.int .i64 ((rotN (dir0 ((h % 256).toNat % 64)) n).1), .int .i64 ((rotN (dir0 ((h % 256).toNat % 64)) n).2.1), .int .i64 ((ew (4096 - (((((h % 256).toNat) % 64 : Nat) : Int) * ((((h % 256).toNat) % 64 : Nat) : Int))) (128 * ((((h % 256).toNat) % 64 : Nat) : Int)) (4096 + (((((h % 256).toNat) % 64 : Nat) : Int) * ((((h % 256).toNat) % 64 : Nat) : Int)))).2.2)]) (ai Tryz.results211) rfl ⟨by subst hfinn; rw [show cR h = rotN (dir0 ((h % 256).toNat % 64)) ((h % 256).toNat / 64) from rfl, rotN_D]; rfl, rfl⟩)
open Go.RowKit
def ptB (x y : Int) : Bool := cF x 1048576 && cF y 1048576
open Go.RowKit
def fk (x0 y0 x1 y1 : Int) : Bool := decide (x0 ≤ x1) && (decide (y0 ≤ y1) && (ptB x0 y0 && ptB x1 y1))
theorem sX {x0 y0 x1 y1 : Int} : fk x0 y0 x1 y1 = true ↔ (-1048576 ≤ x0 ∧ x0 ≤ x1 ∧ x1 ≤ 1048576) ∧ (-1048576 ≤ y0 ∧ y0 ≤ y1 ∧ y1 ≤ 1048576) := by
 unfold fk ptB; simp only [Bool.and_eq_true, decide_eq_true_eq, bl]; omega
def spl (a : Int) : Int := 0 - (0 - a) / 64 - 1
def sph (b : Int) : Int := b / 64
def cg (a b : Int) : Nat := (sph b - spl a + 1).toNat
theorem gridR_s {p : Int → Int → Bool} {x0 y0 : Int} {w n : Nat} : cr p x0 w y0 (n + 1) = cr p x0 w y0 n ++ rowR p x0 (y0 + n) w := rfl
theorem gridR_0 {p : Int → Int → Bool} {x0 y0 : Int} {w : Nat} : cr p x0 w y0 0 = [] := rfl
theorem rowR_0 {p : Int → Int → Bool} {x0 y : Int} : rowR p x0 y 0 = [] := rfl
open Go.RowKit
def ec {α : Type} (p : α → Bool) (l : List α) : Int := if l.any p = true then ((l.findIdx p : Nat) : Int) else -1
theorem gj {α : Type} {p : α → Bool} {l : List α} {i : Nat} (hi : i < l.length) (h0 : (l.take i).any p = false) (h1 : p l[i] = true) : ec p l = (i : Int) := by
 have ha : l.any p = true := List.any_eq_true.2 ⟨l[i], List.getElem_mem hi, h1⟩
 have hf : l.findIdx p = i := (List.findIdx_eq hi).2 ⟨h1, fun j hj => by
  have := List.any_eq_false.1 h0 l[j] (by rw [List.mem_take_iff_getElem]; exact ⟨j, by omega, rfl⟩)
  simpa using this⟩
 unfold ec; rw [if_pos ha, hf]
theorem ee {α : Type} {p : α → Bool} {l : List α} (h : l.any p = false) : ec p l = -1 := by
 unfold ec; rw [if_neg (by simp [h])]
theorem ip {α : Type} {p : α → Bool} {l : List α} : decide (0 ≤ ec p l) = l.any p := by
 cases h : l.any p
 ·rw [ee h]; rfl
 ·unfold ec; rw [if_pos h]; exact decide_eq_true (by omega)
theorem tX {α : Type} (p : α → Bool) (l : List α) : (ec p l = -1 ∧ l.any p = false) ∨ ∃ i : Nat, ∃ hi : i < l.length, ec p l = (i : Int) ∧ (l.take i).any p = false ∧ p l[i] = true := by
 cases h : l.any p
 ·exact .inl ⟨ee h, rfl⟩
 ·right
  have hl : l.findIdx p < l.length := List.findIdx_lt_length_of_exists (by simpa using h)
  have h1 : p l[l.findIdx p] = true := List.findIdx_getElem
  have h0 : (l.take (l.findIdx p)).any p = false := List.any_eq_false.2 fun x hx => by
   obtain ⟨j, hj, rfl⟩ := List.mem_take_iff_getElem.1 hx
   have := List.not_of_lt_findIdx (p := p) (xs := l) (i := j) (by omega)
   simpa using this
  exact ⟨_, hl, gj hl h0 h1, h0, h1⟩
theorem ct {l : List (Int × Int)} {j : Nat} (h : j < l.length) : (g1 l j, g2 l j) = l[j] := by
 simp [g1, g2, h, List.getD_eq_getElem?_getD]
theorem gi_eq {l : List Int} {j : Nat} (h : j < l.length) : (gi l j) = l[j] := by
 simp [gi, h, List.getD_eq_getElem?_getD]
theorem gA {α : Type} {l : List α} {p : α → Bool} {i : Nat} (h : i < l.length) : (l.take (i + 1)).any p = ((l.take i).any p || p l[i]) := by
 rw [List.take_succ_eq_append_getElem h, List.any_append]; simp
theorem fl {n m : Nat} {sel : List Nat} {caps : List AV} (h : AV.bels n caps = true) : AV.mvs (sig n m sel) caps = caps := gW (fun b hb => gy hb) caps h
open Go.RowKit
set_option maxRecDepth 100000 in
theorem idx_cell (H : ac) (s : AV) (l : List (Int × Int)) (hs : Sl H 2 s l.length (prs l)) (hl : l.length ≤ 1000000000) (g : FuncId) (caps : List AV) (hok : dz Tryz.prog g = true) (hc : AV.bels H.length caps = true) (p : (Int × Int) → Bool) (hf : ∀ j, j < l.length → ACalls Tryz.prog g (.agg [.int .i64 (g1 l j), .int .i64 (g2 l j)] :: caps) H (fun v H' => v = .bool (p (g1 l j, g2 l j)) ∧ H' = H)) :
  ACalls Tryz.prog 128 [s, .fn g caps] H (fun v H' => v = .int .i64 (ec p l) ∧ H' = H) := by
 obtain ⟨b, own, cap, rfl, hb⟩ := hs
 have hbl := getElem?_lt hb
 have hmv := fun m sel => fl (n := H.length) (m := m) (sel := sel) hc
 (refine b9 try_mixed Tryz.func128 true _ rfl (Nat.le_of_ble_eq_true (by kernel_rfl)) (by kernel_rfl) ?_; intro hbel Q hQ hQ' c hc; unfold Tryz.f128 at hc; simp only [Option.some.injEq] at hc; subst hc; clear hQ')
 simp -implicitDefEqProofs (disch := omega) only [simprocAttr, aF, aG, Function.comp_apply, one1, lenV, ap, az, aA, aop, AV.ofValue, AV.ofCell, AV.cells, AV.flat, AV.one, arep, aP, av, aE]
 refine go_loop try_mixed (by kernel_rfl) (fun k F Hx => ∃ i : Nat, i + k = l.length ∧ (l.take i).any p = false ∧ F = [(0, .sl (some (b, 0)) l.length none), (1, .fn g caps), (7, .int .i64 l.length), (8, .int .i64 (i : Nat))] ∧ Hx = H) l.length ?_ ?_
 ·refine ⟨_, _, _, ⟨0, by omega, rfl, rfl, rfl⟩, Abs.by0 hbel ?_⟩
  exact aV @hmv
 ·rintro k F Hx ⟨i, hik, ht, rfl, rfl⟩ J hJ
  by_cases hi : i < l.length
  ·have hii : (i : Int) < (l.length : Int) := by omega
   have q1 := cA hi
   have hg := ct hi
   simp -implicitDefEqProofs (disch := omega) only [hii, hb, q1, bp, cC, simprocAttr, aF, aG, Function.comp_apply, one1, lenV, ap, az, aA, aop, AV.ofValue, AV.ofCell, AV.cells, AV.flat, AV.one, arep, aP, av, aE]
   iterate 2 refine And.intro (by omega) ?_
   refine af hok (hf i hi) ?_
   have hst := gA (p := p) hi
   rw [ht, Bool.false_or, ← hg] at hst
   cases h1 : p (g1 l i, g2 l i)
   ·rw [h1] at hst
    simp -implicitDefEqProofs (disch := omega) only [h1, simprocAttr, aF, aG, Function.comp_apply, one1, lenV, ap, az, aA, aop, AV.ofValue, AV.ofCell, AV.cells, AV.flat, AV.one, arep, aP, av, aE]
    refine hJ _ _ ⟨k - 1, by omega, _, _, _, ⟨i + 1, by omega, hst, rfl, rfl⟩, Abs.by0 hbel ?_⟩
    exact aV @hmv
   ·simp -implicitDefEqProofs (disch := omega) only [h1, simprocAttr, aF, aG, Function.comp_apply, one1, lenV, ap, az, aA, aop, AV.ofValue, AV.ofCell, AV.cells, AV.flat, AV.one, arep, aP, av, aE]
    exact hQ _ _ (au (.inl rfl) hbel (x := .int .i64 (i : Nat)) (ai Tryz.results128) rfl ⟨by rw [gj hi ht (by rw [← hg]; exact h1)], rfl⟩)
  ·have hnn : ¬ ((i : Int) < (l.length : Int)) := by omega
   simp -implicitDefEqProofs (disch := omega) only [hnn, simprocAttr, aF, aG, Function.comp_apply, one1, lenV, ap, az, aA, aop, AV.ofValue, AV.ofCell, AV.cells, AV.flat, AV.one, arep, aP, av, aE]
   rw [List.take_of_length_le (by omega)] at ht
   exact hQ _ _ (au (.inl rfl) hbel (x := .int .i64 (-1)) (ai Tryz.results128) rfl ⟨by rw [ee ht], rfl⟩)
open Go.RowKit
theorem sY {l : List (Int × Int)} {j : Nat} {a b : Int} (h : j < l.length) : ((prs l).set (j * 2) (.int .i64 a)).set (j * 2 + 1) (.int .i64 b) = prs (l.set j (a, b)) := by
 induction l generalizing j with
 | nil => simp at h
 | cons p l ih =>
  cases j with
  | zero => simp [cG]
  | succ j =>
   have e1 : (j + 1) * 2 = (j * 2).succ.succ := by omega
   have e2 : (j + 1) * 2 + 1 = (j * 2 + 1).succ.succ := by omega
   rw [cG, e2, e1]
   show _ :: _ :: ((prs l).set (j * 2) (.int .i64 a)).set (j * 2 + 1) (.int .i64 b) = _
   rw [ih (by simpa using h)]
   rfl
theorem prs_rep {m : Nat} : prs (List.replicate m (0, 0)) = (List.range (m * 2)).map fun j => ([.int .i64 0, .int .i64 0] : List AV).getD (j % 2) .any := by
 induction m with
 | zero => rfl
 | succ m ih =>
  have e : List.replicate (m + 1) ((0 : Int), (0 : Int)) = List.replicate m (0, 0) ++ [(0, 0)] := by rw [List.replicate_succ']
  rw [e, ah, ih, Nat.succ_mul, List.range_succ, List.range_succ, List.map_append, List.map_append]
  have e1 : m * 2 % 2 = 0 := by omega
  have e2 : (m * 2 + 1) % 2 = 1 := by omega
  simp [cG, gY, e1, e2]
theorem gS : ∀ (ys xs : List AV) (o : Nat), o + ys.length = xs.length → splice xs o ys = xs.take o ++ ys
 | [], xs, o, h => by
  rw [splice, List.append_nil, List.take_of_length_le]
  simp at h; omega
 | y :: ys, xs, o, h => by
  rw [splice, gS ys _ _ (by simp at h ⊢; omega)]
  simp only [List.length_cons] at h
  have ho : o < xs.length := by omega
  rw [List.take_succ_eq_append_getElem (by simpa using ho), List.getElem_set_self, List.take_set_of_le (Nat.le_refl _)]
  simp
theorem lA {l ys : List (Int × Int)} {i : Nat} (h : i + ys.length = l.length) : splice (prs l) (i * 2) (prs ys) = prs (l.take i ++ ys) := by
 rw [gS _ _ _ (by rw [bp, bp]; omega), pX, ah]
theorem jc {k : IntKind} {l : List Int} {j : Nat} {a : Int} : (ints k l).set j (.int k a) = ints k (l.set j a) := kd
open Go.RowKit
theorem eH {n : Nat} : ∀ {l : List (Int × Int)}, AV.bels n (prs l) = true
 | [] => rfl
 | p :: l => by rw [cG]; simp only [AV.bels, AV.bel, Bool.true_and]; exact eH
theorem HBel.put {n : Nat} {H : ac} (h : HBel n H) (b : Nat) {x : ABlk} (hx : x.bel n = true) : HBel n (H.set b x) := fun c y hy => by
 rw [List.getElem?_set] at hy
 split at hy
 ·split at hy
  ·simp at hy; subst hy; exact hx
  ·cases hy
 ·exact h c y hy
theorem Abs.byS0 {H0 : ac} {F1 F2 : Fr} {n : Nat} (hn : H0.length = n) (hsc : HBel n H0) (h : er n (sig n 0 []) F1 F2) : Abs n (sig n 0 []) F1 H0 F2 H0 := by
 subst hn; exact Abs.by0 hsc h
theorem Abs.byS1 {H0 l1 : ac} {F1 F2 : Fr} {n : Nat} (hn : H0.length = n) (hsc : HBel n H0) (h : er (n + l1.length) (sig n l1.length []) F1 F2) : Abs n (sig n l1.length []) F1 (H0 ++ l1) F2 H0 := by
 subst hn; exact Abs.byN hsc h
theorem Abs.by0e {H0 H2 : ac} {F1 F2 : Fr} (e : H2 = H0) (hsc : HBel H0.length H0) (h : er H0.length (sig H0.length 0 []) F1 F2) : Abs H0.length (sig H0.length 0 []) F1 H0 F2 H2 := by
 subst e; exact Abs.by0 hsc h
theorem end_byS {P : Program} {fn : Func} {H0 : ac} {R : AV → ac → Prop} {F : Fr} {e : Exit} {n : Nat} (hn : H0.length = n) (he : e = .ret ∨ e = .normal) (hbel : HBel n H0) {x1 : AV} (x2 : AV) (hx : cM P fn F H0 = some x1) (hR : R x2 H0) (h : W n x1 (x2.mv (sig n 0 []))) : dr P fn n R e F H0 := by
 subst hn
 exact jr (l2 := []) he hbel x2 hx [] rfl [] (by simp) (by rw [List.append_nil]; exact hR) ⟨h, trivial⟩
def bI {α : Type} (p : α → Bool) (l : List α) : List α := l.filter fun e => !p e
theorem jd {α : Type} {p : α → Bool} {l : List α} (h : l.any p = false) : bI p l = l := by
 unfold bI
 rw [List.filter_eq_self]
 intro a ha
 have := List.any_eq_false.1 h a ha
 simpa using this
theorem pq {α : Type} {p : α → Bool} {l : List α} {j : Nat} (h : j < l.length) : bI p (l.take (j + 1)) = bI p (l.take j) ++ (if p l[j] = true then [] else [l[j]]) := by
 unfold bI
 rw [List.take_succ_eq_append_getElem h, List.filter_append]
 congr 1
 cases hp : p l[j] <;> simp [hp]
theorem delL_le {α : Type} {p : α → Bool} {l : List α} : (bI p l).length ≤ l.length := List.length_filter_le _ _
def du (n : Nat) (l : List (Int × Int)) : List (Int × Int) := l ++ List.replicate (n - l.length) (0, 0)
theorem gB {n : Nat} {l : List (Int × Int)} : prs (du n l) = prs l ++ prs (List.replicate (n - l.length) (0, 0)) := ah
set_option maxRecDepth 100000 in
theorem del_cell (H : ac) (b : Nat) (cap : Option Nat) (l : List (Int × Int)) (hb : H[b]? = some (.cells (aX l.length) 2 (prs l))) (hl : l.length ≤ 1000000000) (g : FuncId) (caps : List AV) (hok : dz Tryz.prog g = true) (hc : AV.bels H.length caps = true) (p : (Int × Int) → Bool)
  (hf : ∀ (X : List (Int × Int)) (e : Int × Int) (L : ac), e ∈ l → ACalls Tryz.prog g (.agg [.int .i64 e.1, .int .i64 e.2] :: caps) (H.set b (.cells (aX l.length) 2 (prs X)) ++ L) (fun v H' => v = .bool (p e) ∧ H' = H.set b (.cells (aX l.length) 2 (prs X)) ++ L)) :
  ACalls Tryz.prog 83 [.sl (some (b, 0)) l.length cap, .fn g caps] H (fun v H' => v = .sl (some (b, 0)) (bI p l).length none ∧ H' = H.set b (.cells (aX l.length) 2 (prs (du l.length (bI p l))))) := by
 have hbl := getElem?_lt hb
 have hset : ∀ X L, (H.set b X ++ L)[b]? = some X := fun X L => by rw [List.getElem?_append_left (by simpa using hbl), List.getElem?_set_self hbl]
 have hset0 : ∀ X, (H.set b X)[b]? = some X := fun X => List.getElem?_set_self hbl
 have hself : H.set b (.cells (aX l.length) 2 (prs l)) = H := by
  refine List.ext_getElem? fun i => ?_
  rw [List.getElem?_set]
  split
  ·rename_i e; subst e; first | exact hb.symm | (rw [if_pos hbl]; exact hb.symm)
  ·rfl
 have hmv := fun m sel => fl (n := H.length) (m := m) (sel := sel) hc
 have key := idx_cell H (.sl (some (b, 0)) l.length cap) l ⟨b, _, cap, rfl, hb⟩ hl g caps hok hc p (fun j hj => by
  have := hf l (g1 l j, g2 l j) [] (by rw [ct hj]; exact List.getElem_mem hj)
  rw [List.append_nil, hself] at this
  exact this)
 (refine b9 try_mixed Tryz.func83 true _ rfl (Nat.le_of_ble_eq_true (by kernel_rfl)) (by kernel_rfl) ?_; intro hbel Q hQ hQ' c hc; unfold Tryz.f83 at hc; simp only [Option.some.injEq] at hc; subst hc; clear hQ')
 simp -implicitDefEqProofs (disch := omega) only [simprocAttr, aF, aG, Function.comp_apply, one1, lenV, ap, az, aA, aop, AV.ofValue, AV.ofCell, AV.cells, AV.flat, AV.one, arep, aP, av, aE]
 refine af (by kernel_rfl) key ?_
 rcases tX p l with ⟨h1, h2⟩ | ⟨i, hi, h1, h2, h3⟩
 ·rw [h1]
  simp -implicitDefEqProofs (disch := omega) only [simprocAttr, aF, aG, Function.comp_apply, one1, lenV, ap, az, aA, aop, AV.ofValue, AV.ofCell, AV.cells, AV.flat, AV.one, arep, aP, av, aE]
  have e : H.set b (.cells (aX l.length) 2 (prs (du l.length (bI p l)))) = H := by rw [jd h2]; simp [du, hself]
  exact hQ _ _ (jr (.inl rfl) hbel (x1 := .sl (some (b, 0)) l.length cap) (l2 := []) (.sl (some (b, 0)) (bI p l).length none) (ai Tryz.results83) [] rfl [] (by decide) ⟨rfl, by rw [List.append_nil, e]⟩ (by rw [jd h2]; exact aW))
 ·rw [h1]
  have hne : ((i : Int) == -1) = false := beq_eq_false_iff_ne.2 (by omega)
  have hown : aX l.length = true := dH (by omega)
  rw [hown] at hb hf hself
  simp -implicitDefEqProofs (disch := omega) only [hne, simprocAttr, aF, aG, Function.comp_apply, one1, lenV, ap, az, aA, aop, AV.ofValue, AV.ofCell, AV.cells, AV.flat, AV.one, arep, aP, av, aE]
  have hd0 : bI p (l.take (i + 1)) = l.take i := by rw [pq hi, if_pos h3, List.append_nil, jd h2]
  have hdi : (bI p (l.take (i + 1))).length = i := by rw [hd0, List.length_take]; omega
  refine go_loop try_mixed (by kernel_rfl) (fun k F Hx => ∃ (j : Nat) (X : List (Int × Int)), j + k = l.length ∧ (bI p (l.take j)).length < j ∧ X.length = l.length ∧ X.take (bI p (l.take j)).length = bI p (l.take j) ∧ X.drop j = l.drop j ∧ F = [(0, .sl (some (b, 0)) l.length cap), (1, .fn g caps), (5, .int .i64 (((bI p (l.take j)).length : Nat) : Int)), (6, .int .i64 ((j : Nat) : Int))] ∧ Hx = H.set b (.cells true 2 (prs X))) (l.length - (i + 1)) ?_ ?_
  ·refine ⟨_, _, _, ⟨i + 1, l, by omega, by rw [hdi]; omega, rfl, by rw [hd0, List.length_take, Nat.min_eq_left (by omega)], rfl, rfl, rfl⟩, Abs.by0e hself hbel ?_⟩
   exact aV (jn @hdi @hmv)
  ·rintro k F Hx ⟨j, X, hjk, hij, hXl, hXt, hXd, rfl, rfl⟩ J hJ
   obtain ⟨G, hG⟩ : ∃ G, G = H.set b (.cells true 2 (prs X)) := ⟨_, rfl⟩
   have hGl : G.length = H.length := by rw [hG, List.length_set]
   have hG1 : ∀ L, (G ++ L)[b]? = some (.cells true 2 (prs X)) := fun L => by rw [hG]; exact hset _ _
   have hG0 : G[b]? = some (.cells true 2 (prs X)) := by rw [hG]; exact hset0 _
   have hbG : b < G.length := by omega
   have hGs : ∀ Y L, (G ++ L).set b Y = H.set b Y ++ L := fun Y L => by rw [List.set_append_left _ _ hbG, hG, List.set_set]
   have hcall := fun e L => hf X e L
   rw [← hG] at hcall ⊢
   have hbelG : HBel H.length G := by rw [hG]; exact HBel.put hbel b eH
   obtain ⟨n, hn⟩ : ∃ n, n = (bI p (l.take j)).length := ⟨_, rfl⟩
   have hnj : n < j := by rw [hn]; exact hij
   rw [← hn] at hXt ⊢
   by_cases hj : j < l.length
   ·have hjj : (j : Int) < (l.length : Int) := by omega
    have hXj : X[j]'(by omega) = l[j] := by
     have := congrArg (fun m => m[0]?) hXd
     simpa [hj, hXl] using this
    have q1 := cA (l := X) (j := j) (by omega)
    have hg := ct (l := X) (j := j) (by omega)
    simp -implicitDefEqProofs (disch := omega) only [hjj, hG1, hG0, q1, bp, cC, simprocAttr, aF, aG, Function.comp_apply, one1, lenV, ap, az, aA, aop, AV.ofValue, AV.ofCell, AV.cells, AV.flat, AV.one, arep, aP, av, aE]
    iterate 2 refine And.intro (by omega) ?_
    refine af hok (hcall (g1 X j, g2 X j) _ (by rw [hg, hXj]; exact List.getElem_mem hj)) ?_
    have hst := pq (p := p) hj
    rw [← hXj, ← hg] at hst
    cases h5 : p (g1 X j, g2 X j)
    ·rw [h5, if_neg Bool.false_ne_true] at hst
     have hl5 : (bI p (l.take (j + 1))).length = n + 1 := by rw [hst, List.length_append, hn]; rfl
     have hnX : n < X.length := by omega
     have hp2 := sY (a := g1 X j) (b := g2 X j) hnX
     simp -implicitDefEqProofs (disch := omega) only [h5, hG1, hG0, hGs, hp2, bp, cC, simprocAttr, aF, aG, Function.comp_apply, one1, lenV, ap, az, aA, aop, AV.ofValue, AV.ofCell, AV.cells, AV.flat, AV.one, arep, aP, av, aE]
     iterate 2 refine And.intro (by omega) ?_
     refine hJ _ _ ⟨k - 1, by omega, _, _, _, ⟨j + 1, X.set n (g1 X j, g2 X j), by omega, by rw [hl5]; omega, by rw [List.length_set]; exact hXl, ?_, ?_, rfl, rfl⟩, Abs.byS1 (by rw [List.length_set]) (HBel.put hbel b eH) ?_⟩
     ·rw [hl5, hst, List.take_succ_eq_append_getElem (by rw [List.length_set]; exact hnX), List.getElem_set_self, List.take_set_of_le (Nat.le_refl _), hXt]
     ·rw [List.drop_set_of_lt (by omega), ← List.drop_drop, hXd, List.drop_drop]
     exact aV (jn @hl5 (jn @hmv (jn @Int.natCast_add @Int.natCast_one)))
    ·rw [h5, if_pos rfl, List.append_nil] at hst
     have hl5 : (bI p (l.take (j + 1))).length = n := by rw [hst, hn]
     simp -implicitDefEqProofs (disch := omega) only [h5, simprocAttr, aF, aG, Function.comp_apply, one1, lenV, ap, az, aA, aop, AV.ofValue, AV.ofCell, AV.cells, AV.flat, AV.one, arep, aP, av, aE]
     refine hJ _ _ ⟨k - 1, by omega, _, _, _, ⟨j + 1, X, by omega, by rw [hl5]; omega, hXl, by rw [hst, ← hn]; exact hXt, by rw [← List.drop_drop, hXd, List.drop_drop], rfl, hG⟩, Abs.byS1 hGl hbelG ?_⟩
     exact aV (jn @hl5 @hmv)
   ·have hjj : ¬ ((j : Int) < (l.length : Int)) := by omega
    have hrep := (prs_rep (m := l.length - n)).symm
    have hne0 : (l.length - n == 0) = false := beq_eq_false_iff_ne.2 (by omega)
    have hspl := lA (l := X) (ys := List.replicate (l.length - n) (0, 0)) (i := n) (by rw [List.length_replicate]; omega)
    have hGs0 : ∀ Y, G.set b Y = H.set b Y := fun Y => by rw [hG, List.set_set]
    rw [hXt] at hspl
    simp -implicitDefEqProofs (disch := omega) only [hjj, hG1, hG0, hrep, hne0, hspl, hGs0, bp, cC, List.length_replicate, hset0, simprocAttr, aF, aG, Function.comp_apply, one1, lenV, ap, az, aA, aop, AV.ofValue, AV.ofCell, AV.cells, AV.flat, AV.one, arep, aP, av, aE]
    refine ⟨by omega, ⟨by omega, .inl (Nat.le_refl _)⟩, by omega, by omega, ⟨by omega, .inl (by omega)⟩, ?_⟩
    obtain rfl : j = l.length := by omega
    rw [List.take_length] at hn ⊢
    refine hQ _ _ (end_byS (by rw [List.length_set]) (.inl rfl) (HBel.put hbel b eH) (x1 := .sl (some (b, 0)) (n - 0) (Option.map (fun x => x - 0) cap)) (.sl (some (b, 0)) (bI p l).length none) (ai Tryz.results83) ⟨rfl, by rw [hown, hn]; rfl⟩ ?_)
    exact aV (jn @hn @Nat.sub_zero)
open Go.RowKit
open Go.RowKit
abbrev T6 := Int × Int × Int × Int × Int × Int
def r6 (l : List T6) : List AV := l.flatMap fun p => [.int .i64 p.1, .int .i64 p.2.1, .int .i64 p.2.2.1, .int .i64 p.2.2.2.1, .int .i64 p.2.2.2.2.1, .int .i64 p.2.2.2.2.2]
def g6 (l : List T6) (j : Nat) : T6 := l.getD j (0, 0, 0, 0, 0, 0)
def g61 (l : List T6) (j : Nat) : Int := (g6 l j).1
def g62 (l : List T6) (j : Nat) : Int := (g6 l j).2.1
def g63 (l : List T6) (j : Nat) : Int := (g6 l j).2.2.1
def g64 (l : List T6) (j : Nat) : Int := (g6 l j).2.2.2.1
def g65 (l : List T6) (j : Nat) : Int := (g6 l j).2.2.2.2.1
def g66 (l : List T6) (j : Nat) : Int := (g6 l j).2.2.2.2.2
theorem g6_eq {l : List T6} {j : Nat} (h : j < l.length) : (g61 l j, g62 l j, g63 l j, g64 l j, g65 l j, g66 l j) = l[j] := by
 simp [g61, g62, g63, g64, g65, g66, g6, h, List.getD_eq_getElem?_getD]
theorem bW : r6 [] = [] := rfl
theorem bk {p : T6} {l : List T6} : r6 (p :: l) = .int .i64 p.1 :: .int .i64 p.2.1 :: .int .i64 p.2.2.1 :: .int .i64 p.2.2.2.1 :: .int .i64 p.2.2.2.2.1 :: .int .i64 p.2.2.2.2.2 :: r6 l := rfl
theorem bx {l m : List T6} : r6 (l ++ m) = r6 l ++ r6 m := by simp [r6]
theorem bM : ∀ {l : List T6}, (r6 l).length = l.length * 6
 | [] => rfl
 | p :: l => by rw [bk]; simp only [List.length_cons, bM (l := l)]; omega
theorem bA {σ : Nat → Nat} : ∀ {l : List T6}, AV.mvs σ (r6 l) = r6 l
 | [] => rfl
 | p :: l => by
  rw [bk]
  show AV.mv σ _ :: AV.mv σ _ :: AV.mv σ _ :: AV.mv σ _ :: AV.mv σ _ :: AV.mv σ _ :: AV.mvs σ (r6 l) = _
  rw [bA (l := l)]; rfl
theorem r6_at : ∀ {l : List T6} {j : Nat} (_h : j < l.length), (r6 l).drop (j * 6) = .int .i64 (g61 l j) :: .int .i64 (g62 l j) :: .int .i64 (g63 l j) :: .int .i64 (g64 l j) :: .int .i64 (g65 l j) :: .int .i64 (g66 l j) :: (r6 l).drop ((j + 1) * 6)
 | [], j, h => by simp at h
 | p :: l, 0, _ => by rw [bk]; simp [g61, g62, g63, g64, g65, g66, g6]
 | p :: l, j + 1, h => by
  rw [bk, show (j + 1) * 6 = j * 6 + 1 + 1 + 1 + 1 + 1 + 1 by omega, List.drop_succ_cons, List.drop_succ_cons, List.drop_succ_cons, List.drop_succ_cons, List.drop_succ_cons, List.drop_succ_cons, r6_at (l := l) (by simpa using h), show (j + 1 + 1) * 6 = (j + 1) * 6 + 1 + 1 + 1 + 1 + 1 + 1 by omega, List.drop_succ_cons, List.drop_succ_cons, List.drop_succ_cons, List.drop_succ_cons, List.drop_succ_cons, List.drop_succ_cons]
  rfl
theorem cD {l : List T6} {j : Nat} (h : j < l.length) : ((r6 l).drop (j * 6)).take 6 = [.int .i64 (g61 l j), .int .i64 (g62 l j), .int .i64 (g63 l j), .int .i64 (g64 l j), .int .i64 (g65 l j), .int .i64 (g66 l j)] := by rw [r6_at h]; rfl
theorem sZ {l : List T6} (h : 0 < l.length) : (r6 l).take 6 = [.int .i64 (g61 l 0), .int .i64 (g62 l 0), .int .i64 (g63 l 0), .int .i64 (g64 l 0), .int .i64 (g65 l 0), .int .i64 (g66 l 0)] := by
 have := cD h
 rwa [Nat.zero_mul, List.drop_zero] at this
theorem r6_load1 {l : List T6} {j : Nat} (h : j + 1 < l.length) : ((r6 l).drop (6 + j * 6)).take 6 = [.int .i64 (g61 l (j + 1)), .int .i64 (g62 l (j + 1)), .int .i64 (g63 l (j + 1)), .int .i64 (g64 l (j + 1)), .int .i64 (g65 l (j + 1)), .int .i64 (g66 l (j + 1))] := by
 rw [show 6 + j * 6 = (j + 1) * 6 by omega]; exact cD h
theorem r6_take {l : List T6} {j : Nat} : (r6 l).take (j * 6) = r6 (l.take j) := by
 induction l generalizing j with
 | nil => simp [bW]
 | cons p l ih =>
  cases j with
  | zero => simp [bW]
  | succ j => rw [bk, show (j + 1) * 6 = j * 6 + 1 + 1 + 1 + 1 + 1 + 1 by omega, List.take_succ_cons, List.take_succ_cons, List.take_succ_cons, List.take_succ_cons, List.take_succ_cons, List.take_succ_cons, ih]; rfl
theorem je {l : List T6} : (r6 l).take (l.length * 6) = r6 l := by rw [r6_take, List.take_length]
theorem dw {l : List T6} : (r6 l).all AV.one = true := by
 induction l with
 | nil => rfl
 | cons p l ih => rw [bk]; simp [AV.one, ih]
section
variable {P : Program} {H : ac} {n : Nat}
theorem rows_r6 {t1 t2 t3 t4 t5 t6 : TypeId} (h1 : P.underlying t1 = some (.int .i64)) (h2 : P.underlying t2 = some (.int .i64)) (h3 : P.underlying t3 = some (.int .i64)) (h4 : P.underlying t4 = some (.int .i64)) (h5 : P.underlying t5 = some (.int .i64)) (h6 : P.underlying t6 = some (.int .i64)) : ∀ rows : List (List AV), (∀ r : List AV, r ∈ rows → RTy P H (n + 1) [t1, t2, t3, t4, t5, t6] r) → ∃ l : List T6, l.length = rows.length ∧ rows.flatten = r6 l ∧ ∀ p ∈ l, (Lit.int .i64 p.1).wf = true ∧ (Lit.int .i64 p.2.1).wf = true ∧ (Lit.int .i64 p.2.2.1).wf = true ∧ (Lit.int .i64 p.2.2.2.1).wf = true ∧ (Lit.int .i64 p.2.2.2.2.1).wf = true ∧ (Lit.int .i64 p.2.2.2.2.2).wf = true
 | [], _ => ⟨[], rfl, rfl, fun z h => by simp at h⟩
 | r :: rows, h => by
  obtain ⟨l, h1', h2', h3'⟩ := rows_r6 h1 h2 h3 h4 h5 h6 rows fun r' hr => h r' (by simp [hr])
  have hr := h r (by simp)
  obtain ⟨y1, r', rfl, hy1, hr⟩ := hr.cons
  obtain ⟨y2, r', rfl, hy2, hr⟩ := hr.cons
  obtain ⟨y3, r', rfl, hy3, hr⟩ := hr.cons
  obtain ⟨y4, r', rfl, hy4, hr⟩ := hr.cons
  obtain ⟨y5, r', rfl, hy5, hr⟩ := hr.cons
  obtain ⟨y6, r', rfl, hy6, hr⟩ := hr.cons
  obtain rfl := hr.nil
  obtain ⟨z1, rfl, hz1⟩ := hy1.int h1
  obtain ⟨z2, rfl, hz2⟩ := hy2.int h2
  obtain ⟨z3, rfl, hz3⟩ := hy3.int h3
  obtain ⟨z4, rfl, hz4⟩ := hy4.int h4
  obtain ⟨z5, rfl, hz5⟩ := hy5.int h5
  obtain ⟨z6, rfl, hz6⟩ := hy6.int h6
  exact ⟨(z1, z2, z3, z4, z5, z6) :: l, by simp [h1'], by simp [h2', bk], fun z' h' => by
   rcases List.mem_cons.1 h' with rfl | h'
   ·exact ⟨hz1, hz2, hz3, hz4, hz5, hz6⟩
   ·exact h3' _ h'⟩
abbrev Sl6 (H : ac) (s : AV) (l : List T6) : Prop := Sl H 6 s l.length (r6 l)
theorem LTy.rec6 {t e t1 t2 t3 t4 t5 t6 : TypeId} {x : AV} (ht : P.underlying t = some (.slice e)) (h1 : P.underlying t1 = some (.int .i64)) (h2 : P.underlying t2 = some (.int .i64)) (h3 : P.underlying t3 = some (.int .i64)) (h4 : P.underlying t4 = some (.int .i64)) (h5 : P.underlying t5 = some (.int .i64)) (h6 : P.underlying t6 = some (.int .i64)) (hl : bQ P (n + 1) e = some [t1, t2, t3, t4, t5, t6]) (h : LTy P H (n + 2) t x) :
  ∃ l : List T6, Sl6 H x l ∧ l.length ≤ maxLen ∧ ∀ p ∈ l, (Lit.int .i64 p.1).wf = true ∧ (Lit.int .i64 p.2.1).wf = true ∧ (Lit.int .i64 p.2.2.1).wf = true ∧ (Lit.int .i64 p.2.2.2.1).wf = true ∧ (Lit.int .i64 p.2.2.2.2.1).wf = true ∧ (Lit.int .i64 p.2.2.2.2.2).wf = true := by
 obtain ⟨b, rows, rfl, k1, k2, k3⟩ := h.slice ht hl
 obtain ⟨l, q1, q2, q3⟩ := rows_r6 h1 h2 h3 h4 h5 h6 rows k3
 exact ⟨l, ⟨b, false, none, by rw [q1], by rw [← q2]; exact k2⟩, by omega, q3⟩
end
set_option linter.unusedSimpArgs false
set_option linter.unusedVariables false
open Go.RowKit
def bD (f c : Int) : Bool := decide (0 ≤ f) && (decide (f < 256) && (decide (1 ≤ c) && (decide (c ≤ 256) && (decide (f = 0) || decide (c < 256)))))
theorem bm {f c : Int} : bD f c = true ↔ (0 ≤ f ∧ f < 256) ∧ (1 ≤ c ∧ c ≤ 256) ∧ (f = 0 ∨ c < 256) := by
 unfold bD
 simp only [Bool.and_eq_true, Bool.or_eq_true, decide_eq_true_eq]
 omega
def arcF (f c : Int) : Int := if 256 ≤ c then 0 else f % 256
def cE (c : Int) : Int := if 256 ≤ c then 256 else c
theorem jx {f c : Int} (h : 1 ≤ c) : bD (arcF f c) (cE c) = true := by
 rw [bm]; unfold arcF cE; split <;> omega
def aJ (f : Int) (n : Nat) : List Int := (List.range n).map fun (i : Nat) => (f + (i : Int)) % 256
theorem c7 (f : Int) (n : Nat) : (aJ f n).length = n := by simp [aJ]
theorem pr (f : Int) (n : Nat) : aJ f (n + 1) = aJ f n ++ [(f + (n : Int)) % 256] := by
 unfold aJ; rw [List.range_succ, List.map_append]; rfl
theorem mrkL_bd {f : Int} {n : Nat} : ∀ e ∈ aJ f n, 0 ≤ e ∧ e ≤ 255 := fun e he => by
 unfold aJ at he
 obtain ⟨i, -, rfl⟩ := List.mem_map.1 he
 omega
def aZ (s f c : Int) : Int := (f - s) % 256 + c
def jy (f c m : Int) : Prop := (m - f) % 256 < c
instance (f c m : Int) : Decidable (jy f c m) := by unfold jy; exact inferInstance
def dR (s n bf bn : Int) : Int × Int := if n < bn ∨ (n = bn ∧ n < 256 ∧ s < bf) then (s, n) else (bf, bn)
def bG (f c f' c' : Int) : Int × Int :=
 let p := dR f (max (aZ f f c) (aZ f f' c')) 0 256
 dR f' (max (aZ f' f c) (aZ f' f' c')) p.1 p.2
def needN (x : Int → Bool) (s : Int) : Nat → Int
 | 0 => 0
 | n + 1 => if x ((s + (n : Int)) % 256) = true then (n : Int) + 1 else needN x s n
def bestN (x : Int → Bool) : Nat → Int × Int
 | 0 => (0, 256)
 | n + 1 =>
  let p := bestN x n
  let s : Int := 255 - (n : Int)
  let m := needN x s 256
  if m < 256 ∧ m ≤ p.2 then (s, m) else p
theorem km (x : Int → Bool) (s : Int) : ∀ n : Nat, 0 ≤ needN x s n ∧ needN x s n ≤ n
 | 0 => by simp [needN]
 | n + 1 => by
  have := km x s n
  rw [needN]; split <;> omega
theorem kn {x : Int → Bool} {s : Int} {m : Nat} (hm : x ((s + (m : Int)) % 256) = true) : ∀ n : Nat, m < n → (∀ i : Nat, m < i → i < n → x ((s + i) % 256) = false) → needN x s n = m + 1
 | 0, h, _ => by omega
 | n + 1, h, k => by
  rw [needN]
  rcases Nat.lt_or_ge m n with h1 | h1
  ·rw [k n h1 (by omega)]
   exact kn hm n h1 fun i a b => k i a (by omega)
  ·obtain rfl : n = m := by omega
   rw [hm]; rfl
def uniB (f c f' c' m : Int) : Bool := decide ((m - f) % 256 < c) || decide ((m - f') % 256 < c')
theorem uni_iff {f c f' c' m : Int} : uniB f c f' c' m = true ↔ (m - f) % 256 < c ∨ (m - f') % 256 < c' := by unfold uniB; simp
theorem uni_not {f c f' c' m : Int} : uniB f c f' c' m = false ↔ c ≤ (m - f) % 256 ∧ c' ≤ (m - f') % 256 := by
 unfold uniB; simp
theorem need_uni {f c f' c' : Int} (h : bD f c = true) (h' : bD f' c' = true) {s : Int} (hs : 0 ≤ s ∧ s ≤ 255) : needN (uniB f c f' c') s 256 = min 256 (max (aZ s f c) (aZ s f' c')) := by
 rw [bm] at h h'
 obtain ⟨M, hM⟩ : ∃ M : Int, M = max (aZ s f c) (aZ s f' c') := ⟨_, rfl⟩
 rw [← hM]
 unfold aZ at hM
 rcases (by omega : M ≤ 256 ∨ 256 < M) with hle | hgt
 ·have hpos : 1 ≤ M := by omega
  have e := kn (x := uniB f c f' c') (s := s) (m := (M - 1).toNat) (by rw [uni_iff]; omega) 256 (by omega) fun i a b => by rw [uni_not]; omega
  rw [e]; omega
 ·have e := kn (x := uniB f c f' c') (s := s) (m := 255) (by rw [uni_iff]; omega) 256 (by omega) fun i a b => by omega
  rw [e]; omega
theorem pu {x : Int → Bool} : ∀ n : Nat, n ≤ 256 → ((bestN x n = (0, 256) ∧ ∀ s : Int, 256 - (n : Int) ≤ s → s ≤ 255 → needN x s 256 = 256) ∨
  ((bestN x n).2 < 256 ∧ (256 - (n : Int) ≤ (bestN x n).1 ∧ (bestN x n).1 ≤ 255) ∧ needN x (bestN x n).1 256 = (bestN x n).2 ∧ ∀ s : Int, 256 - (n : Int) ≤ s → s ≤ 255 → (bestN x n).2 ≤ needN x s 256 ∧ (needN x s 256 = (bestN x n).2 → (bestN x n).1 ≤ s)))
 | 0, _ => .inl ⟨rfl, fun s a b => by omega⟩
 | n + 1, hn => by
  have ih := pu (x := x) n (by omega)
  have hb := km x (255 - (n : Int)) 256
  have eb : bestN x (n + 1) = if needN x (255 - (n : Int)) 256 < 256 ∧ needN x (255 - (n : Int)) 256 ≤ (bestN x n).2 then (255 - (n : Int), needN x (255 - (n : Int)) 256) else bestN x n := rfl
  rw [eb]
  split
  ·rename_i hc
   right
   try dsimp only
   refine ⟨hc.1, by omega, rfl, fun s a b => ?_⟩
   rcases (by omega : s = 255 - (n : Int) ∨ 256 - (n : Int) ≤ s) with rfl | h2
   ·exact ⟨Int.le_refl _, fun _ => Int.le_refl _⟩
   ·rcases ih with ⟨e, ih⟩ | ⟨e1, e2, e3, ih⟩
    ·have := ih s h2 b; rw [this]; omega
    ·have := ih s h2 b; omega
  ·rename_i hc
   rcases ih with ⟨e, ih⟩ | ⟨e1, e2, e3, ih⟩
   ·left
    refine ⟨e, fun s a b => ?_⟩
    rcases (by omega : s = 255 - (n : Int) ∨ 256 - (n : Int) ≤ s) with rfl | h2
    ·rw [e] at hc; simp only at hc; omega
    ·exact ih s h2 b
   ·right
    refine ⟨e1, by omega, e3, fun s a b => ?_⟩
    rcases (by omega : s = 255 - (n : Int) ∨ 256 - (n : Int) ≤ s) with rfl | h2
    ·omega
    ·exact ih s h2 b
theorem hull_eq {f c f' c' : Int} (h : bD f c = true) (h' : bD f' c' = true) : bestN (uniB f c f' c') 256 = bG f c f' c' := by
 have hs := pu (x := uniB f c f' c') 256 (Nat.le_refl _)
 have hu := fun s hs => need_uni h h' (s := s) hs
 rw [bm] at h h'
 have hf := hu f (by omega)
 have hf' := hu f' (by omega)
 generalize bestN (uniB f c f' c') 256 = p at hs ⊢
 obtain ⟨p1, p2⟩ := p
 unfold bG
 simp only at hs ⊢
 obtain ⟨n1, hn1⟩ : ∃ n, n = max (aZ f f c) (aZ f f' c') := ⟨_, rfl⟩
 obtain ⟨n2, hn2⟩ : ∃ n, n = max (aZ f' f c) (aZ f' f' c') := ⟨_, rfl⟩
 rw [← hn1, ← hn2]
 rw [← hn1] at hf
 rw [← hn2] at hf'
 rcases hs with ⟨e, k⟩ | ⟨e1, e2, e3, k⟩
 ·rw [Prod.mk.injEq] at e
  have k1 := k f (by omega) (by omega)
  have k2 := k f' (by omega) (by omega)
  have q1 : dR f n1 0 256 = (0, 256) := if_neg (by omega)
  rw [q1]
  have q2 : dR f' n2 0 256 = (0, 256) := if_neg (by omega)
  dsimp only
  rw [q2]
  exact Prod.ext e.1 e.2
 ·have k1 := k f (by omega) (by omega)
  have k2 := k f' (by omega) (by omega)
  have k3 := hu p1 (by omega)
  have hp : p1 = f ∨ p1 = f' := by
   by_cases hne : p1 = f ∨ p1 = f'
   ·exact hne
   exfalso
   unfold aZ at k3 hn1 hn2
   obtain ⟨d1, hd1⟩ : ∃ d, d = (f - p1) % 256 := ⟨_, rfl⟩
   obtain ⟨d2, hd2⟩ : ∃ d, d = (f' - p1) % 256 := ⟨_, rfl⟩
   rw [← hd1, ← hd2] at k3
   have b1 : 1 ≤ d1 ∧ d1 ≤ 255 := by omega
   have b2 : 1 ≤ d2 ∧ d2 ≤ 255 := by omega
   have a1 : (f - f) % 256 = 0 := by omega
   have a2 : (f' - f') % 256 = 0 := by omega
   rw [a1] at hn1
   rw [a2] at hn2
   rcases (by omega : d1 ≤ d2 ∨ d2 ≤ d1) with hd | hd
   ·have a3 : (f' - f) % 256 = d2 - d1 := by omega
    rw [a3] at hn1
    clear hn2 hd1 hd2 a1 a2 a3 hf' k2 e2 hu
    omega
   ·have a3 : (f - f') % 256 = d1 - d2 := by omega
    rw [a3] at hn2
    clear hn1 hd1 hd2 a1 a2 a3 hf k1 e2 hu
    omega
  rcases hp with rfl | rfl
  ·have q1 : dR p1 n1 0 256 = (p1, n1) := if_pos (by omega)
   rw [q1]
   dsimp only
   have q2 : dR f' n2 p1 n1 = (p1, n1) := if_neg (by omega)
   rw [q2]
   exact Prod.ext rfl (by simp only; omega)
  ·by_cases hq : n1 < 256
   ·have q1 : dR f n1 0 256 = (f, n1) := if_pos (by omega)
    rw [q1]
    dsimp only
    unfold dR
    split
    ·exact Prod.ext rfl (by simp only; omega)
    ·exact Prod.ext (by simp only; omega) (by simp only; omega)
   ·have q1 : dR f n1 0 256 = (0, 256) := if_neg (by omega)
    rw [q1]
    dsimp only
    have q2 : dR p1 n2 0 256 = (p1, n2) := if_pos (by omega)
    rw [q2]
    exact Prod.ext rfl (by simp only; omega)
open Go.RowKit
def offB (n : Int) : Bool := decide (n < -1048576) || decide (1048576 < n)
def bxB (x0 y0 x1 y1 f c : Int) : Bool := decide (x0 ≤ x1) && (decide (y0 ≤ y1) && ((!([x0, y0, x1, y1].any offB)) && bD f c))
theorem bO {x0 y0 x1 y1 f c : Int} : bxB x0 y0 x1 y1 f c = true ↔ (-1048576 ≤ x0 ∧ x0 ≤ x1 ∧ x1 ≤ 1048576) ∧ (-1048576 ≤ y0 ∧ y0 ≤ y1 ∧ y1 ≤ 1048576) ∧ bD f c = true := by
 unfold bxB offB
 simp only [Bool.and_eq_true, decide_eq_true_eq, List.any_cons, List.any_nil, Bool.or_false, Bool.not_eq_true', Bool.or_eq_false_iff, decide_eq_false_iff_not]
 constructor
 ·rintro ⟨a, b, c, d⟩; exact ⟨by omega, by omega, d⟩
 ·rintro ⟨a, b, d⟩; exact ⟨by omega, by omega, by omega, d⟩
def e7 (f c : Int) : Bool := decide (0 ≤ f) && (decide (f < 256) && (decide (1 ≤ c) && (decide (c ≤ 256) && (decide (c < 256) || f == 0))))
theorem gk (f c : Int) : e7 f c = bD f c := by
 rw [Bool.eq_iff_iff, bm]; unfold e7; simp only [Bool.and_eq_true, Bool.or_eq_true, decide_eq_true_eq, beq_iff_eq]; omega
def bxR (x0 y0 x1 y1 f c : Int) : Bool := decide (-1048576 ≤ x0) && (decide (x0 ≤ x1) && (decide (x1 ≤ 1048576) && (decide (-1048576 ≤ y0) && (decide (y0 ≤ y1) && (decide (y1 ≤ 1048576) && bD f c)))))
theorem gC (x0 y0 x1 y1 f c : Int) : bxR x0 y0 x1 y1 f c = bxB x0 y0 x1 y1 f c := by
 rw [Bool.eq_iff_iff, bO]; unfold bxR; simp only [Bool.and_eq_true, decide_eq_true_eq]
 constructor
 ·rintro ⟨a, b, c, d, e, f, g⟩; exact ⟨by omega, by omega, g⟩
 ·rintro ⟨a, b, g⟩; exact ⟨by omega, by omega, by omega, by omega, by omega, by omega, g⟩
def bJ (b : T6) : Bool := bxB b.1 b.2.1 b.2.2.1 b.2.2.2.1 b.2.2.2.2.1 b.2.2.2.2.2
def bX (l : List T6) : Bool := decide (((l.length : Nat) : Int) ≤ 16) && !(l.any fun b => !bJ b)
theorem bY {l : List T6} : bX l = true ↔ l.length ≤ 16 ∧ ∀ b ∈ l, bJ b = true := by
 unfold bX
 rw [Bool.and_eq_true, decide_eq_true_eq, Bool.not_eq_true', List.any_eq_false]
 constructor
 ·rintro ⟨a, b⟩; exact ⟨by omega, fun x hx => by have := b x hx; simpa using this⟩
 ·rintro ⟨a, b⟩; exact ⟨by omega, fun x hx => by simp [b x hx]⟩
def mnI (a b : Int) : Int := if b < a then b else a
def mxI (a b : Int) : Int := if a < b then b else a
def dY (a b : T6) : T6 := (mnI a.1 b.1, mnI a.2.1 b.2.1, mxI a.2.2.1 b.2.2.1, mxI a.2.2.2.1 b.2.2.2.1, (bG a.2.2.2.2.1 a.2.2.2.2.2 b.2.2.2.2.1 b.2.2.2.2.2).1, (bG a.2.2.2.2.1 a.2.2.2.2.2 b.2.2.2.2.1 b.2.2.2.2.2).2)
theorem s6 {s n bf bn : Int} (hs : 0 ≤ s ∧ s < 256) (hn : 1 ≤ n) (hb : bD bf bn = true) : bD (dR s n bf bn).1 (dR s n bf bn).2 = true := by
 rw [bm] at hb ⊢
 unfold dR
 split <;> simp only <;> omega
theorem hullA_ok {f c f' c' : Int} (h : bD f c = true) (h' : bD f' c' = true) : bD (bG f c f' c').1 (bG f c f' c').2 = true := by
 have k := bm.1 h
 have k' := bm.1 h'
 unfold bG
 refine s6 k'.1 (by unfold aZ; omega) (s6 k.1 (by unfold aZ; omega) (by decide))
theorem hulB_ok {a b : T6} (ha : bJ a = true) (hb : bJ b = true) : bJ (dY a b) = true := by
 unfold bJ at *
 rw [bO] at *
 unfold dY mnI mxI
 simp only
 refine ⟨by omega, by omega, hullA_ok ha.2.2 hb.2.2⟩
def hlS (f c f2 c2 : Int) : Nat → Int × Int
 | 0 => (0, 256)
 | 1 => dR f (max (aZ f f c) (aZ f f2 c2)) 0 256
 | _ + 2 => bG f c f2 c2
theorem dG (f c f2 c2 : Int) : hlS f c f2 c2 2 = dR f2 (max (aZ f2 f c) (aZ f2 f2 c2)) (hlS f c f2 c2 1).1 (hlS f c f2 c2 1).2 := rfl
theorem max_i (a b : Int) : (if a < b then b else a) = max a b := by split <;> omega
theorem cU {l : List T6} {j : Nat} (h : j < l.length) : g6 l j ∈ l := by
 unfold g6; rw [List.getD_eq_getElem?_getD]; simp [h]
def stM (L : List Int) : Nat → List Bool
 | 0 => List.replicate 256 false
 | n + 1 => (stM L n).set (gi L n).toNat true
theorem g4 (L : List Int) : ∀ n : Nat, (stM L n).length = 256
 | 0 => List.length_replicate
 | n + 1 => by rw [stM, List.length_set, g4 L n]
theorem stM_get (L : List Int) (hL : ∀ j : Nat, j < L.length → 0 ≤ gi L j ∧ gi L j ≤ 255) (m : Nat) (hm : m < 256) : ∀ n : Nat, n ≤ L.length → (bget (stM L n) m = true ↔ ∃ j : Nat, j < n ∧ gi L j = (m : Int))
 | 0, _ => by
  have e : bget (stM L 0) m = false := by
   show (List.replicate 256 false).getD m false = false
   rw [List.getD_eq_getElem?_getD, List.getElem?_replicate]; split <;> rfl
  rw [e]
  exact ⟨fun h => (by cases h), fun ⟨j, hj, _⟩ => absurd hj (Nat.not_lt_zero j)⟩
 | n + 1, hn => by
  have ih := stM_get L hL m hm n (by omega)
  have hb := hL n (by omega)
  have e : bget (stM L (n + 1)) m = if (gi L n).toNat = m then true else bget (stM L n) m := by
   simp only [stM, bget, List.getD_eq_getElem?_getD, List.getElem?_set, g4]
   split
   ·simp [show (gi L n).toNat < 256 by omega]
   ·rfl
  rw [e]
  split
  ·rename_i h
   exact ⟨fun _ => ⟨n, by omega, by omega⟩, fun _ => rfl⟩
  ·rename_i h
   rw [ih]
   constructor
   ·rintro ⟨j, a, b⟩; exact ⟨j, by omega, b⟩
   ·rintro ⟨j, a, b⟩
    rcases (by omega : j < n ∨ j = n) with k | rfl
    ·exact ⟨j, k, b⟩
    ·omega
theorem lB {f : Int} {n j : Nat} (h : j < n) : gi (aJ f n) j = (f + (j : Int)) % 256 := by
 simp [gi, aJ, h, List.getD_eq_getElem?_getD]
def br (f c : Int) : List Bool := stM (aJ f c.toNat) c.toNat
theorem s7 (f c : Int) : (br f c).length = 256 := g4 _ _
theorem s8 {f c : Int} (h : bD f c = true) {m : Int} (hm : 0 ≤ m ∧ m < 256) : bget (br f c) m.toNat = decide ((m - f) % 256 < c) := by
 rw [bm] at h
 have hs := stM_get (aJ f c.toNat) (fun j hj => by rw [c7] at hj; rw [lB hj]; omega) m.toNat (by omega) c.toNat (by rw [c7]; exact Nat.le_refl _)
 rw [Bool.eq_iff_iff, decide_eq_true_eq]
 unfold br
 rw [hs]
 constructor
 ·rintro ⟨j, hj, e⟩; rw [lB hj] at e; omega
 ·intro k
  refine ⟨((m - f) % 256).toNat, by omega, ?_⟩
  rw [lB (by omega)]; omega
def cV (A B : List Bool) (m : Int) : Bool := bget A m.toNat || bget B m.toNat
theorem s9 {x y : Int → Bool} (h : ∀ m : Int, 0 ≤ m → m < 256 → x m = y m) (s : Int) : ∀ n : Nat, needN x s n = needN y s n
 | 0 => rfl
 | n + 1 => by rw [needN, needN, s9 h s n, h _ (by omega) (by omega)]
theorem ta {x y : Int → Bool} (h : ∀ m : Int, 0 ≤ m → m < 256 → x m = y m) : ∀ n : Nat, bestN x n = bestN y n
 | 0 => rfl
 | n + 1 => by simp only [bestN]; rw [ta h n, s9 h]
theorem best_hull {f c f' c' : Int} (h : bD f c = true) (h' : bD f' c' = true) : bestN (cV (br f c) (br f' c')) 256 = bG f c f' c' := by
 rw [← hull_eq h h']
 refine ta (fun m a b => ?_) 256
 unfold cV uniB
 rw [s8 h ⟨a, b⟩, s8 h' ⟨a, b⟩]
theorem gl (x : Int → Bool) (n : Nat) : bestN x (n + 1) = if needN x (255 - (n : Int)) 256 < 256 ∧ needN x (255 - (n : Int)) 256 ≤ (bestN x n).2 then (255 - (n : Int), needN x (255 - (n : Int)) 256) else bestN x n := rfl
theorem lZ (x : Int → Bool) (s : Int) (n : Nat) : needN x s (n + 1) = if x ((s + (n : Int)) % 256) = true then (n : Int) + 1 else needN x s n := rfl
open Go.RowKit
def shF (bf bc t : Int) : Int := arcF (bf + (((t % 256).toNat : Nat) : Int)) bc
def grF (F C n : Int) : Int := arcF (F - n) (C + 2 * n)
def grC (C n : Int) : Int := cE (C + 2 * n)
def mrkA (bf bc t tu : Int) : List Int := aJ (grF (shF bf bc t) (cE bc) tu) (grC (cE bc) tu).toNat
open Go.RowKit
set_option maxRecDepth 100000 in
theorem idx_int (H : ac) (s : AV) (l : List Int) (hs : Sl H 1 s l.length (ints .i64 l)) (hl : l.length ≤ 1000000000) (g : FuncId) (caps : List AV) (hok : dz Tryz.prog g = true) (hc : AV.bels H.length caps = true) (p : Int → Bool) (hf : ∀ j, j < l.length → ACalls Tryz.prog g (.int .i64 (gi l j) :: caps) H (fun v H' => v = .bool (p (gi l j)) ∧ H' = H)) :
  ACalls Tryz.prog 186 [s, .fn g caps] H (fun v H' => v = .int .i64 (ec p l) ∧ H' = H) := by
 obtain ⟨b, own, cap, rfl, hb⟩ := hs
 have hbl := getElem?_lt hb
 have hmv := fun m sel => fl (n := H.length) (m := m) (sel := sel) hc
 (refine b9 try_mixed Tryz.func186 true _ rfl (Nat.le_of_ble_eq_true (by kernel_rfl)) (by kernel_rfl) ?_; intro hbel Q hQ hQ' c hc; unfold Tryz.f186 at hc; simp only [Option.some.injEq] at hc; subst hc; clear hQ')
 simp -implicitDefEqProofs (disch := omega) only [simprocAttr, aF, aG, Function.comp_apply, one1, lenV, ap, az, aA, aop, AV.ofValue, AV.ofCell, AV.cells, AV.flat, AV.one, arep, aP, av, aE]
 refine go_loop try_mixed (by kernel_rfl) (fun k F Hx => ∃ i : Nat, i + k = l.length ∧ (l.take i).any p = false ∧ F = [(0, .sl (some (b, 0)) l.length none), (1, .fn g caps), (7, .int .i64 l.length), (8, .int .i64 (i : Nat))] ∧ Hx = H) l.length ?_ ?_
 ·refine ⟨_, _, _, ⟨0, by omega, rfl, rfl, rfl⟩, Abs.by0 hbel ?_⟩
  exact aV @hmv
 ·rintro k F Hx ⟨i, hik, ht, rfl, rfl⟩ J hJ
  by_cases hi : i < l.length
  ·have hii : (i : Int) < (l.length : Int) := by omega
   have q1 := dh (k := .i64) hi
   have hg := gi_eq hi
   simp -implicitDefEqProofs (disch := omega) only [hii, hb, q1, ck, cZ, simprocAttr, aF, aG, Function.comp_apply, one1, lenV, ap, az, aA, aop, AV.ofValue, AV.ofCell, AV.cells, AV.flat, AV.one, arep, aP, av, aE]
   refine And.intro (by omega) ?_
   refine af hok (hf i hi) ?_
   have hst := gA (p := p) hi
   rw [ht, Bool.false_or, ← hg] at hst
   cases h1 : p (gi l i)
   ·rw [h1] at hst
    simp -implicitDefEqProofs (disch := omega) only [h1, simprocAttr, aF, aG, Function.comp_apply, one1, lenV, ap, az, aA, aop, AV.ofValue, AV.ofCell, AV.cells, AV.flat, AV.one, arep, aP, av, aE]
    refine hJ _ _ ⟨k - 1, by omega, _, _, _, ⟨i + 1, by omega, hst, rfl, rfl⟩, Abs.by0 hbel ?_⟩
    exact aV @hmv
   ·simp -implicitDefEqProofs (disch := omega) only [h1, simprocAttr, aF, aG, Function.comp_apply, one1, lenV, ap, az, aA, aop, AV.ofValue, AV.ofCell, AV.cells, AV.flat, AV.one, arep, aP, av, aE]
    exact hQ _ _ (au (.inl rfl) hbel (x := .int .i64 (i : Nat)) (ai Tryz.results186) rfl ⟨by rw [gj hi ht (by rw [← hg]; exact h1)], rfl⟩)
  ·have hnn : ¬ ((i : Int) < (l.length : Int)) := by omega
   simp -implicitDefEqProofs (disch := omega) only [hnn, simprocAttr, aF, aG, Function.comp_apply, one1, lenV, ap, az, aA, aop, AV.ofValue, AV.ofCell, AV.cells, AV.flat, AV.one, arep, aP, av, aE]
   rw [List.take_of_length_le (by omega)] at ht
   exact hQ _ _ (au (.inl rfl) hbel (x := .int .i64 (-1)) (ai Tryz.results186) rfl ⟨by rw [ee ht], rfl⟩)
theorem has_int (H : ac) (s : AV) (l : List Int) (hs : Sl H 1 s l.length (ints .i64 l)) (hl : l.length ≤ 1000000000) (g : FuncId) (caps : List AV) (hok : dz Tryz.prog g = true) (hc : AV.bels H.length caps = true) (p : Int → Bool) (hf : ∀ j, j < l.length → ACalls Tryz.prog g (.int .i64 (gi l j) :: caps) H (fun v H' => v = .bool (p (gi l j)) ∧ H' = H)) :
  ACalls Tryz.prog 142 [s, .fn g caps] H (fun v H' => v = .bool (l.any p) ∧ H' = H) := by
 have key := idx_int H s l hs hl g caps hok hc p hf
 obtain ⟨b, own, cap, rfl, hb⟩ := hs
 have hbl := getElem?_lt hb
 (refine b9 try_mixed Tryz.func142 true _ rfl (Nat.le_of_ble_eq_true (by kernel_rfl)) (by kernel_rfl) ?_; intro hbel Q hQ hQ' c hc; unfold Tryz.f142 at hc; simp only [Option.some.injEq] at hc; subst hc; clear hQ')
 simp -implicitDefEqProofs (disch := omega) only [simprocAttr, aF, aG, Function.comp_apply, one1, lenV, ap, az, aA, aop, AV.ofValue, AV.ofCell, AV.cells, AV.flat, AV.one, arep, aP, av, aE]
 refine af (by kernel_rfl) key ?_
 simp -implicitDefEqProofs (disch := omega) only [simprocAttr, aF, aG, Function.comp_apply, one1, lenV, ap, az, aA, aop, AV.ofValue, AV.ofCell, AV.cells, AV.flat, AV.one, arep, aP, av, aE]
 exact hQ _ _ (au (.inl rfl) hbel (x := .bool (decide (0 ≤ ec p l))) (ai Tryz.results142) rfl ⟨by rw [ip], rfl⟩)
open Go.RowKit
set_option maxRecDepth 100000 in
theorem idx_box (H : ac) (s : AV) (l : List T6) (hs : Sl H 6 s l.length (r6 l)) (hl : l.length ≤ 1000000000) (g : FuncId) (caps : List AV) (hok : dz Tryz.prog g = true) (hc : AV.bels H.length caps = true) (p : T6 → Bool) (hf : ∀ j, j < l.length → ACalls Tryz.prog g (.agg [.int .i64 (g61 l j), .int .i64 (g62 l j), .int .i64 (g63 l j), .int .i64 (g64 l j), .int .i64 (g65 l j), .int .i64 (g66 l j)] :: caps) H (fun v H' => v = .bool (p (g61 l j, g62 l j, g63 l j, g64 l j, g65 l j, g66 l j)) ∧ H' = H)) :
  ACalls Tryz.prog 102 [s, .fn g caps] H (fun v H' => v = .int .i64 (ec p l) ∧ H' = H) := by
 obtain ⟨b, own, cap, rfl, hb⟩ := hs
 have hbl := getElem?_lt hb
 have hmv := fun m sel => fl (n := H.length) (m := m) (sel := sel) hc
 (refine b9 try_mixed Tryz.func102 true _ rfl (Nat.le_of_ble_eq_true (by kernel_rfl)) (by kernel_rfl) ?_; intro hbel Q hQ hQ' c hc; unfold Tryz.f102 at hc; simp only [Option.some.injEq] at hc; subst hc; clear hQ')
 simp -implicitDefEqProofs (disch := omega) only [simprocAttr, aF, aG, Function.comp_apply, one1, lenV, ap, az, aA, aop, AV.ofValue, AV.ofCell, AV.cells, AV.flat, AV.one, arep, aP, av, aE]
 refine go_loop try_mixed (by kernel_rfl) (fun k F Hx => ∃ i : Nat, i + k = l.length ∧ (l.take i).any p = false ∧ F = [(0, .sl (some (b, 0)) l.length none), (1, .fn g caps), (7, .int .i64 l.length), (8, .int .i64 (i : Nat))] ∧ Hx = H) l.length ?_ ?_
 ·refine ⟨_, _, _, ⟨0, by omega, rfl, rfl, rfl⟩, Abs.by0 hbel ?_⟩
  exact aV @hmv
 ·rintro k F Hx ⟨i, hik, ht, rfl, rfl⟩ J hJ
  by_cases hi : i < l.length
  ·have hii : (i : Int) < (l.length : Int) := by omega
   have q1 := cD hi
   have hg := g6_eq hi
   simp -implicitDefEqProofs (disch := omega) only [hii, hb, q1, bM, dw, simprocAttr, aF, aG, Function.comp_apply, one1, lenV, ap, az, aA, aop, AV.ofValue, AV.ofCell, AV.cells, AV.flat, AV.one, arep, aP, av, aE]
   iterate 2 refine And.intro (by omega) ?_
   refine af hok (hf i hi) ?_
   have hst := gA (p := p) hi
   rw [ht, Bool.false_or, ← hg] at hst
   cases h1 : p (g61 l i, g62 l i, g63 l i, g64 l i, g65 l i, g66 l i)
   ·rw [h1] at hst
    simp -implicitDefEqProofs (disch := omega) only [h1, simprocAttr, aF, aG, Function.comp_apply, one1, lenV, ap, az, aA, aop, AV.ofValue, AV.ofCell, AV.cells, AV.flat, AV.one, arep, aP, av, aE]
    refine hJ _ _ ⟨k - 1, by omega, _, _, _, ⟨i + 1, by omega, hst, rfl, rfl⟩, Abs.by0 hbel ?_⟩
    exact aV @hmv
   ·simp -implicitDefEqProofs (disch := omega) only [h1, simprocAttr, aF, aG, Function.comp_apply, one1, lenV, ap, az, aA, aop, AV.ofValue, AV.ofCell, AV.cells, AV.flat, AV.one, arep, aP, av, aE]
    exact hQ _ _ (au (.inl rfl) hbel (x := .int .i64 (i : Nat)) (ai Tryz.results102) rfl ⟨by rw [gj hi ht (by rw [← hg]; exact h1)], rfl⟩)
  ·have hnn : ¬ ((i : Int) < (l.length : Int)) := by omega
   simp -implicitDefEqProofs (disch := omega) only [hnn, simprocAttr, aF, aG, Function.comp_apply, one1, lenV, ap, az, aA, aop, AV.ofValue, AV.ofCell, AV.cells, AV.flat, AV.one, arep, aP, av, aE]
   rw [List.take_of_length_le (by omega)] at ht
   exact hQ _ _ (au (.inl rfl) hbel (x := .int .i64 (-1)) (ai Tryz.results102) rfl ⟨by rw [ee ht], rfl⟩)
theorem jz (H : ac) (s : AV) (l : List T6) (hs : Sl H 6 s l.length (r6 l)) (hl : l.length ≤ 1000000000) (g : FuncId) (caps : List AV) (hok : dz Tryz.prog g = true) (hc : AV.bels H.length caps = true) (p : T6 → Bool) (hf : ∀ j, j < l.length → ACalls Tryz.prog g (.agg [.int .i64 (g61 l j), .int .i64 (g62 l j), .int .i64 (g63 l j), .int .i64 (g64 l j), .int .i64 (g65 l j), .int .i64 (g66 l j)] :: caps) H (fun v H' => v = .bool (p (g61 l j, g62 l j, g63 l j, g64 l j, g65 l j, g66 l j)) ∧ H' = H)) :
  ACalls Tryz.prog 61 [s, .fn g caps] H (fun v H' => v = .bool (l.any p) ∧ H' = H) := by
 have key := idx_box H s l hs hl g caps hok hc p hf
 obtain ⟨b, own, cap, rfl, hb⟩ := hs
 have hbl := getElem?_lt hb
 (refine b9 try_mixed Tryz.func61 true _ rfl (Nat.le_of_ble_eq_true (by kernel_rfl)) (by kernel_rfl) ?_; intro hbel Q hQ hQ' c hc; unfold Tryz.f61 at hc; simp only [Option.some.injEq] at hc; subst hc; clear hQ')
 simp -implicitDefEqProofs (disch := omega) only [simprocAttr, aF, aG, Function.comp_apply, one1, lenV, ap, az, aA, aop, AV.ofValue, AV.ofCell, AV.cells, AV.flat, AV.one, arep, aP, av, aE]
 refine af (by kernel_rfl) key ?_
 simp -implicitDefEqProofs (disch := omega) only [simprocAttr, aF, aG, Function.comp_apply, one1, lenV, ap, az, aA, aop, AV.ofValue, AV.ofCell, AV.cells, AV.flat, AV.one, arep, aP, av, aE]
 exact hQ _ _ (au (.inl rfl) hbel (x := .bool (decide (0 ≤ ec p l))) (ai Tryz.results61) rfl ⟨by rw [ip], rfl⟩)
open Go.RowKit
set_option maxHeartbeats 4000000
set_option maxRecDepth 100000
theorem small1_c (H : ac) (n : Int) : ACalls Tryz.prog 143 [.int .i64 n] H (fun v H' => v = .bool (offB n) ∧ H' = H) := by
 refine AcT true Tryz.func143 ?_; intro hbel Q hQ
 refine aQ ?_
 refine al (fun h1 => ?_) (fun h1 => ?_)
 ·have h1d := bsT h1
  have g'1 := (jn @h1 @h1d)
  refine aa g'1 ?_
  exact hQ _ _ (au (.inl rfl) hbel (x := .bool (decide (1048576 < n))) (ai Tryz.results143) rfl ⟨by simp [offB, h1d], rfl⟩)
 ·have h1d := bsT h1
  have g'2 := (jn @h1 @h1d)
  refine aa g'2 ?_
  exact hQ _ _ (au (.inl rfl) hbel (x := .bool true) (ai Tryz.results143) rfl ⟨by simp [offB, h1d], rfl⟩)
theorem small_c (H : ac) (s : AV) (l : List Int) (hs : Sl H 1 s l.length (ints .i64 l)) (hl : l.length ≤ 1000000) : ACalls Tryz.prog 100 [s] H (fun v H' => v = .bool (!(l.any offB)) ∧ H' = H) := by
 obtain ⟨bs, os, cs, rfl, hbs⟩ := hs
 have hbls := getElem?_lt hbs
 have hb0s := fun l => aq (l := l) hbs
 refine AcT true Tryz.func100 ?_; intro hbel Q hQ
 have g'3 := (jn @hbs @hb0s)
 refine aa g'3 ?_
 refine af (by kernel_rfl) (has_int _ _ l ⟨_, _, _, rfl, by first | exact hb0s _ | exact hbs⟩ (by omega) _ [] (by kernel_rfl) rfl offB (fun j hj => small1_c _ _)) ?_
 refine aa g'3 ?_
 exact hQ _ _ (au (.inl rfl) hbel (x := .bool (!(l.any offB))) (ai Tryz.results100) rfl ⟨rfl, rfl⟩)
theorem g5 (H : ac) (f : Int) (c : Int) : ACalls Tryz.prog 101 [.agg [.int .i64 f, .int .i64 c]] H (fun v H' => v = .bool (bD f c) ∧ H' = H) := by
 refine AcT true Tryz.func101 ?_; intro hbel Q hQ
 refine aQ ?_
 refine al (fun h1 => ?_) (fun h1 => ?_)
 ·have h1d := bsT h1
  have g'4 := (jn @h1 @h1d)
  refine aa g'4 ?_
  refine al (fun h2 => ?_) (fun h2 => ?_)
  ·have h2d := bsT h2
   have g'5 := (jn @h2 (jn @h2d g'4))
   refine aa g'5 ?_
   refine al (fun h3 => ?_) (fun h3 => ?_)
   ·have h3d := bsT h3
    have g'6 := (jn @h3 (jn @h3d g'5))
    refine aa g'6 ?_
    refine al (fun h4 => ?_) (fun h4 => ?_)
    ·have h4d := bsT h4
     have g'7 := (jn @h4 (jn @h4d g'6))
     refine aa g'7 ?_
     refine al (fun h5 => ?_) (fun h5 => ?_)
     ·have h5d := bsT h5
      have h5n := bnT h5
      have g'8 := (jn @h5 (jn @h5n (jn @bg (jn @be g'7))))
      refine aa g'8 ?_
      exact hQ _ _ (ae (.inl rfl) hbel (x := .bool (decide (c < 256))) (ai Tryz.results101) rfl ⟨by first | (simp [bD, h1d, h2d, h3d, h4d, h5d]; done) | (simp [bD, h1d, h2d, h3d, h4d, h5d]; omega), rfl⟩)
     ·have h5d := bsT h5
      have h5n := bnT h5
      have g'9 := (jn @h5 (jn @h5n (jn @bg (jn @be g'7))))
      refine aa g'9 ?_
      exact hQ _ _ (ae (.inl rfl) hbel (x := .bool true) (ai Tryz.results101) rfl ⟨by first | (simp [bD, h1d, h2d, h3d, h4d, h5d]; done) | (simp [bD, h1d, h2d, h3d, h4d, h5d]; omega), rfl⟩)
    ·have h4d := bsT h4
     have g'10 := (jn @h4 (jn @h4d g'6))
     refine aa g'10 ?_
     exact hQ _ _ (ae (.inl rfl) hbel (x := .bool false) (ai Tryz.results101) rfl ⟨by first | (simp [bD, h1d, h2d, h3d, h4d]; done) | (simp [bD, h1d, h2d, h3d, h4d]; omega), rfl⟩)
   ·have h3d := bsT h3
    have g'11 := (jn @h3 (jn @h3d g'5))
    refine aa g'11 ?_
    exact hQ _ _ (ae (.inl rfl) hbel (x := .bool false) (ai Tryz.results101) rfl ⟨by first | (simp [bD, h1d, h2d, h3d]; done) | (simp [bD, h1d, h2d, h3d]; omega), rfl⟩)
  ·have h2d := bsT h2
   have g'12 := (jn @h2 (jn @h2d g'4))
   refine aa g'12 ?_
   exact hQ _ _ (ae (.inl rfl) hbel (x := .bool false) (ai Tryz.results101) rfl ⟨by first | (simp [bD, h1d, h2d]; done) | (simp [bD, h1d, h2d]; omega), rfl⟩)
 ·have h1d := bsT h1
  have g'13 := (jn @h1 @h1d)
  refine aa g'13 ?_
  exact hQ _ _ (ae (.inl rfl) hbel (x := .bool false) (ai Tryz.results101) rfl ⟨by first | (simp [bD, h1d]; done) | (simp [bD, h1d]; omega), rfl⟩)
theorem barc_c (H : ac) (f : Int) (c : Int) : ACalls Tryz.prog 134 [.agg [.int .i64 f, .int .i64 c]] H (fun v H' => v = .bool (bD f c) ∧ H' = H) := by
 refine AcT true Tryz.func134 ?_; intro hbel Q hQ
 refine aQ ?_
 refine al (fun h1 => ?_) (fun h1 => ?_)
 ·have h1d := bsT h1
  have g'14 := (jn @h1 @h1d)
  refine aa g'14 ?_
  refine al (fun h2 => ?_) (fun h2 => ?_)
  ·have h2d := bsT h2
   have g'15 := (jn @h2 (jn @h2d g'14))
   refine aa g'15 ?_
   refine al (fun h3 => ?_) (fun h3 => ?_)
   ·have h3d := bsT h3
    have g'16 := (jn @h3 (jn @h3d g'15))
    refine aa g'16 ?_
    refine al (fun h4 => ?_) (fun h4 => ?_)
    ·have h4d := bsT h4
     have g'17 := (jn @h4 (jn @h4d g'16))
     refine aa g'17 ?_
     refine al (fun h5 => ?_) (fun h5 => ?_)
     ·have h5d := bsT h5
      have g'18 := (jn @h5 (jn @h5d g'17))
      refine aa g'18 ?_
      exact hQ _ _ (ae (.inl rfl) hbel (x := .bool (f == 0)) (ai Tryz.results134) rfl ⟨by rw [← gk]; first | (simp [e7, h1d, h2d, h3d, h4d, h5d]; done) | (simp [e7, h1d, h2d, h3d, h4d, h5d]; omega), rfl⟩)
     ·have h5d := bsT h5
      have g'19 := (jn @h5 (jn @h5d g'17))
      refine aa g'19 ?_
      exact hQ _ _ (ae (.inl rfl) hbel (x := .bool true) (ai Tryz.results134) rfl ⟨by rw [← gk]; first | (simp [e7, h1d, h2d, h3d, h4d, h5d]; done) | (simp [e7, h1d, h2d, h3d, h4d, h5d]; omega), rfl⟩)
    ·have h4d := bsT h4
     have g'20 := (jn @h4 (jn @h4d g'16))
     refine aa g'20 ?_
     exact hQ _ _ (ae (.inl rfl) hbel (x := .bool false) (ai Tryz.results134) rfl ⟨by rw [← gk]; first | (simp [e7, h1d, h2d, h3d, h4d]; done) | (simp [e7, h1d, h2d, h3d, h4d]; omega), rfl⟩)
   ·have h3d := bsT h3
    have g'21 := (jn @h3 (jn @h3d g'15))
    refine aa g'21 ?_
    exact hQ _ _ (ae (.inl rfl) hbel (x := .bool false) (ai Tryz.results134) rfl ⟨by rw [← gk]; first | (simp [e7, h1d, h2d, h3d]; done) | (simp [e7, h1d, h2d, h3d]; omega), rfl⟩)
  ·have h2d := bsT h2
   have g'22 := (jn @h2 (jn @h2d g'14))
   refine aa g'22 ?_
   exact hQ _ _ (ae (.inl rfl) hbel (x := .bool false) (ai Tryz.results134) rfl ⟨by rw [← gk]; first | (simp [e7, h1d, h2d]; done) | (simp [e7, h1d, h2d]; omega), rfl⟩)
 ·have h1d := bsT h1
  have g'23 := (jn @h1 @h1d)
  refine aa g'23 ?_
  exact hQ _ _ (ae (.inl rfl) hbel (x := .bool false) (ai Tryz.results134) rfl ⟨by rw [← gk]; first | (simp [e7, h1d]; done) | (simp [e7, h1d]; omega), rfl⟩)
theorem ko (H : ac) (f : Int) (c : Int) : ACalls Tryz.prog 144 [.agg [.int .i64 f, .int .i64 c]] H (fun v H' => v = .bool (bD f c) ∧ H' = H) := by
 refine AcT true Tryz.func144 ?_; intro hbel Q hQ
 refine aQ ?_
 refine af (by kernel_rfl) (barc_c _ f c) ?_
 refine aQ ?_
 exact hQ _ _ (ae (.inl rfl) hbel (x := .bool (bD f c)) (ai Tryz.results144) rfl ⟨rfl, rfl⟩)
theorem e8 (H : ac) (x0 : Int) (y0 : Int) (x1 : Int) (y1 : Int) (f : Int) (c : Int) : ACalls Tryz.prog 98 [.agg [.int .i64 x0, .int .i64 y0, .int .i64 x1, .int .i64 y1, .int .i64 f, .int .i64 c]] H (fun v H' => v = .agg [.int .i64 f, .int .i64 c] ∧ H' = H) := by
 refine AcT true Tryz.func98 ?_; intro hbel Q hQ
 refine aQ ?_
 exact hQ _ _ (ae (.inl rfl) hbel (x := .agg [.int .i64 f, .int .i64 c]) (ai Tryz.results98) rfl ⟨rfl, rfl⟩)
theorem eQ (H : ac) (x0 : Int) (y0 : Int) (x1 : Int) (y1 : Int) (f : Int) (c : Int) : ACalls Tryz.prog 104 [.agg [.int .i64 x0, .int .i64 y0, .int .i64 x1, .int .i64 y1, .int .i64 f, .int .i64 c]] H (fun v H' => v = .agg [.int .i64 f, .int .i64 c] ∧ H' = H) := by
 refine AcT true Tryz.func104 ?_; intro hbel Q hQ
 refine aQ ?_
 exact hQ _ _ (ae (.inl rfl) hbel (x := .agg [.int .i64 f, .int .i64 c]) (ai Tryz.results104) rfl ⟨rfl, rfl⟩)
theorem eE (H : ac) (x0 : Int) (y0 : Int) (x1 : Int) (y1 : Int) (f : Int) (c : Int) : ACalls Tryz.prog 60 [.agg [.int .i64 x0, .int .i64 y0, .int .i64 x1, .int .i64 y1, .int .i64 f, .int .i64 c]] H (fun v H' => v = .bool (bxB x0 y0 x1 y1 f c) ∧ H' = H) := by
 refine AcT true Tryz.func60 ?_; intro hbel Q hQ
 refine aQ ?_
 refine al (fun h1 => ?_) (fun h1 => ?_)
 ·have h1d := bsT h1
  have g'24 := (jn @h1 @h1d)
  refine aa g'24 ?_
  refine al (fun h2 => ?_) (fun h2 => ?_)
  ·have h2d := bsT h2
   have g'25 := (jn @h2 (jn @h2d g'24))
   refine aa g'25 ?_
   refine af (by kernel_rfl) (small_c _ _ [x0, y0, x1, y1] ⟨_, _, _, by first | rfl | (rw [List.length_append]; done) | (rw [List.length_append]; rfl), by first | rfl | (rw [aj]; rfl) | (rw [ag]; rfl) | (rw [aj, ah]; rfl) | (rw [ag, ah]; rfl)⟩ (by first | decide | omega | simp)) ?_
   refine aa g'25 ?_
   refine al (fun h3 => ?_) (fun h3 => ?_)
   ·have h3d := bsT h3
    have g'26 := (jn @h3 (jn @h3d g'25))
    refine aa g'26 ?_
    refine af (by kernel_rfl) (e8 _ x0 y0 x1 y1 f c) ?_
    refine aa g'26 ?_
    refine af (by kernel_rfl) (g5 _ f c) ?_
    refine aa g'26 ?_
    exact hQ _ _ (ae (.inl rfl) hbel (x := .bool (bD f c)) (ai Tryz.results60) rfl ⟨by first | (simp [bxB, h1d, h2d, h3d]; done) | (unfold bxB; simp only [h1d, h2d, h3d]; rfl), rfl⟩)
   ·have h3d := bsT h3
    have g'27 := (jn @h3 (jn @h3d g'25))
    refine aa g'27 ?_
    exact hQ _ _ (ae (.inl rfl) hbel (x := .bool false) (ai Tryz.results60) rfl ⟨by first | (simp [bxB, h1d, h2d, h3d]; done) | (unfold bxB; simp only [h1d, h2d, h3d]; rfl), rfl⟩)
  ·have h2d := bsT h2
   have g'28 := (jn @h2 (jn @h2d g'24))
   refine aa g'28 ?_
   exact hQ _ _ (ae (.inl rfl) hbel (x := .bool false) (ai Tryz.results60) rfl ⟨by first | (simp [bxB, h1d, h2d]; done) | (unfold bxB; simp only [h1d, h2d]; rfl), rfl⟩)
 ·have h1d := bsT h1
  have g'29 := (jn @h1 @h1d)
  refine aa g'29 ?_
  exact hQ _ _ (ae (.inl rfl) hbel (x := .bool false) (ai Tryz.results60) rfl ⟨by first | (simp [bxB, h1d]; done) | (unfold bxB; simp only [h1d]; rfl), rfl⟩)
theorem bbx_c (H : ac) (x0 : Int) (y0 : Int) (x1 : Int) (y1 : Int) (f : Int) (c : Int) : ACalls Tryz.prog 91 [.agg [.int .i64 x0, .int .i64 y0, .int .i64 x1, .int .i64 y1, .int .i64 f, .int .i64 c]] H (fun v H' => v = .bool (bxB x0 y0 x1 y1 f c) ∧ H' = H) := by
 refine AcT true Tryz.func91 ?_; intro hbel Q hQ
 refine aQ ?_
 refine al (fun h1 => ?_) (fun h1 => ?_)
 ·have h1d := bsT h1
  have g'30 := (jn @h1 @h1d)
  refine aa g'30 ?_
  refine al (fun h2 => ?_) (fun h2 => ?_)
  ·have h2d := bsT h2
   have g'31 := (jn @h2 (jn @h2d g'30))
   refine aa g'31 ?_
   refine al (fun h3 => ?_) (fun h3 => ?_)
   ·have h3d := bsT h3
    have g'32 := (jn @h3 (jn @h3d g'31))
    refine aa g'32 ?_
    refine al (fun h4 => ?_) (fun h4 => ?_)
    ·have h4d := bsT h4
     have g'33 := (jn @h4 (jn @h4d g'32))
     refine aa g'33 ?_
     refine al (fun h5 => ?_) (fun h5 => ?_)
     ·have h5d := bsT h5
      have g'34 := (jn @h5 (jn @h5d g'33))
      refine aa g'34 ?_
      refine al (fun h6 => ?_) (fun h6 => ?_)
      ·have h6d := bsT h6
       have g'35 := (jn @h6 (jn @h6d g'34))
       refine aa g'35 ?_
       refine af (by kernel_rfl) (barc_c _ f c) ?_
       refine aa g'35 ?_
       exact hQ _ _ (ae (.inl rfl) hbel (x := .bool (bD f c)) (ai Tryz.results91) rfl ⟨by rw [← gC]; simp [bxR, h1d, h2d, h3d, h4d, h5d, h6d], rfl⟩)
      ·have h6d := bsT h6
       have g'36 := (jn @h6 (jn @h6d g'34))
       refine aa g'36 ?_
       exact hQ _ _ (ae (.inl rfl) hbel (x := .bool false) (ai Tryz.results91) rfl ⟨by rw [← gC]; simp [bxR, h1d, h2d, h3d, h4d, h5d, h6d], rfl⟩)
     ·have h5d := bsT h5
      have g'37 := (jn @h5 (jn @h5d g'33))
      refine aa g'37 ?_
      exact hQ _ _ (ae (.inl rfl) hbel (x := .bool false) (ai Tryz.results91) rfl ⟨by rw [← gC]; simp [bxR, h1d, h2d, h3d, h4d, h5d], rfl⟩)
    ·have h4d := bsT h4
     have g'38 := (jn @h4 (jn @h4d g'32))
     refine aa g'38 ?_
     exact hQ _ _ (ae (.inl rfl) hbel (x := .bool false) (ai Tryz.results91) rfl ⟨by rw [← gC]; simp [bxR, h1d, h2d, h3d, h4d], rfl⟩)
   ·have h3d := bsT h3
    have g'39 := (jn @h3 (jn @h3d g'31))
    refine aa g'39 ?_
    exact hQ _ _ (ae (.inl rfl) hbel (x := .bool false) (ai Tryz.results91) rfl ⟨by rw [← gC]; simp [bxR, h1d, h2d, h3d], rfl⟩)
  ·have h2d := bsT h2
   have g'40 := (jn @h2 (jn @h2d g'30))
   refine aa g'40 ?_
   exact hQ _ _ (ae (.inl rfl) hbel (x := .bool false) (ai Tryz.results91) rfl ⟨by rw [← gC]; simp [bxR, h1d, h2d], rfl⟩)
 ·have h1d := bsT h1
  have g'41 := (jn @h1 @h1d)
  refine aa g'41 ?_
  exact hQ _ _ (ae (.inl rfl) hbel (x := .bool false) (ai Tryz.results91) rfl ⟨by rw [← gC]; simp [bxR, h1d], rfl⟩)
theorem bset_c (H : ac) (s : AV) (l : List T6) (hs : Sl H 6 s l.length (r6 l)) (hl : l.length ≤ 1000000000) : ACalls Tryz.prog 64 [s] H (fun v H' => v = .bool (bX l) ∧ H' = H) := by
 obtain ⟨bs, os, cs, rfl, hbs⟩ := hs
 have hbls := getElem?_lt hbs
 have hb0s := fun l => aq (l := l) hbs
 refine AcT true Tryz.func64 ?_; intro hbel Q hQ
 have g'42 := (jn @hbs @hb0s)
 refine aa g'42 ?_
 refine ak (fun h1 => ?_) (fun h1 => ?_)
 ·have h1d := bsT h1
  have hfinS : bX l = false := by unfold bX; rw [decide_eq_false (by omega)]; rfl
  have g'43 := (jn @h1 (jn @h1d g'42))
  refine aa g'43 ?_
  exact hQ _ _ (au (.inl rfl) hbel (x := .bool false) (ai Tryz.results64) rfl ⟨by first | (rw [hfinS]; done) | (simp [bX, h1d, hfinS]; done), rfl⟩)
 ·have h1d := bsT h1
  have g'44 := (jn @h1 (jn @h1d g'42))
  refine aa g'44 ?_
  refine go_loop try_mixed (by kernel_rfl) (fun k F Hx => ∃ i : Nat, i + k = l.length ∧ (∀ j : Nat, j < i → bJ (g6 l j) = true) ∧ F = [(0, .sl (some (bs, 0)) l.length cs), (3, .int .i64 ((i : Nat) : Int))] ∧ H = Hx) (l.length) ?_ ?_
  ·refine ⟨_, _, _, ⟨0, by omega, fun j h => by omega, rfl, rfl⟩, Abs.by0 hbel ?_⟩
   exact aW
  ·rintro k0 F Hx ⟨i, hm0, hal, rfl, rfl⟩ J0 hJ0
   refine aa g'44 ?_
   refine ak (fun h2 => ?_) (fun h2 => ?_)
   ·have h2d := bsT h2
    have q3 := cD (l := l) (j := i) (by omega)
    have g'45 := (jn @h2 (jn @h2d (jn @bM (jn @q3 g'44))))
    refine aa g'45 ?_
    refine af (by kernel_rfl) (bbx_c _ (g61 l i) (g62 l i) (g63 l i) (g64 l i) (g65 l i) (g66 l i)) ?_
    refine aa g'45 ?_
    refine ak (fun h4 => ?_) (fun h4 => ?_)
    ·have h4d := bsT h4
     have hfinS : bX l = false := by
      rw [← Bool.not_eq_true, bY]; intro hh
      have := hh.2 (g6 l i) (cU (by omega))
      exact absurd (this.symm.trans h4d) (by decide)
     have g'46 := (jn @h4 (jn @h4d g'45))
     refine aa g'46 ?_
     exact hQ _ _ (au (.inl rfl) hbel (x := .bool false) (ai Tryz.results64) rfl ⟨by first | (rw [hfinS]; done) | (simp [bX, h1d, h2d, h4d, hfinS]; done), rfl⟩)
    ·have h4d := bsT h4
     have hbi : bJ (g6 l i) = true := h4d
     have g'47 := (jn @h4 (jn @h4d g'45))
     refine aa g'47 ?_
     refine hJ0 _ _ ⟨k0 - 1, by omega, _, _, _, ⟨i + 1, by omega, fun j hj => by
           rcases Nat.lt_or_ge j i with h | h
           ·exact hal j h
           ·rw [show j = i by omega]; exact hbi, rfl, rfl⟩, Abs.by0 hbel ?_⟩
     exact aW
   ·have h2d := bsT h2
    have hfinS : bX l = true := bY.2 ⟨by omega, fun b hb => by
     obtain ⟨j, hj, e⟩ := List.mem_iff_getElem.1 hb
     rw [← e, ← g6_eq hj]; exact hal j (by omega)⟩
    have g'48 := (jn @h2 (jn @h2d g'44))
    refine aa g'48 ?_
    exact hQ _ _ (au (.inl rfl) hbel (x := .bool true) (ai Tryz.results64) rfl ⟨by first | (rw [hfinS]; done) | (simp [bX, h1d, h2d, hfinS]; done), rfl⟩)
theorem iq (H : ac) (s : Int) (f : Int) (c : Int) (k1 : 0 ≤ s ∧ s ≤ 255) (k2 : 0 ≤ f ∧ f ≤ 255) (k3 : 0 ≤ c ∧ c ≤ 256) : ACalls Tryz.prog 141 [.int .i64 s, .agg [.int .i64 f, .int .i64 c]] H (fun v H' => v = .int .i64 (aZ s f c) ∧ H' = H) := by
 refine AcT true Tryz.func141 ?_; intro hbel Q hQ
 refine aQ ?_
 refine aB (by kernel_rfl) (jb _ (f - s)) ?_
 refine aQ ?_
 exact hQ _ _ (ae (.inl rfl) hbel (x := .int .i64 (((((f - s) % 256).toNat : Nat) : Int) + c)) (ai Tryz.results141) rfl ⟨congrArg (AV.int .i64) (by unfold aZ; omega), rfl⟩)
theorem jA (H : ac) (f : Int) (c : Int) (f2 : Int) (c2 : Int) (ha : bD f c = true) (hb : bD f2 c2 = true) : ACalls Tryz.prog 97 [.agg [.int .i64 f, .int .i64 c], .agg [.int .i64 f2, .int .i64 c2]] H (fun v H' => v = .tup [.agg [.int .i64 ((bG f c f2 c2).1), .int .i64 ((bG f c f2 c2).2)], .int .i64 0] ∧ H' = H) := by
 have ka := bm.1 ha
 have kb := bm.1 hb
 have hm1 := max_i (aZ f f c) (aZ f f2 c2)
 have hm2 := max_i (aZ f2 f c) (aZ f2 f2 c2)
 have hz0 : (hlS f c f2 c2 0).2 = 256 ∧ (hlS f c f2 c2 0).1 = 0 := ⟨rfl, rfl⟩
 have hc1 : aZ f f c = c := by unfold aZ; omega
 have hc2 : aZ f2 f2 c2 = c2 := by unfold aZ; omega
 have hc3 : 1 ≤ aZ f f2 c2 ∧ aZ f f2 c2 ≤ 511 := by unfold aZ; omega
 have hc4 : 1 ≤ aZ f2 f c ∧ aZ f2 f c ≤ 511 := by unfold aZ; omega
 refine AcT true Tryz.func97 ?_; intro hbel Q hQ
 have g'49 := (jn @hm1 (jn @hm2 (jn @ha @hb)))
 refine aa g'49 ?_
 refine af (by kernel_rfl) (g5 _ f c) ?_
 refine aa g'49 ?_
 refine af (by kernel_rfl) (g5 _ f2 c2) ?_
 refine aa g'49 ?_
 refine go_loop try_mixed (by kernel_rfl) (fun k F Hx => ∃ j : Nat, j + k = 2 ∧ F = [(2, .ptr (some (H.length, 0))), (3, .ptr (some (H.length + 1, 0))), (4, .ptr (some (H.length + 2, 0))), (6, .ptr (some (H.length + 3, 0))), (24, .agg [.int .i64 f, .int .i64 f2]), (25, .int .i64 ((j : Nat) : Int))] ∧ Hx = H ++ [.cells true 0 [.int .i64 f, .int .i64 c], .cells true 0 [.int .i64 f2, .int .i64 c2], .cells true 0 [.int .i64 0, .int .i64 0], .cells true 0 [.int .i64 ((hlS f c f2 c2 j).1), .int .i64 ((hlS f c f2 c2 j).2)]]) (2) ?_ ?_
 ·refine ⟨_, _, _, ⟨0, by omega, rfl, rfl⟩, Abs.byG hbel [] rfl [0, 1, 2, 3] (by decide) ?_⟩
  exact aV (jn @hlS.eq_1 @Int.natCast_zero)
 ·rintro k0 F Hx ⟨j, hm0, rfl, rfl⟩ J0 hJ0
  refine aa g'49 ?_
  refine ak (fun h1 => ?_) (fun h1 => ?_)
  ·have h1d := bsT h1
   obtain rfl | rfl := (by omega : j = 0 ∨ j = 1)
   ·skip
    have g'50 := (jn @h1 (jn @h1d g'49))
    refine aa g'50 ?_
    refine aB (by kernel_rfl) (iq _ f f c (by omega) (by omega) (by omega)) ?_
    refine aa g'50 ?_
    refine aB (by kernel_rfl) (iq _ f f2 c2 (by omega) (by omega) (by omega)) ?_
    refine aa g'50 ?_
    refine al (fun h2 => ?_) (fun h2 => ?_)
    ·have h2d := bsT h2
     have g'51 := (jn @h2 (jn @h2d g'50))
     refine aa g'51 ?_
     refine al (fun h3 => ?_) (fun h3 => ?_)
     ·have h3d := bsT h3
      have h3n := bnT h3
      have he0 : max (aZ f f c) (aZ f f2 c2) = (hlS f c f2 c2 0).2 := by simpa using h3d
      have g'52 := (jn @h3 (jn @h3n (jn @bg (jn @be g'51))))
      refine aa g'52 ?_
      refine al (fun h4 => ?_) (fun h4 => ?_)
      ·have h4d := bsT h4
       omega
      ·have h4d := bsT h4
       have g'53 := (jn @h4 (jn @h4d g'52))
       refine aa g'53 ?_
       first | (have hst : hlS f c f2 c2 (0 + 1) = (f, max (aZ f f c) (aZ f f2 c2)) := if_pos (by omega)) | (have hst : hlS f c f2 c2 (0 + 1) = (0, 256) := if_neg (by omega)) | (have hst : hlS f c f2 c2 (1 + 1) = (f2, max (aZ f2 f c) (aZ f2 f2 c2)) := (dG f c f2 c2).trans (if_pos (by omega))) | (have hst : hlS f c f2 c2 (1 + 1) = hlS f c f2 c2 1 := (dG f c f2 c2).trans (if_neg (by omega)))
       refine hJ0 _ _ ⟨k0 - 1, by omega, _, _, _, ⟨0 + 1, by omega, rfl, rfl⟩, Abs.byG hbel [] rfl [0, 1, 2, 3] (by decide) ?_⟩
       exact aV @hst
     ·have h3d := bsT h3
      have h3n := bnT h3
      have g'54 := (jn @h3 (jn @h3n (jn @bg (jn @be g'51))))
      refine aa g'54 ?_
      first | (have hst : hlS f c f2 c2 (0 + 1) = (f, max (aZ f f c) (aZ f f2 c2)) := if_pos (by omega)) | (have hst : hlS f c f2 c2 (0 + 1) = (0, 256) := if_neg (by omega)) | (have hst : hlS f c f2 c2 (1 + 1) = (f2, max (aZ f2 f c) (aZ f2 f2 c2)) := (dG f c f2 c2).trans (if_pos (by omega))) | (have hst : hlS f c f2 c2 (1 + 1) = hlS f c f2 c2 1 := (dG f c f2 c2).trans (if_neg (by omega)))
      refine hJ0 _ _ ⟨k0 - 1, by omega, _, _, _, ⟨0 + 1, by omega, rfl, rfl⟩, Abs.byG hbel [] rfl [0, 1, 2, 3] (by decide) ?_⟩
      exact aV @hst
    ·have h2d := bsT h2
     have g'55 := (jn @h2 (jn @h2d g'50))
     refine aa g'55 ?_
     first | (have hst : hlS f c f2 c2 (0 + 1) = (f, max (aZ f f c) (aZ f f2 c2)) := if_pos (by omega)) | (have hst : hlS f c f2 c2 (0 + 1) = (0, 256) := if_neg (by omega)) | (have hst : hlS f c f2 c2 (1 + 1) = (f2, max (aZ f2 f c) (aZ f2 f2 c2)) := (dG f c f2 c2).trans (if_pos (by omega))) | (have hst : hlS f c f2 c2 (1 + 1) = hlS f c f2 c2 1 := (dG f c f2 c2).trans (if_neg (by omega)))
     refine hJ0 _ _ ⟨k0 - 1, by omega, _, _, _, ⟨0 + 1, by omega, rfl, rfl⟩, Abs.byG hbel [] rfl [0, 1, 2, 3] (by decide) ?_⟩
     exact aV @hst
   ·skip
    have g'56 := (jn @h1 (jn @h1d g'49))
    refine aa g'56 ?_
    refine aB (by kernel_rfl) (iq _ f2 f c (by omega) (by omega) (by omega)) ?_
    refine aa g'56 ?_
    refine aB (by kernel_rfl) (iq _ f2 f2 c2 (by omega) (by omega) (by omega)) ?_
    refine aa g'56 ?_
    refine al (fun h5 => ?_) (fun h5 => ?_)
    ·have h5d := bsT h5
     have g'57 := (jn @h5 (jn @h5d g'56))
     refine aa g'57 ?_
     refine al (fun h6 => ?_) (fun h6 => ?_)
     ·have h6d := bsT h6
      have h6n := bnT h6
      have he1 : max (aZ f2 f c) (aZ f2 f2 c2) = (hlS f c f2 c2 1).2 := by simpa using h6d
      have g'58 := (jn @h6 (jn @h6n (jn @bg (jn @be g'57))))
      refine aa g'58 ?_
      refine al (fun h7 => ?_) (fun h7 => ?_)
      ·have h7d := bsT h7
       have g'59 := (jn @h7 (jn @h7d g'58))
       refine aa g'59 ?_
       refine ak (fun h8 => ?_) (fun h8 => ?_)
       ·have h8d := bsT h8
        have g'60 := (jn @h8 (jn @h8d g'59))
        refine aa g'60 ?_
        first | (have hst : hlS f c f2 c2 (0 + 1) = (f, max (aZ f f c) (aZ f f2 c2)) := if_pos (by omega)) | (have hst : hlS f c f2 c2 (0 + 1) = (0, 256) := if_neg (by omega)) | (have hst : hlS f c f2 c2 (1 + 1) = (f2, max (aZ f2 f c) (aZ f2 f2 c2)) := (dG f c f2 c2).trans (if_pos (by omega))) | (have hst : hlS f c f2 c2 (1 + 1) = hlS f c f2 c2 1 := (dG f c f2 c2).trans (if_neg (by omega)))
        refine hJ0 _ _ ⟨k0 - 1, by omega, _, _, _, ⟨1 + 1, by omega, rfl, rfl⟩, Abs.byG hbel [] rfl [0, 1, 2, 3] (by decide) ?_⟩
        exact aV @hst
       ·have h8d := bsT h8
        have g'61 := (jn @h8 (jn @h8d g'59))
        refine aa g'61 ?_
        first | (have hst : hlS f c f2 c2 (0 + 1) = (f, max (aZ f f c) (aZ f f2 c2)) := if_pos (by omega)) | (have hst : hlS f c f2 c2 (0 + 1) = (0, 256) := if_neg (by omega)) | (have hst : hlS f c f2 c2 (1 + 1) = (f2, max (aZ f2 f c) (aZ f2 f2 c2)) := (dG f c f2 c2).trans (if_pos (by omega))) | (have hst : hlS f c f2 c2 (1 + 1) = hlS f c f2 c2 1 := (dG f c f2 c2).trans (if_neg (by omega)))
        refine hJ0 _ _ ⟨k0 - 1, by omega, _, _, _, ⟨1 + 1, by omega, rfl, rfl⟩, Abs.byG hbel [] rfl [0, 1, 2, 3] (by decide) ?_⟩
        exact aV @hst
      ·have h7d := bsT h7
       have g'62 := (jn @h7 (jn @h7d g'58))
       refine aa g'62 ?_
       first | (have hst : hlS f c f2 c2 (0 + 1) = (f, max (aZ f f c) (aZ f f2 c2)) := if_pos (by omega)) | (have hst : hlS f c f2 c2 (0 + 1) = (0, 256) := if_neg (by omega)) | (have hst : hlS f c f2 c2 (1 + 1) = (f2, max (aZ f2 f c) (aZ f2 f2 c2)) := (dG f c f2 c2).trans (if_pos (by omega))) | (have hst : hlS f c f2 c2 (1 + 1) = hlS f c f2 c2 1 := (dG f c f2 c2).trans (if_neg (by omega)))
       refine hJ0 _ _ ⟨k0 - 1, by omega, _, _, _, ⟨1 + 1, by omega, rfl, rfl⟩, Abs.byG hbel [] rfl [0, 1, 2, 3] (by decide) ?_⟩
       exact aV @hst
     ·have h6d := bsT h6
      have h6n := bnT h6
      have he1 : ¬ max (aZ f2 f c) (aZ f2 f2 c2) = (hlS f c f2 c2 1).2 := by simpa using h6d
      have g'63 := (jn @h6 (jn @h6n (jn @bg (jn @be g'57))))
      refine aa g'63 ?_
      first | (have hst : hlS f c f2 c2 (0 + 1) = (f, max (aZ f f c) (aZ f f2 c2)) := if_pos (by omega)) | (have hst : hlS f c f2 c2 (0 + 1) = (0, 256) := if_neg (by omega)) | (have hst : hlS f c f2 c2 (1 + 1) = (f2, max (aZ f2 f c) (aZ f2 f2 c2)) := (dG f c f2 c2).trans (if_pos (by omega))) | (have hst : hlS f c f2 c2 (1 + 1) = hlS f c f2 c2 1 := (dG f c f2 c2).trans (if_neg (by omega)))
      refine hJ0 _ _ ⟨k0 - 1, by omega, _, _, _, ⟨1 + 1, by omega, rfl, rfl⟩, Abs.byG hbel [] rfl [0, 1, 2, 3] (by decide) ?_⟩
      exact aV @hst
    ·have h5d := bsT h5
     have g'64 := (jn @h5 (jn @h5d g'56))
     refine aa g'64 ?_
     first | (have hst : hlS f c f2 c2 (0 + 1) = (f, max (aZ f f c) (aZ f f2 c2)) := if_pos (by omega)) | (have hst : hlS f c f2 c2 (0 + 1) = (0, 256) := if_neg (by omega)) | (have hst : hlS f c f2 c2 (1 + 1) = (f2, max (aZ f2 f c) (aZ f2 f2 c2)) := (dG f c f2 c2).trans (if_pos (by omega))) | (have hst : hlS f c f2 c2 (1 + 1) = hlS f c f2 c2 1 := (dG f c f2 c2).trans (if_neg (by omega)))
     refine hJ0 _ _ ⟨k0 - 1, by omega, _, _, _, ⟨1 + 1, by omega, rfl, rfl⟩, Abs.byG hbel [] rfl [0, 1, 2, 3] (by decide) ?_⟩
     exact aV @hst
  ·have h1d := bsT h1
   obtain rfl : j = 2 := by omega
   have g'65 := (jn @h1 (jn @h1d g'49))
   refine aa g'65 ?_
   exact hQ _ _ (ae (.inl rfl) hbel (x := .tup [.agg [.int .i64 ((hlS f c f2 c2 2).1), .int .i64 ((hlS f c f2 c2 2).2)], .int .i64 0]) (ai Tryz.results97) rfl ⟨rfl, rfl⟩)
open Go.RowKit
theorem mrkL_0 (f : Int) : aJ f 0 = [] := rfl
theorem rlist_c (H : ac) (f : Int) (c : Int) (ha : bD f c = true) : ACalls Tryz.prog 153 [.agg [.int .i64 f, .int .i64 c]] H (fun v H' => v = .sl (some (H.length, 0)) ((aJ f c.toNat).length) (bb (aJ f c.toNat).length) ∧ H' = H ++ [.cells (aX (aJ f c.toNat).length) 1 (ints .i64 (aJ f c.toNat))]) := by
 have ka := bm.1 ha
 refine AcT true Tryz.func153 ?_; intro hbel Q hQ
 have g'1 := @ha
 refine aa g'1 ?_
 refine af (by kernel_rfl) (ko _ f c) ?_
 refine aa g'1 ?_
 refine go_loop try_mixed (by kernel_rfl) (fun k F Hx => ∃ i : Nat, i + k = c.toNat ∧ F = [(1, .ptr (some (H.length, 0))), (3, .sl (some (H.length + 1, 0)) ((aJ f i).length) (bb (aJ f i).length)), (4, .int .i64 ((i : Nat) : Int))] ∧ Hx = H ++ [.cells true 0 [.int .i64 f, .int .i64 c], .cells (aX (aJ f i).length) 1 (ints .i64 (aJ f i))]) (c.toNat) ?_ ?_
 ·refine ⟨_, _, _, ⟨0, by omega, rfl, rfl⟩, Abs.byG hbel [.cells false 1 []] rfl [0, 1] (by decide) ?_⟩
  exact aD @mrkL_0
 ·rintro k0 F Hx ⟨i, hm0, rfl, rfl⟩ J0 hJ0
  have htm : Int.tmod (f + ((i : Nat) : Int)) 256 = (f + ((i : Nat) : Int)) % 256 := by rw [Int.tmod_eq_emod_of_nonneg (by omega)]
  have hln := c7 f i
  have g'2 := (jn @htm (jn @ck (jn @cZ g'1)))
  refine aa g'2 ?_
  refine ak (fun h1 => ?_) (fun h1 => ?_)
  ·have h1d := bsT h1
   have g'3 := (jn @h1 (jn @h1d (jn @bp (jn @dU g'2))))
   refine aa g'3 ?_
   refine hJ0 _ _ ⟨k0 - 1, by omega, _, _, _, ⟨i + 1, by omega, rfl, rfl⟩, Abs.byG hbel [] rfl [0, 3] (by decide) ?_⟩
   exact aD @pr
  ·have h1d := bsT h1
   obtain rfl : i = c.toNat := by omega
   have g'4 := (jn @h1 (jn @h1d g'2))
   refine aa g'4 ?_
   refine hQ _ _ (aY (.inl rfl) hbel (x1 := .sl (some (H.length + 1, 0)) ((aJ f c.toNat).length) (bb (aJ f c.toNat).length)) (l2 := [.cells (aX (aJ f c.toNat).length) 1 (ints .i64 (aJ f c.toNat))]) (.sl (some (H.length, 0)) ((aJ f c.toNat).length) (bb (aJ f c.toNat).length)) (ai Tryz.results153) [] rfl [1] (by decide) ⟨rfl, rfl⟩ ?_)
   exact aW
theorem rset_c (H : ac) (f : Int) (c : Int) (ha : bD f c = true) : ACalls Tryz.prog 145 [.agg [.int .i64 f, .int .i64 c]] H (fun v H' => v = .sl (some (H.length, 0)) 256 none ∧ H' = H ++ [.cells true 1 (cz (br f c))]) := by
 have ka := bm.1 ha
 have hln := c7 f c.toNat
 refine AcT true Tryz.func145 ?_; intro hbel Q hQ
 have g'5 := (jn @iT @List.length_replicate.{0})
 refine aa g'5 ?_
 refine af (by kernel_rfl) (rlist_c _ f c (by assumption)) ?_
 refine aa g'5 ?_
 refine go_loop try_mixed (by kernel_rfl) (fun k F Hx => ∃ i : Nat, i + k = c.toNat ∧ F = [(3, .sl (some (H.length + 1, 0)) ((stM (aJ f c.toNat) i).length) none), (4, .sl (some (H.length, 0)) ((aJ f c.toNat).length) (bb (aJ f c.toNat).length)), (5, .int .i64 ((i : Nat) : Int))] ∧ Hx = H ++ [.cells (aX (aJ f c.toNat).length) 1 (ints .i64 (aJ f c.toNat)), .cells true 1 (cz (stM (aJ f c.toNat) i))]) (c.toNat) ?_ ?_
 ·refine ⟨_, _, _, ⟨0, by omega, rfl, rfl⟩, Abs.byG hbel [] rfl [2, 1] (by decide) ?_⟩
  exact aD (jn @stM.eq_1 @List.length_replicate.{0})
 ·rintro k0 F Hx ⟨i, hm0, rfl, rfl⟩ J0 hJ0
  have hsl := g4 (aJ f c.toNat) i
  have g'6 := (jn @ck (jn @cZ (jn @gK (jn @o6 g'5))))
  refine aa g'6 ?_
  refine ak (fun h1 => ?_) (fun h1 => ?_)
  ·have h1d := bsT h1
   have hgb : 0 ≤ gi (aJ f c.toNat) i ∧ gi (aJ f c.toNat) i ≤ 255 := by rw [lB (by omega)]; omega
   have q2 := dh (k := .i64) (xs := aJ f c.toNat) (j := i) (by omega)
   have g'7 := (jn @h1 (jn @h1d (jn @q2 (jn @iS (jn @List.length_set.{0} g'6)))))
   refine aa g'7 ?_
   refine hJ0 _ _ ⟨k0 - 1, by omega, _, _, _, ⟨i + 1, by omega, rfl, rfl⟩, Abs.byG hbel [] rfl [0, 1] (by decide) ?_⟩
   exact aD (jn @stM.eq_2 @List.length_set.{0})
  ·have h1d := bsT h1
   obtain rfl : i = c.toNat := by omega
   have g'8 := (jn @h1 (jn @h1d g'6))
   refine aa g'8 ?_
   refine hQ _ _ (aY (.inl rfl) hbel (x1 := .sl (some (H.length + 1, 0)) ((stM (aJ f c.toNat) c.toNat).length) none) (l2 := [.cells true 1 (cz (stM (aJ f c.toNat) c.toNat))]) (.sl (some (H.length, 0)) ((stM (aJ f c.toNat) c.toNat).length) none) (ai Tryz.results145) [] rfl [1] (by decide) ⟨by rw [g4], rfl⟩ ?_)
   exact aW
theorem ir (H : ac) (f : Int) (c : Int) (f2 : Int) (c2 : Int) (ha : bD f c = true) (hb : bD f2 c2 = true) : ACalls Tryz.prog 103 [.agg [.int .i64 f, .int .i64 c], .agg [.int .i64 f2, .int .i64 c2]] H (fun v H' => v = .tup [.agg [.int .i64 ((bG f c f2 c2).1), .int .i64 ((bG f c f2 c2).2)], .int .i64 0] ∧ H' = H) := by
 have hs1 := s7 f c
 have hs2 := s7 f2 c2
 have hbh := best_hull ha hb
 refine AcT true Tryz.func103 ?_; intro hbel Q hQ
 have g'9 := (jn @ha @hb)
 refine aa g'9 ?_
 refine af (by kernel_rfl) (ko _ f c) ?_
 refine aa g'9 ?_
 refine af (by kernel_rfl) (ko _ f2 c2) ?_
 refine aa g'9 ?_
 refine af (by kernel_rfl) (rset_c _ f c (by assumption)) ?_
 refine aa g'9 ?_
 refine af (by kernel_rfl) (rset_c _ f2 c2 (by assumption)) ?_
 refine aa g'9 ?_
 refine go_loop try_mixed (by kernel_rfl) (fun k F Hx => ∃ n : Nat, n + k = 256 ∧ F = [(4, .ptr (some (H.length, 0))), (6, .sl (some (H.length + 1, 0)) 256 none), (7, .sl (some (H.length + 2, 0)) 256 none), (8, .ptr (some (H.length + 3, 0))), (9, .int .i64 (255 - ((n : Nat) : Int)))] ∧ Hx = H ++ [.cells true 0 [.int .i64 0, .int .i64 0], .cells true 1 (cz (br f c)), .cells true 1 (cz (br f2 c2)), .cells true 0 [.int .i64 ((bestN (cV (br f c) (br f2 c2)) n).1), .int .i64 ((bestN (cV (br f c) (br f2 c2)) n).2)]]) (256) ?_ ?_
 ·refine ⟨_, _, _, ⟨0, by omega, rfl, rfl⟩, Abs.byG hbel [] rfl [2, 3, 4, 5] (by decide) ?_⟩
  exact aD (jn @bestN.eq_1 (jn @Int.natCast_zero @Int.sub_zero))
 ·rintro k0 F Hx ⟨n, hm0, rfl, rfl⟩ J0 hJ0
  have g'10 := (jn @gK (jn @o6 g'9))
  refine aa g'10 ?_
  refine ak (fun h1 => ?_) (fun h1 => ?_)
  ·have h1d := bsT h1
   have g'11 := (jn @h1 (jn @h1d g'10))
   refine aa g'11 ?_
   refine go_loop try_mixed (by kernel_rfl) (fun k F Hx => ∃ i : Nat, i + k = 256 ∧ F = [(4, .ptr (some (H.length, 0))), (6, .sl (some (H.length + 1, 0)) 256 none), (7, .sl (some (H.length + 2, 0)) 256 none), (8, .ptr (some (H.length + 3, 0))), (9, .int .i64 (255 - ((n : Nat) : Int))), (10, .int .i64 (needN (cV (br f c) (br f2 c2)) (255 - ((n : Nat) : Int)) i)), (11, .int .i64 ((i : Nat) : Int))] ∧ Hx = H ++ [.cells true 0 [.int .i64 0, .int .i64 0], .cells true 1 (cz (br f c)), .cells true 1 (cz (br f2 c2)), .cells true 0 [.int .i64 ((bestN (cV (br f c) (br f2 c2)) n).1), .int .i64 ((bestN (cV (br f c) (br f2 c2)) n).2)]]) (256) ?_ ?_
   ·refine ⟨_, _, _, ⟨0, by omega, rfl, rfl⟩, Abs.byG hbel [] rfl [0, 1, 2, 3] (by decide) ?_⟩
    exact aD @needN.eq_1
   ·rintro k1 F Hx ⟨i, hm1, rfl, rfl⟩ J1 hJ1
    have htm : Int.tmod ((255 - ((n : Nat) : Int)) + ((i : Nat) : Int)) 256 = ((255 - ((n : Nat) : Int)) + ((i : Nat) : Int)) % 256 := by rw [Int.tmod_eq_emod_of_nonneg (by omega)]
    have g'12 := (jn @htm g'11)
    refine aa g'12 ?_
    refine ak (fun h2 => ?_) (fun h2 => ?_)
    ·have h2d := bsT h2
     have q3 := mA (xs := br f c) (j := (((255 - ((n : Nat) : Int)) + ((i : Nat) : Int)) % 256).toNat) (by omega)
     have g'13 := (jn @h2 (jn @h2d (jn @q3 g'12)))
     refine aa g'13 ?_
     refine al (fun h4 => ?_) (fun h4 => ?_)
     ·have h4d := bsT h4
      have hxa := h4d
      have q5 := mA (xs := br f2 c2) (j := (((255 - ((n : Nat) : Int)) + ((i : Nat) : Int)) % 256).toNat) (by omega)
      have g'14 := (jn @h4 (jn @h4d (jn @q5 g'13)))
      refine aa g'14 ?_
      refine ak (fun h6 => ?_) (fun h6 => ?_)
      ·have h6d := bsT h6
       have hst : needN (cV (br f c) (br f2 c2)) (255 - ((n : Nat) : Int)) (i + 1) = ((i : Nat) : Int) + 1 := by rw [lZ, if_pos (by unfold cV; rw [h6d]; simp)]
       have g'15 := (jn @h6 (jn @h6d g'14))
       refine aa g'15 ?_
       refine hJ1 _ _ ⟨k1 - 1, by omega, _, _, _, ⟨i + 1, by omega, rfl, rfl⟩, Abs.byG hbel [] rfl [0, 1, 2, 3] (by decide) ?_⟩
       exact aD (jn @hst (jn @Int.natCast_add @Int.natCast_one))
      ·have h6d := bsT h6
       have hst : needN (cV (br f c) (br f2 c2)) (255 - ((n : Nat) : Int)) (i + 1) = needN (cV (br f c) (br f2 c2)) (255 - ((n : Nat) : Int)) i := by rw [lZ, if_neg (by unfold cV; rw [hxa, h6d]; simp)]
       have g'16 := (jn @h6 (jn @h6d g'14))
       refine aa g'16 ?_
       refine hJ1 _ _ ⟨k1 - 1, by omega, _, _, _, ⟨i + 1, by omega, rfl, rfl⟩, Abs.byG hbel [] rfl [0, 1, 2, 3] (by decide) ?_⟩
       exact aD (jn @hst (jn @Int.natCast_add @Int.natCast_one))
     ·have h4d := bsT h4
      have hst : needN (cV (br f c) (br f2 c2)) (255 - ((n : Nat) : Int)) (i + 1) = ((i : Nat) : Int) + 1 := by rw [lZ, if_pos (by unfold cV; rw [h4d]; rfl)]
      have g'17 := (jn @h4 (jn @h4d g'13))
      refine aa g'17 ?_
      refine hJ1 _ _ ⟨k1 - 1, by omega, _, _, _, ⟨i + 1, by omega, rfl, rfl⟩, Abs.byG hbel [] rfl [0, 1, 2, 3] (by decide) ?_⟩
      exact aD (jn @hst (jn @Int.natCast_add @Int.natCast_one))
    ·have h2d := bsT h2
     obtain rfl : i = 256 := by omega
     have hnl := km (cV (br f c) (br f2 c2)) (255 - ((n : Nat) : Int)) 256
     have g'18 := (jn @h2 (jn @h2d g'12))
     refine aa g'18 ?_
     refine al (fun h7 => ?_) (fun h7 => ?_)
     ·have h7d := bsT h7
      have g'19 := (jn @h7 (jn @h7d g'18))
      refine aa g'19 ?_
      refine ak (fun h8 => ?_) (fun h8 => ?_)
      ·have h8d := bsT h8
       have g'20 := (jn @h8 (jn @h8d g'19))
       refine aa g'20 ?_
       first | (have hst2 : bestN (cV (br f c) (br f2 c2)) (n + 1) = ((255 - ((n : Nat) : Int)), needN (cV (br f c) (br f2 c2)) (255 - ((n : Nat) : Int)) 256) := (gl _ _).trans (if_pos (by omega))) | (have hst2 : bestN (cV (br f c) (br f2 c2)) (n + 1) = bestN (cV (br f c) (br f2 c2)) n := (gl _ _).trans (if_neg (by omega)))
       refine hJ0 _ _ ⟨k0 - 1, by omega, _, _, _, ⟨n + 1, by omega, rfl, rfl⟩, Abs.byG hbel [] rfl [0, 1, 2, 3] (by decide) ?_⟩
       exact aD (jn @hst2 (jn @Int.natCast_add (jn @Int.natCast_one @Int.sub_sub)))
      ·have h8d := bsT h8
       have g'21 := (jn @h8 (jn @h8d g'19))
       refine aa g'21 ?_
       first | (have hst2 : bestN (cV (br f c) (br f2 c2)) (n + 1) = ((255 - ((n : Nat) : Int)), needN (cV (br f c) (br f2 c2)) (255 - ((n : Nat) : Int)) 256) := (gl _ _).trans (if_pos (by omega))) | (have hst2 : bestN (cV (br f c) (br f2 c2)) (n + 1) = bestN (cV (br f c) (br f2 c2)) n := (gl _ _).trans (if_neg (by omega)))
       refine hJ0 _ _ ⟨k0 - 1, by omega, _, _, _, ⟨n + 1, by omega, rfl, rfl⟩, Abs.byG hbel [] rfl [0, 1, 2, 3] (by decide) ?_⟩
       exact aD (jn @hst2 (jn @Int.natCast_add (jn @Int.natCast_one @Int.sub_sub)))
     ·have h7d := bsT h7
      have g'22 := (jn @h7 (jn @h7d g'18))
      refine aa g'22 ?_
      first | (have hst2 : bestN (cV (br f c) (br f2 c2)) (n + 1) = ((255 - ((n : Nat) : Int)), needN (cV (br f c) (br f2 c2)) (255 - ((n : Nat) : Int)) 256) := (gl _ _).trans (if_pos (by omega))) | (have hst2 : bestN (cV (br f c) (br f2 c2)) (n + 1) = bestN (cV (br f c) (br f2 c2)) n := (gl _ _).trans (if_neg (by omega)))
      refine hJ0 _ _ ⟨k0 - 1, by omega, _, _, _, ⟨n + 1, by omega, rfl, rfl⟩, Abs.byG hbel [] rfl [0, 1, 2, 3] (by decide) ?_⟩
      exact aD (jn @hst2 (jn @Int.natCast_add (jn @Int.natCast_one @Int.sub_sub)))
  ·have h1d := bsT h1
   obtain rfl : n = 256 := by omega
   have g'23 := (jn @h1 (jn @h1d g'10))
   refine aa g'23 ?_
   exact hQ _ _ (ae (.inl rfl) hbel (x := .tup [.agg [.int .i64 ((bestN (cV (br f c) (br f2 c2)) 256).1), .int .i64 ((bestN (cV (br f c) (br f2 c2)) 256).2)], .int .i64 0]) (ai Tryz.results103) rfl ⟨by rw [hbh], rfl⟩)
theorem with_c (H : ac) (x0 : Int) (y0 : Int) (x1 : Int) (y1 : Int) (f : Int) (c : Int) : ACalls Tryz.prog 99 [.agg [.int .i64 x0, .int .i64 y0, .int .i64 x1, .int .i64 y1], .agg [.int .i64 f, .int .i64 c]] H (fun v H' => v = .agg [.int .i64 x0, .int .i64 y0, .int .i64 x1, .int .i64 y1, .int .i64 f, .int .i64 c] ∧ H' = H) := by
 refine AcT true Tryz.func99 ?_; intro hbel Q hQ
 refine aQ ?_
 exact hQ _ _ (ae (.inl rfl) hbel (x := .agg [.int .i64 x0, .int .i64 y0, .int .i64 x1, .int .i64 y1, .int .i64 f, .int .i64 c]) (ai Tryz.results99) rfl ⟨rfl, rfl⟩)
theorem bhull_c (H : ac) (x0 : Int) (y0 : Int) (x1 : Int) (y1 : Int) (f : Int) (c : Int) (u0 : Int) (v0 : Int) (u1 : Int) (v1 : Int) (fb : Int) (cb : Int) (ha : bxB x0 y0 x1 y1 f c = true) (hb : bxB u0 v0 u1 v1 fb cb = true) : ACalls Tryz.prog 56 [.agg [.int .i64 x0, .int .i64 y0, .int .i64 x1, .int .i64 y1, .int .i64 f, .int .i64 c], .agg [.int .i64 u0, .int .i64 v0, .int .i64 u1, .int .i64 v1, .int .i64 fb, .int .i64 cb]] H (fun v H' => v = .tup [.agg [.int .i64 (mnI x0 u0), .int .i64 (mnI y0 v0), .int .i64 (mxI x1 u1), .int .i64 (mxI y1 v1), .int .i64 ((bG f c fb cb).1), .int .i64 ((bG f c fb cb).2)], .int .i64 0] ∧ H' = H) := by
 have ka := (bO.1 ha).2.2
 have kb := (bO.1 hb).2.2
 (refine bF Tryz.func56 _ rfl (Nat.le_of_ble_eq_true (by kernel_rfl)) rfl ?_; intro hbel Q hQ hQ' c hc; unfold Tryz.f56 at hc; simp only [Option.some.injEq] at hc; subst hc; clear hQ')
 refine gg false try_mixed (by kernel_rfl) (fun F Hx => look F 2 = .ptr (some (H.length, 0)) ∧ look F 3 = .ptr (some (H.length + 1, 0)) ∧ look F 4 = .ptr (some (H.length + 2, 0)) ∧ look F 5 = .int .i64 0 ∧ Hx = H ++ [.cells true 0 [.int .i64 x0, .int .i64 y0, .int .i64 x1, .int .i64 y1, .int .i64 f, .int .i64 c], .cells true 0 [.int .i64 u0, .int .i64 v0, .int .i64 u1, .int .i64 v1, .int .i64 fb, .int .i64 cb], .cells true 0 [.int .i64 0, .int .i64 0, .int .i64 0, .int .i64 0, .int .i64 0, .int .i64 0]]) ?_ ?_
 ·skip
  have g'24 := (jn @ha @hb)
  refine aa g'24 ?_
  refine aS ?_
  exact absT
 rintro F Hx ⟨f1, f2, f3, f4, rfl⟩
 refine gg false try_mixed (by kernel_rfl) (fun F Hx => look F 2 = .ptr (some (H.length, 0)) ∧ look F 3 = .ptr (some (H.length + 1, 0)) ∧ look F 4 = .ptr (some (H.length + 2, 0)) ∧ look F 5 = .int .i64 0 ∧ Hx = H ++ [.cells true 0 [.int .i64 x0, .int .i64 y0, .int .i64 x1, .int .i64 y1, .int .i64 f, .int .i64 c], .cells true 0 [.int .i64 u0, .int .i64 v0, .int .i64 u1, .int .i64 v1, .int .i64 fb, .int .i64 cb], .cells true 0 [.int .i64 0, .int .i64 0, .int .i64 0, .int .i64 0, .int .i64 0, .int .i64 0]]) ?_ ?_
 ·skip
  have g'25 := (jn @f1 (jn @f2 (jn @f3 (jn @f4 (jn @ha @hb)))))
  refine aa g'25 ?_
  refine af (by kernel_rfl) (eE _ x0 y0 x1 y1 f c) ?_
  refine aa g'25 ?_
  refine af (by kernel_rfl) (eE _ u0 v0 u1 v1 fb cb) ?_
  refine aa g'25 ?_
  refine aS ?_
  exact absTf (jn @f1 (jn @f2 (jn @f3 @f4)))
 rintro F Hx ⟨f5, f6, f7, f8, rfl⟩
 refine cd false try_mixed [[0, 1, 2, 3, 4, 5, 6, 7, 8, 9, 10], [0, 1, 2, 3, 8, 4, 5, 6, 7, 9, 10], [0, 1, 2, 8, 3, 4, 5, 6, 7, 9, 10], [0, 2, 8, 1, 3, 4, 5, 6, 7, 9, 10]] (by kernel_rfl) (fun F2 H2 => F2 = [(2, .ptr (some (H.length, 0))), (3, .ptr (some (H.length + 1, 0))), (4, .ptr (some (H.length + 2, 0))), (5, .int .i64 0), (6, .ptr (some (H.length + 3, 0)))] ∧ H2 = H ++ [.cells true 0 [.int .i64 x0, .int .i64 y0, .int .i64 x1, .int .i64 y1, .int .i64 f, .int .i64 c], .cells true 0 [.int .i64 u0, .int .i64 v0, .int .i64 u1, .int .i64 v1, .int .i64 fb, .int .i64 cb], .cells true 0 [.int .i64 0, .int .i64 0, .int .i64 0, .int .i64 0, .int .i64 0, .int .i64 0], .cells true 0 [.int .i64 ((bG f c fb cb).1), .int .i64 ((bG f c fb cb).2)]]) ?_ ?_
 ·refine aC ?_ (aC ?_ (aC ?_ (aC ?_ (ce)))) <;> intro J hJ
  ·skip
   have g'26 := (jn @f1 (jn @f2 (jn @f3 (jn @f4 (jn @f5 (jn @f6 (jn @f7 (jn @f8 (jn @ha @hb)))))))))
   refine aw g'26 ?_
   refine aB (by kernel_rfl) (e8 _ x0 y0 x1 y1 f c) ?_
   refine aw g'26 ?_
   refine aB (by kernel_rfl) (e8 _ u0 v0 u1 v1 fb cb) ?_
   refine aw g'26 ?_
   refine aB (by kernel_rfl) (jA _ f c fb cb (by assumption) (by assumption)) ?_
   refine aw g'26 ?_
   refine aS (hJ _ _ ⟨_, _, _, ⟨rfl, rfl⟩, Abs.byG hbel [] rfl [0, 1, 2, 3] (by decide) ?_⟩)
   exact aV (jn @f1 (jn @f2 (jn @f3 (jn @f4 (jn @f5 (jn @f6 (jn @f7 @f8)))))))
  ·skip
   have g'27 := (jn @f1 (jn @f2 (jn @f3 (jn @f4 (jn @f5 (jn @f6 (jn @f7 (jn @f8 (jn @ha @hb)))))))))
   refine aw g'27 ?_
   refine aB (by kernel_rfl) (e8 _ x0 y0 x1 y1 f c) ?_
   refine aw g'27 ?_
   refine aB (by kernel_rfl) (e8 _ u0 v0 u1 v1 fb cb) ?_
   refine aw g'27 ?_
   refine aB (by kernel_rfl) (jA _ f c fb cb (by assumption) (by assumption)) ?_
   refine aw g'27 ?_
   refine aS (hJ _ _ ⟨_, _, _, ⟨rfl, rfl⟩, Abs.byG hbel [] rfl [0, 1, 2, 3] (by decide) ?_⟩)
   exact aV (jn @f1 (jn @f2 (jn @f3 (jn @f4 (jn @f5 (jn @f6 (jn @f7 @f8)))))))
  ·skip
   have g'28 := (jn @f1 (jn @f2 (jn @f3 (jn @f4 (jn @f5 (jn @f6 (jn @f7 (jn @f8 (jn @ha @hb)))))))))
   refine aw g'28 ?_
   refine aB (by kernel_rfl) (e8 _ x0 y0 x1 y1 f c) ?_
   refine aw g'28 ?_
   refine aB (by kernel_rfl) (e8 _ u0 v0 u1 v1 fb cb) ?_
   refine aw g'28 ?_
   refine aB (by kernel_rfl) (jA _ f c fb cb (by assumption) (by assumption)) ?_
   refine aw g'28 ?_
   refine aS (hJ _ _ ⟨_, _, _, ⟨rfl, rfl⟩, Abs.byG hbel [] rfl [0, 1, 2, 3] (by decide) ?_⟩)
   exact aV (jn @f1 (jn @f2 (jn @f3 (jn @f4 (jn @f5 (jn @f6 (jn @f7 @f8)))))))
  ·skip
   have g'29 := (jn @f1 (jn @f2 (jn @f3 (jn @f4 (jn @f5 (jn @f6 (jn @f7 (jn @f8 (jn @ha @hb)))))))))
   refine aw g'29 ?_
   refine aB (by kernel_rfl) (e8 _ x0 y0 x1 y1 f c) ?_
   refine aw g'29 ?_
   refine aB (by kernel_rfl) (e8 _ u0 v0 u1 v1 fb cb) ?_
   refine aw g'29 ?_
   refine aB (by kernel_rfl) (jA _ f c fb cb (by assumption) (by assumption)) ?_
   refine aw g'29 ?_
   refine aS (hJ _ _ ⟨_, _, _, ⟨rfl, rfl⟩, Abs.byG hbel [] rfl [0, 1, 2, 3] (by decide) ?_⟩)
   exact aV (jn @f1 (jn @f2 (jn @f3 (jn @f4 (jn @f5 (jn @f6 (jn @f7 @f8)))))))
 rintro F2 H2 ⟨rfl, rfl⟩
 refine aI false try_mixed (by kernel_rfl) ?_
 have g'30 := (jn @ha @hb)
 refine aa g'30 ?_
 refine af (by kernel_rfl) (with_c _ (if u0 < x0 then u0 else x0) (if v0 < y0 then v0 else y0) (if x1 < u1 then u1 else x1) (if y1 < v1 then v1 else y1) ((bG f c fb cb).1) ((bG f c fb cb).2)) ?_
 refine aa g'30 ?_
 exact hQ _ _ (ae (.inl rfl) hbel (x := .tup [.agg [.int .i64 (if u0 < x0 then u0 else x0), .int .i64 (if v0 < y0 then v0 else y0), .int .i64 (if x1 < u1 then u1 else x1), .int .i64 (if y1 < v1 then v1 else y1), .int .i64 ((bG f c fb cb).1), .int .i64 ((bG f c fb cb).2)], .int .i64 0]) (ai Tryz.results56) rfl ⟨rfl, rfl⟩)
theorem r6hull_c (H : ac) (x0 : Int) (y0 : Int) (x1 : Int) (y1 : Int) (f : Int) (c : Int) (u0 : Int) (v0 : Int) (u1 : Int) (v1 : Int) (fb : Int) (cb : Int) (ha : bxB x0 y0 x1 y1 f c = true) (hb : bxB u0 v0 u1 v1 fb cb = true) : ACalls Tryz.prog 65 [.agg [.int .i64 x0, .int .i64 y0, .int .i64 x1, .int .i64 y1, .int .i64 f, .int .i64 c], .agg [.int .i64 u0, .int .i64 v0, .int .i64 u1, .int .i64 v1, .int .i64 fb, .int .i64 cb]] H (fun v H' => v = .tup [.agg [.int .i64 (mnI x0 u0), .int .i64 (mnI y0 v0), .int .i64 (mxI x1 u1), .int .i64 (mxI y1 v1), .int .i64 ((bG f c fb cb).1), .int .i64 ((bG f c fb cb).2)], .int .i64 0] ∧ H' = H) := by
 have ka := (bO.1 ha).2.2
 have kb := (bO.1 hb).2.2
 (refine bF Tryz.func65 _ rfl (Nat.le_of_ble_eq_true (by kernel_rfl)) rfl ?_; intro hbel Q hQ hQ' c hc; unfold Tryz.f65 at hc; simp only [Option.some.injEq] at hc; subst hc; clear hQ')
 refine gg false try_mixed (by kernel_rfl) (fun F Hx => look F 2 = .ptr (some (H.length, 0)) ∧ look F 3 = .ptr (some (H.length + 1, 0)) ∧ look F 4 = .ptr (some (H.length + 2, 0)) ∧ look F 5 = .int .i64 0 ∧ Hx = H ++ [.cells true 0 [.int .i64 x0, .int .i64 y0, .int .i64 x1, .int .i64 y1, .int .i64 f, .int .i64 c], .cells true 0 [.int .i64 u0, .int .i64 v0, .int .i64 u1, .int .i64 v1, .int .i64 fb, .int .i64 cb], .cells true 0 [.int .i64 0, .int .i64 0, .int .i64 0, .int .i64 0, .int .i64 0, .int .i64 0]]) ?_ ?_
 ·skip
  have g'31 := (jn @ha @hb)
  refine aa g'31 ?_
  refine aS ?_
  exact absT
 rintro F Hx ⟨f1, f2, f3, f4, rfl⟩
 refine gg false try_mixed (by kernel_rfl) (fun F Hx => look F 2 = .ptr (some (H.length, 0)) ∧ look F 3 = .ptr (some (H.length + 1, 0)) ∧ look F 4 = .ptr (some (H.length + 2, 0)) ∧ look F 5 = .int .i64 0 ∧ Hx = H ++ [.cells true 0 [.int .i64 x0, .int .i64 y0, .int .i64 x1, .int .i64 y1, .int .i64 f, .int .i64 c], .cells true 0 [.int .i64 u0, .int .i64 v0, .int .i64 u1, .int .i64 v1, .int .i64 fb, .int .i64 cb], .cells true 0 [.int .i64 0, .int .i64 0, .int .i64 0, .int .i64 0, .int .i64 0, .int .i64 0]]) ?_ ?_
 ·skip
  have g'32 := (jn @f1 (jn @f2 (jn @f3 (jn @f4 (jn @ha @hb)))))
  refine aa g'32 ?_
  refine af (by kernel_rfl) (bbx_c _ x0 y0 x1 y1 f c) ?_
  refine aa g'32 ?_
  refine af (by kernel_rfl) (bbx_c _ u0 v0 u1 v1 fb cb) ?_
  refine aa g'32 ?_
  refine aS ?_
  exact absTf (jn @f1 (jn @f2 (jn @f3 @f4)))
 rintro F Hx ⟨f5, f6, f7, f8, rfl⟩
 refine cd false try_mixed [[0, 1, 2, 3, 4, 5, 6, 7, 8, 9, 10], [0, 1, 2, 3, 8, 4, 5, 6, 7, 9, 10], [0, 1, 2, 8, 3, 4, 5, 6, 7, 9, 10], [0, 2, 8, 1, 3, 4, 5, 6, 7, 9, 10]] (by kernel_rfl) (fun F2 H2 => F2 = [(2, .ptr (some (H.length, 0))), (3, .ptr (some (H.length + 1, 0))), (4, .ptr (some (H.length + 2, 0))), (5, .int .i64 0), (6, .ptr (some (H.length + 3, 0)))] ∧ H2 = H ++ [.cells true 0 [.int .i64 x0, .int .i64 y0, .int .i64 x1, .int .i64 y1, .int .i64 f, .int .i64 c], .cells true 0 [.int .i64 u0, .int .i64 v0, .int .i64 u1, .int .i64 v1, .int .i64 fb, .int .i64 cb], .cells true 0 [.int .i64 0, .int .i64 0, .int .i64 0, .int .i64 0, .int .i64 0, .int .i64 0], .cells true 0 [.int .i64 ((bG f c fb cb).1), .int .i64 ((bG f c fb cb).2)]]) ?_ ?_
 ·refine aC ?_ (aC ?_ (aC ?_ (aC ?_ (ce)))) <;> intro J hJ
  ·skip
   have g'33 := (jn @f1 (jn @f2 (jn @f3 (jn @f4 (jn @f5 (jn @f6 (jn @f7 (jn @f8 (jn @ha @hb)))))))))
   refine aw g'33 ?_
   refine aB (by kernel_rfl) (eQ _ x0 y0 x1 y1 f c) ?_
   refine aw g'33 ?_
   refine aB (by kernel_rfl) (eQ _ u0 v0 u1 v1 fb cb) ?_
   refine aw g'33 ?_
   refine aB (by kernel_rfl) (ir _ f c fb cb (by assumption) (by assumption)) ?_
   refine aw g'33 ?_
   refine aS (hJ _ _ ⟨_, _, _, ⟨rfl, rfl⟩, Abs.byG hbel [] rfl [0, 1, 2, 3] (by decide) ?_⟩)
   exact aV (jn @f1 (jn @f2 (jn @f3 (jn @f4 (jn @f5 (jn @f6 (jn @f7 @f8)))))))
  ·skip
   have g'34 := (jn @f1 (jn @f2 (jn @f3 (jn @f4 (jn @f5 (jn @f6 (jn @f7 (jn @f8 (jn @ha @hb)))))))))
   refine aw g'34 ?_
   refine aB (by kernel_rfl) (eQ _ x0 y0 x1 y1 f c) ?_
   refine aw g'34 ?_
   refine aB (by kernel_rfl) (eQ _ u0 v0 u1 v1 fb cb) ?_
   refine aw g'34 ?_
   refine aB (by kernel_rfl) (ir _ f c fb cb (by assumption) (by assumption)) ?_
   refine aw g'34 ?_
   refine aS (hJ _ _ ⟨_, _, _, ⟨rfl, rfl⟩, Abs.byG hbel [] rfl [0, 1, 2, 3] (by decide) ?_⟩)
   exact aV (jn @f1 (jn @f2 (jn @f3 (jn @f4 (jn @f5 (jn @f6 (jn @f7 @f8)))))))
  ·skip
   have g'35 := (jn @f1 (jn @f2 (jn @f3 (jn @f4 (jn @f5 (jn @f6 (jn @f7 (jn @f8 (jn @ha @hb)))))))))
   refine aw g'35 ?_
   refine aB (by kernel_rfl) (eQ _ x0 y0 x1 y1 f c) ?_
   refine aw g'35 ?_
   refine aB (by kernel_rfl) (eQ _ u0 v0 u1 v1 fb cb) ?_
   refine aw g'35 ?_
   refine aB (by kernel_rfl) (ir _ f c fb cb (by assumption) (by assumption)) ?_
   refine aw g'35 ?_
   refine aS (hJ _ _ ⟨_, _, _, ⟨rfl, rfl⟩, Abs.byG hbel [] rfl [0, 1, 2, 3] (by decide) ?_⟩)
   exact aV (jn @f1 (jn @f2 (jn @f3 (jn @f4 (jn @f5 (jn @f6 (jn @f7 @f8)))))))
  ·skip
   have g'36 := (jn @f1 (jn @f2 (jn @f3 (jn @f4 (jn @f5 (jn @f6 (jn @f7 (jn @f8 (jn @ha @hb)))))))))
   refine aw g'36 ?_
   refine aB (by kernel_rfl) (eQ _ x0 y0 x1 y1 f c) ?_
   refine aw g'36 ?_
   refine aB (by kernel_rfl) (eQ _ u0 v0 u1 v1 fb cb) ?_
   refine aw g'36 ?_
   refine aB (by kernel_rfl) (ir _ f c fb cb (by assumption) (by assumption)) ?_
   refine aw g'36 ?_
   refine aS (hJ _ _ ⟨_, _, _, ⟨rfl, rfl⟩, Abs.byG hbel [] rfl [0, 1, 2, 3] (by decide) ?_⟩)
   exact aV (jn @f1 (jn @f2 (jn @f3 (jn @f4 (jn @f5 (jn @f6 (jn @f7 @f8)))))))
 rintro F2 H2 ⟨rfl, rfl⟩
 refine aI false try_mixed (by kernel_rfl) ?_
 have g'37 := (jn @ha @hb)
 refine aa g'37 ?_
 exact hQ _ _ (ae (.inl rfl) hbel (x := .tup [.agg [.int .i64 (if u0 < x0 then u0 else x0), .int .i64 (if v0 < y0 then v0 else y0), .int .i64 (if x1 < u1 then u1 else x1), .int .i64 (if y1 < v1 then v1 else y1), .int .i64 ((bG f c fb cb).1), .int .i64 ((bG f c fb cb).2)], .int .i64 0]) (ai Tryz.results65) rfl ⟨rfl, rfl⟩)
open Go.RowKit
theorem arep_z {k : IntKind} {n : Nat} : (List.range n).map (fun j => ([.int k 0] : List AV).getD (j % 1) .any) = ints k (List.replicate n 0) := by
 rw [← bP]
 refine List.ext_getElem (by simp) fun i h1 h2 => ?_
 simp [Nat.mod_one]
def eI (f : Int) (n i : Nat) : List Int := aJ f i ++ List.replicate (n - i) 0
theorem tb {f : Int} {n i : Nat} (h : i ≤ n) : (eI f n i).length = n := by unfold eI; rw [List.length_append, c7, List.length_replicate]; omega
theorem lisS_set {f : Int} {n i : Nat} (h : i < n) : (eI f n i).set i ((f + (i : Int)) % 256) = eI f n (i + 1) := by
 unfold eI
 obtain ⟨k, hk⟩ : ∃ k, n - i = k + 1 := ⟨n - i - 1, by omega⟩
 rw [hk, List.replicate_succ, List.set_append_right _ _ (by rw [c7]; exact Nat.le_refl _), c7, Nat.sub_self, List.set_cons_zero, pr, List.append_assoc, show n - (i + 1) = k by omega]
 rfl
theorem lisS_0 (f : Int) (n : Nat) : eI f n 0 = List.replicate n 0 := rfl
theorem lisS_n (f : Int) (n : Nat) : eI f n n = aJ f n := by unfold eI; rw [Nat.sub_self]; simp
theorem harc_c (H : ac) (f : Int) (n : Int) (hn : 1 ≤ n ∧ n ≤ 100000) : ACalls Tryz.prog 187 [.int .i64 f, .int .i64 n] H (fun v H' => v = .agg [.int .i64 (arcF f n), .int .i64 (cE n)] ∧ H' = H) := by
 refine AcT true Tryz.func187 ?_; intro hbel Q hQ
 refine aQ ?_
 refine ak (fun h1 => ?_) (fun h1 => ?_)
 ·have h1d := bsT h1
  have g'1 := (jn @h1 @h1d)
  refine aa g'1 ?_
  exact hQ _ _ (ae (.inl rfl) hbel (x := .agg [.int .i64 0, .int .i64 256]) (ai Tryz.results187) rfl ⟨by unfold arcF cE; first | (rw [if_pos (by omega), if_pos (by omega)]; done) | (rw [if_neg (by omega), if_neg (by omega), show (((f % 256).toNat : Nat) : Int) = f % 256 by omega]), rfl⟩)
 ·have h1d := bsT h1
  have g'2 := (jn @h1 @h1d)
  refine aa g'2 ?_
  refine af (by kernel_rfl) (jb _ f) ?_
  refine aa g'2 ?_
  exact hQ _ _ (ae (.inl rfl) hbel (x := .agg [.int .i64 (((f % 256).toNat : Nat) : Int), .int .i64 n]) (ai Tryz.results187) rfl ⟨by unfold arcF cE; first | (rw [if_pos (by omega), if_pos (by omega)]; done) | (rw [if_neg (by omega), if_neg (by omega), show (((f % 256).toNat : Nat) : Int) = f % 256 by omega]), rfl⟩)
theorem hshift_c (H : ac) (f : Int) (c : Int) (n : Int) (ha : bD f c = true) : ACalls Tryz.prog 146 [.agg [.int .i64 f, .int .i64 c], .int .i64 n] H (fun v H' => v = .tup [.agg [.int .i64 (shF f c n), .int .i64 (cE c)], .int .i64 0] ∧ H' = H) := by
 have ka := bm.1 ha
 refine AcT true Tryz.func146 ?_; intro hbel Q hQ
 have g'5 := @ha
 refine aa g'5 ?_
 refine af (by kernel_rfl) (g5 _ f c) ?_
 refine aa g'5 ?_
 refine aB (by kernel_rfl) (jb _ n) ?_
 refine aa g'5 ?_
 refine aB (by kernel_rfl) (harc_c _ (f + (((n % 256).toNat : Nat) : Int)) c (by omega)) ?_
 refine aa g'5 ?_
 exact hQ _ _ (ae (.inl rfl) hbel (x := .tup [.agg [.int .i64 (arcF (f + (((n % 256).toNat : Nat) : Int)) c), .int .i64 (cE c)], .int .i64 0]) (ai Tryz.results146) rfl ⟨rfl, rfl⟩)
theorem hgrow_c (H : ac) (f : Int) (c : Int) (n : Int) (ha : bD f c = true) (hn : 0 ≤ n ∧ n ≤ 256) : ACalls Tryz.prog 148 [.agg [.int .i64 f, .int .i64 c], .int .i64 n] H (fun v H' => v = .tup [.agg [.int .i64 (grF f c n), .int .i64 (grC c n)], .int .i64 0] ∧ H' = H) := by
 have ka := bm.1 ha
 refine AcT true Tryz.func148 ?_; intro hbel Q hQ
 have g'7 := @ha
 refine aa g'7 ?_
 refine af (by kernel_rfl) (g5 _ f c) ?_
 refine aa g'7 ?_
 refine al (fun h1 => ?_) (fun h1 => ?_)
 ·have h1d := bsT h1
  have g'8 := (jn @h1 (jn @h1d g'7))
  refine aa g'8 ?_
  refine ak (fun h2 => ?_) (fun h2 => ?_)
  ·have h2d := bsT h2
   omega
  ·have h2d := bsT h2
   have g'9 := (jn @h2 (jn @h2d g'8))
   refine aa g'9 ?_
   refine af (by kernel_rfl) (harc_c _ (f - n) (c + (2 * n)) (by omega)) ?_
   refine aa g'9 ?_
   exact hQ _ _ (ae (.inl rfl) hbel (x := .tup [.agg [.int .i64 (arcF (f - n) (c + (2 * n))), .int .i64 (cE (c + (2 * n)))], .int .i64 0]) (ai Tryz.results148) rfl ⟨rfl, rfl⟩)
 ·have h1d := bsT h1
  omega
theorem l0 (H : ac) (f : Int) (c : Int) (ha : bD f c = true) : ACalls Tryz.prog 116 [.agg [.int .i64 f, .int .i64 c]] H (fun v H' => v = .sl (some (H.length, 0)) ((aJ f c.toNat).length) none ∧ H' = H ++ [.cells true 1 (ints .i64 (aJ f c.toNat))]) := by
 have ka := bm.1 ha
 have harep := arep_z (k := .i64) (n := c.toNat)
 have hrt : ((c.toNat : Nat) : Int) = c := by omega
 refine AcT true Tryz.func116 ?_; intro hbel Q hQ
 have g'13 := (jn @ha (jn @harep @hrt))
 refine aa g'13 ?_
 refine af (by kernel_rfl) (g5 _ f c) ?_
 have g'14 := (jn @bP (jn @List.length_replicate.{0} g'13))
 refine aa g'14 ?_
 refine go_loop try_mixed (by kernel_rfl) (fun k F Hx => ∃ i : Nat, i + k = c.toNat ∧ F = [(1, .ptr (some (H.length, 0))), (3, .sl (some (H.length + 1, 0)) ((eI f c.toNat i).length) none), (12, .int .i64 ((c.toNat : Nat) : Int)), (13, .int .i64 ((i : Nat) : Int))] ∧ Hx = H ++ [.cells true 0 [.int .i64 f, .int .i64 c], .cells true 1 (ints .i64 (eI f c.toNat i))]) (c.toNat) ?_ ?_
 ·refine ⟨_, _, _, ⟨0, by omega, rfl, rfl⟩, Abs.byG hbel [] rfl [0, 1] (by decide) ?_⟩
  exact aD (jn @lisS_0 (jn @List.length_replicate.{0} @hrt))
 ·rintro k0 F Hx ⟨i, hm0, rfl, rfl⟩ J0 hJ0
  have hln := tb (f := f) (n := c.toNat) (i := i) (by omega)
  have g'15 := (jn @ck (jn @cZ g'14))
  refine aa g'15 ?_
  refine ak (fun h1 => ?_) (fun h1 => ?_)
  ·have h1d := bsT h1
   have hln2 := tb (f := f) (n := c.toNat) (i := i + 1) (by omega)
   have hst : (eI f c.toNat i).set i ((((f + ((i : Nat) : Int)) % 256).toNat : Nat) : Int) = eI f c.toNat (i + 1) := by rw [show ((((f + ((i : Nat) : Int)) % 256).toNat : Nat) : Int) = (f + ((i : Nat) : Int)) % 256 by omega]; exact lisS_set (by omega)
   have g'16 := (jn @h1 (jn @h1d g'15))
   refine aa g'16 ?_
   refine af (by kernel_rfl) (jb _ (f + ((i : Nat) : Int))) ?_
   have g'17 := (jn @jc (jn @List.length_set.{0} g'16))
   refine aa g'17 ?_
   refine hJ0 _ _ ⟨k0 - 1, by omega, _, _, _, ⟨i + 1, by omega, rfl, rfl⟩, Abs.byG hbel [] rfl [0, 1] (by decide) ?_⟩
   exact aD (jn @hst (jn @List.length_set.{0} (jn @hln (jn @hln2 @hrt))))
  ·have h1d := bsT h1
   obtain rfl : i = c.toNat := by omega
   have g'18 := (jn @h1 (jn @h1d g'15))
   refine aa g'18 ?_
   refine hQ _ _ (aY (.inl rfl) hbel (x1 := .sl (some (H.length + 1, 0)) ((eI f c.toNat c.toNat).length) none) (l2 := [.cells true 1 (ints .i64 (eI f c.toNat c.toNat))]) (.sl (some (H.length, 0)) ((eI f c.toNat c.toNat).length) none) (ai Tryz.results116) [] rfl [1] (by decide) ⟨by rw [lisS_n], by rw [lisS_n]⟩ ?_)
   exact aW
theorem rect_c (H : ac) (x0 : Int) (y0 : Int) (x1 : Int) (y1 : Int) (f : Int) (c : Int) (ha : bxB x0 y0 x1 y1 f c = true) : ACalls Tryz.prog 131 [.agg [.int .i64 x0, .int .i64 y0, .int .i64 x1, .int .i64 y1, .int .i64 f, .int .i64 c]] H (fun v H' => v = .agg [.int .i64 x0, .int .i64 y0, .int .i64 x1, .int .i64 y1] ∧ H' = H) := by
 refine AcT true Tryz.func131 ?_; intro hbel Q hQ
 have g'19 := @ha
 refine aa g'19 ?_
 refine af (by kernel_rfl) (eE _ x0 y0 x1 y1 f c) ?_
 refine aa g'19 ?_
 exact hQ _ _ (ae (.inl rfl) hbel (x := .agg [.int .i64 x0, .int .i64 y0, .int .i64 x1, .int .i64 y1]) (ai Tryz.results131) rfl ⟨rfl, rfl⟩)
open Go.RowKit
def lnP (x y : Int) : Bool := cF x 2097152 && cF y 2097152
def lnR (x0 y0 x1 y1 : Int) : Bool := decide (-2097152 ≤ x0) && (decide (x0 ≤ x1) && (decide (x1 ≤ 2097152) && (decide (-2097152 ≤ y0) && (decide (y0 ≤ y1) && decide (y1 ≤ 2097152)))))
theorem lnP_iff {x y : Int} : lnP x y = true ↔ (-2097152 ≤ x ∧ x ≤ 2097152) ∧ -2097152 ≤ y ∧ y ≤ 2097152 := by unfold lnP; rw [Bool.and_eq_true, bl, bl]
theorem cX {x0 y0 x1 y1 : Int} : lnR x0 y0 x1 y1 = true ↔ (-2097152 ≤ x0 ∧ x0 ≤ x1 ∧ x1 ≤ 2097152) ∧ -2097152 ≤ y0 ∧ y0 ≤ y1 ∧ y1 ≤ 2097152 := by
 unfold lnR; simp only [Bool.and_eq_true, decide_eq_true_eq]; omega
open Go.RowKit
set_option maxHeartbeats 800000
open Go.RowKit
set_option maxHeartbeats 4000000
open Go.RowKit
open Go.RowKit
open Go.RowKit
open Go.RowKit
open Go.RowKit
open Go.RowKit
def dA (m r : Int) : Bool := btw m 0 255 && btw r (-1) 1024
def eJ (e : Int × Int) : Bool := dA e.1 e.2
def cw (s : List (Int × Int)) : Bool := decide (((s.length : Nat) : Int) ≤ 32) && !(s.any fun e => !eJ e)
theorem kp {m r : Int} : dA m r = true ↔ (0 ≤ m ∧ m ≤ 255) ∧ -1 ≤ r ∧ r ≤ 1024 := by
 unfold dA; rw [Bool.and_eq_true, bN, bN]
theorem ef {s : List (Int × Int)} : cw s = true ↔ s.length ≤ 32 ∧ ∀ e ∈ s, eJ e = true := by
 unfold cw
 rw [Bool.and_eq_true, decide_eq_true_eq, Bool.not_eq_true', List.any_eq_false]
 refine ⟨fun h => ⟨by omega, fun e he => ?_⟩, fun h => ⟨by omega, fun e he => ?_⟩⟩
 ·have := h.2 e he
  simpa using this
 ·rw [h.2 e he]; decide
def dk (W Hh : Int) (xs : List Int) (l : List T6) (s : List (Int × Int)) (g : Int) : Bool := cl W Hh xs && (decide (0 < ((l.length : Nat) : Int)) && (bX l && (cw s && btw g 1 32)))
theorem kq {W Hh : Int} {xs : List Int} {l : List T6} {s : List (Int × Int)} {g : Int} : dk W Hh xs l s g = true ↔ cl W Hh xs = true ∧ 0 < l.length ∧ bX l = true ∧ cw s = true ∧ 1 ≤ g ∧ g ≤ 32 := by
 unfold dk; simp only [Bool.and_eq_true, decide_eq_true_eq, bN]
 exact ⟨fun ⟨a, b, c, d, e⟩ => ⟨a, by omega, c, d, e⟩, fun ⟨a, b, c, d, e⟩ => ⟨a, by omega, c, d, e⟩⟩
def sumC (l : List T6) : Nat → Int
 | 0 => 0
 | n + 1 => sumC l n + g66 l n
theorem g66_bd {l : List T6} (h : bX l = true) {n : Nat} (hn : n < l.length) : 1 ≤ g66 l n ∧ g66 l n ≤ 256 := by
 have := (bY.1 h).2 (g6 l n) (cU hn)
 have := (bm.1 (bO.1 this).2.2)
 exact this.2.1
theorem gD {l : List T6} (h : bX l = true) : l.length ≤ 16 := (bY.1 h).1
theorem sumC_bd {l : List T6} (h : bX l = true) : ∀ n : Nat, n ≤ l.length → (n : Int) ≤ sumC l n ∧ sumC l n ≤ 256 * n
 | 0, _ => by simp [sumC]
 | n + 1, hn => by
  have := sumC_bd h n (by omega)
  have := g66_bd h (show n < l.length by omega)
  simp only [sumC]; omega
def wdeB (b : T6) : Bool := decide (64 < b.2.2.1 - b.1) || decide (64 < b.2.2.2.1 - b.2.1)
def fm (l : List T6) : Bool := decide (sumC l l.length ≤ 32) && !(l.any wdeB)
open Go.RowKit
abbrev T9 := Int × Int × Int × Int × Int × Int × Int × Int × Int
def r9 (l : List T9) : List AV := l.flatMap fun p => [.int .i64 p.1, .int .i64 p.2.1, .int .i64 p.2.2.1, .int .i64 p.2.2.2.1, .int .i64 p.2.2.2.2.1, .int .i64 p.2.2.2.2.2.1, .int .i64 p.2.2.2.2.2.2.1, .int .i64 p.2.2.2.2.2.2.2.1, .int .i64 p.2.2.2.2.2.2.2.2]
def g9 (l : List T9) (j : Nat) : T9 := l.getD j (0, 0, 0, 0, 0, 0, 0, 0, 0)
def g91 (l : List T9) (j : Nat) : Int := (g9 l j).1
def g92 (l : List T9) (j : Nat) : Int := (g9 l j).2.1
def g93 (l : List T9) (j : Nat) : Int := (g9 l j).2.2.1
def g94 (l : List T9) (j : Nat) : Int := (g9 l j).2.2.2.1
def g95 (l : List T9) (j : Nat) : Int := (g9 l j).2.2.2.2.1
def g96 (l : List T9) (j : Nat) : Int := (g9 l j).2.2.2.2.2.1
def g97 (l : List T9) (j : Nat) : Int := (g9 l j).2.2.2.2.2.2.1
def g98 (l : List T9) (j : Nat) : Int := (g9 l j).2.2.2.2.2.2.2.1
def g99 (l : List T9) (j : Nat) : Int := (g9 l j).2.2.2.2.2.2.2.2
theorem g9_eq {l : List T9} {j : Nat} (h : j < l.length) : (g91 l j, g92 l j, g93 l j, g94 l j, g95 l j, g96 l j, g97 l j, g98 l j, g99 l j) = l[j] := by
 simp [g91, g92, g93, g94, g95, g96, g97, g98, g99, g9, h, List.getD_eq_getElem?_getD]
theorem bZ : r9 [] = [] := rfl
theorem bo {p : T9} {l : List T9} : r9 (p :: l) = .int .i64 p.1 :: .int .i64 p.2.1 :: .int .i64 p.2.2.1 :: .int .i64 p.2.2.2.1 :: .int .i64 p.2.2.2.2.1 :: .int .i64 p.2.2.2.2.2.1 :: .int .i64 p.2.2.2.2.2.2.1 :: .int .i64 p.2.2.2.2.2.2.2.1 :: .int .i64 p.2.2.2.2.2.2.2.2 :: r9 l := rfl
theorem bi {l m : List T9} : r9 (l ++ m) = r9 l ++ r9 m := by simp [r9]
theorem dC : ∀ {l : List T9}, (r9 l).length = l.length * 9
 | [] => rfl
 | p :: l => by rw [bo]; simp only [List.length_cons, dC (l := l)]; omega
theorem bU {σ : Nat → Nat} : ∀ {l : List T9}, AV.mvs σ (r9 l) = r9 l
 | [] => rfl
 | p :: l => by
  rw [bo]
  show AV.mv σ _ :: AV.mv σ _ :: AV.mv σ _ :: AV.mv σ _ :: AV.mv σ _ :: AV.mv σ _ :: AV.mv σ _ :: AV.mv σ _ :: AV.mv σ _ :: AV.mvs σ (r9 l) = _
  rw [bU (l := l)]; rfl
theorem r9_at : ∀ {l : List T9} {j : Nat} (_h : j < l.length), (r9 l).drop (j * 9) = .int .i64 (g91 l j) :: .int .i64 (g92 l j) :: .int .i64 (g93 l j) :: .int .i64 (g94 l j) :: .int .i64 (g95 l j) :: .int .i64 (g96 l j) :: .int .i64 (g97 l j) :: .int .i64 (g98 l j) :: .int .i64 (g99 l j) :: (r9 l).drop ((j + 1) * 9)
 | [], j, h => by simp at h
 | p :: l, 0, _ => by rw [bo]; simp [g91, g92, g93, g94, g95, g96, g97, g98, g99, g9]
 | p :: l, j + 1, h => by
  rw [bo, show (j + 1) * 9 = j * 9 + 1 + 1 + 1 + 1 + 1 + 1 + 1 + 1 + 1 by omega, List.drop_succ_cons, List.drop_succ_cons, List.drop_succ_cons, List.drop_succ_cons, List.drop_succ_cons, List.drop_succ_cons, List.drop_succ_cons, List.drop_succ_cons, List.drop_succ_cons, r9_at (l := l) (by simpa using h), show (j + 1 + 1) * 9 = (j + 1) * 9 + 1 + 1 + 1 + 1 + 1 + 1 + 1 + 1 + 1 by omega, List.drop_succ_cons, List.drop_succ_cons, List.drop_succ_cons, List.drop_succ_cons, List.drop_succ_cons, List.drop_succ_cons, List.drop_succ_cons, List.drop_succ_cons, List.drop_succ_cons]
  rfl
theorem r9_load {l : List T9} {j : Nat} (h : j < l.length) : ((r9 l).drop (j * 9)).take 9 = [.int .i64 (g91 l j), .int .i64 (g92 l j), .int .i64 (g93 l j), .int .i64 (g94 l j), .int .i64 (g95 l j), .int .i64 (g96 l j), .int .i64 (g97 l j), .int .i64 (g98 l j), .int .i64 (g99 l j)] := by rw [r9_at h]; rfl
theorem r9_p0 {l : List T9} {j : Nat} (h : j < l.length) : ((r9 l).drop (j * 9)).take 6 = [.int .i64 (g91 l j), .int .i64 (g92 l j), .int .i64 (g93 l j), .int .i64 (g94 l j), .int .i64 (g95 l j), .int .i64 (g96 l j)] := by rw [r9_at h]; rfl
theorem gN {l : List T9} (h : 0 < l.length) : (r9 l).take 6 = [.int .i64 (g91 l 0), .int .i64 (g92 l 0), .int .i64 (g93 l 0), .int .i64 (g94 l 0), .int .i64 (g95 l 0), .int .i64 (g96 l 0)] := by
 have := r9_p0 h
 rwa [Nat.zero_mul, List.drop_zero] at this
theorem r9_p6 {l : List T9} {j : Nat} (h : j < l.length) : ((r9 l).drop (j * 9 + 6)).take 3 = [.int .i64 (g97 l j), .int .i64 (g98 l j), .int .i64 (g99 l j)] := by rw [← List.drop_drop, r9_at h]; rfl
theorem gO {l : List T9} (h : 0 < l.length) : ((r9 l).drop 6).take 3 = [.int .i64 (g97 l 0), .int .i64 (g98 l 0), .int .i64 (g99 l 0)] := by
 have := r9_p6 h
 rwa [Nat.zero_mul, Nat.zero_add] at this
theorem jf {l : List T9} : (r9 l).all AV.one = true := by
 induction l with
 | nil => rfl
 | cons p l ih => rw [bo]; simp [AV.one, ih]
section
variable {P : Program} {H : ac} {n : Nat}
end
set_option linter.unusedSimpArgs false
set_option linter.unusedVariables false
open Go.RowKit
def fL (a b : Vec) : Vec := ew (a.1 * b.1 - a.2.1 * b.2.1) (a.1 * b.2.1 + a.2.1 * b.1) (a.2.2 * b.2.2)
def bH (h m : Int) : Vec := fL (cR h) (cR m)
def dc (x y d : Int) : Bool := decide (1 ≤ d) && (decide (d ≤ 67108864) && (decide (-d ≤ x) && (decide (x ≤ d) && (decide (-d ≤ y) && (decide (y ≤ d) && decide (x * x + y * y = d * d))))))
theorem aR {x y d : Int} : dc x y d = true ↔ (1 ≤ d ∧ d ≤ 67108864) ∧ (-d ≤ x ∧ x ≤ d) ∧ (-d ≤ y ∧ y ≤ d) ∧ x * x + y * y = d * d := by
 unfold dc
 simp only [Bool.and_eq_true, decide_eq_true_eq]
 exact ⟨fun ⟨a, b, c, d, e, f, g⟩ => ⟨⟨a, b⟩, ⟨c, d⟩, ⟨e, f⟩, g⟩, fun ⟨⟨a, b⟩, ⟨c, d⟩, ⟨e, f⟩, g⟩ => ⟨a, b, c, d, e, f, g⟩⟩
theorem sq_le_of {x y d : Int} (hd : 0 ≤ d) (h : x * x + y * y = d * d) : (-d ≤ x ∧ x ≤ d) ∧ -d ≤ y ∧ y ≤ d := by
 have k : ∀ a b : Int, a * a + b * b = d * d → -d ≤ a ∧ a ≤ d := fun a b e => by
  have hb : 0 ≤ b * b := by
   rcases Int.le_total 0 b with q | q
   ·exact Int.mul_nonneg q q
   ·exact Int.mul_nonneg_of_nonpos_of_nonpos q q
  constructor
  ·rcases Int.lt_or_le a (-d) with q | q
   ·have t1 := Int.mul_le_mul_of_nonneg_left (show d ≤ -a by omega) hd
    have t2 := Int.mul_lt_mul_of_pos_right (show d < -a by omega) (show 0 < -a by omega)
    rw [Int.neg_mul_neg] at t2; omega
   ·exact q
  ·rcases Int.lt_or_le d a with q | q
   ·have t1 := Int.mul_le_mul_of_nonneg_left (show d ≤ a by omega) hd
    have t2 := Int.mul_lt_mul_of_pos_right (show d < a by omega) (show 0 < a by omega)
    omega
   ·exact q
 exact ⟨k x y h, k y x (by omega)⟩
theorem tur_ok {a b : Vec} (ha : eD a = true) (hb : eD b = true) : dc (fL a b).1 (fL a b).2.1 (fL a b).2.2 = true := by
 obtain ⟨⟨a1, a2⟩, ⟨a3, a4⟩, ⟨a5, a6⟩, a7⟩ := dm.1 ha
 obtain ⟨⟨b1, b2⟩, ⟨b3, b4⟩, ⟨b5, b6⟩, b7⟩ := dm.1 hb
 unfold fL
 have hd : 0 < a.2.2 * b.2.2 := Int.mul_pos (by omega) (by omega)
 have hD : a.2.2 * b.2.2 ≤ 8065 * 8065 := Int.mul_le_mul a2 b2 (by omega) (by omega)
 obtain ⟨g, hg, e1, e2, e3⟩ := lowV_mul (x := a.1 * b.1 - a.2.1 * b.2.1) (y := a.1 * b.2.1 + a.2.1 * b.1) (show a.2.2 * b.2.2 ≠ 0 by omega)
 have q : (a.1 * b.1 - a.2.1 * b.2.1) * (a.1 * b.1 - a.2.1 * b.2.1) + (a.1 * b.2.1 + a.2.1 * b.1) * (a.1 * b.2.1 + a.2.1 * b.1) = (a.2.2 * b.2.2) * (a.2.2 * b.2.2) := by
  have z1 : (a.1 * b.1 - a.2.1 * b.2.1) * (a.1 * b.1 - a.2.1 * b.2.1) + (a.1 * b.2.1 + a.2.1 * b.1) * (a.1 * b.2.1 + a.2.1 * b.1) = (a.1 * a.1 + a.2.1 * a.2.1) * (b.1 * b.1 + b.2.1 * b.2.1) := by grind
  rw [z1, a7, b7]; grind
 generalize ew (a.1 * b.1 - a.2.1 * b.2.1) (a.1 * b.2.1 + a.2.1 * b.1) (a.2.2 * b.2.2) = v at *
 rw [e1, e2, e3] at q
 rw [e3] at hd hD
 have vp : 0 < v.2.2 := by
  rcases Int.lt_or_le 0 v.2.2 with k | k
  ·exact k
  ·have := Int.mul_nonpos_of_nonpos_of_nonneg k (show 0 ≤ g by omega)
   omega
 have vl : v.2.2 ≤ v.2.2 * g := by
  have := Int.mul_le_mul_of_nonneg_left (show 1 ≤ g by omega) (show 0 ≤ v.2.2 by omega)
  omega
 have s : v.1 * v.1 + v.2.1 * v.2.1 = v.2.2 * v.2.2 := by
  have z : (v.1 * v.1 + v.2.1 * v.2.1) * (g * g) = v.2.2 * v.2.2 * (g * g) := by grind
  exact Int.eq_of_mul_eq_mul_right (show g * g ≠ 0 by have := Int.mul_pos hg hg; omega) z
 have r := sq_le_of (show 0 ≤ v.2.2 by omega) s
 exact aR.2 ⟨⟨by omega, by omega⟩, r.1, r.2, s⟩
theorem beam_ok (h m : Int) : dc (bH h m).1 (bH h m).2.1 (bH h m).2.2 = true := tur_ok (gh h) (gh m)
theorem vecOK_B {v : Vec} (h : eD v = true) : dc v.1 v.2.1 v.2.2 = true := by
 obtain ⟨a, b, c, d⟩ := dm.1 h
 exact aR.2 ⟨by omega, b, c, d⟩
theorem vec_nz {x y d : Int} (h : dc x y d = true) : ¬ (x = 0 ∧ y = 0) := fun k => by
 obtain ⟨⟨h1, -⟩, -, -, h⟩ := aR.1 h
 rw [k.1, k.2] at h
 have := Int.mul_pos (show 0 < d by omega) (show 0 < d by omega)
 omega
open Go.RowKit
abbrev Fr2 := Int × Int
theorem eK {a b c d e f : Int} (hb : 0 < b) (hd : 0 < d) (hf : 0 < f) (h1 : a * d ≤ c * b) (h2 : c * f ≤ e * d) : a * f ≤ e * b := by
 have k1 := Int.mul_le_mul_of_nonneg_right h1 (show 0 ≤ f by omega)
 have k2 := Int.mul_le_mul_of_nonneg_right h2 (show 0 ≤ b by omega)
 have e1 : a * d * f = a * f * d := by grind
 have e2 : c * b * f = c * f * b := by grind
 have e3 : e * d * b = e * b * d := by grind
 rw [e1, e2] at k1
 rw [e3] at k2
 exact Int.le_of_mul_le_mul_right (Int.le_trans k1 k2) hd
def mxF (s l : Fr2) : Fr2 := if s.1 * l.2 < l.1 * s.2 then l else s
def mnF (s h : Fr2) : Fr2 := if h.1 * s.2 < s.1 * h.2 then h else s
theorem mxF_pos {s l : Fr2} (hs : 0 < s.2) (hl : 0 < l.2) : 0 < (mxF s l).2 := by unfold mxF; split <;> assumption
theorem mnF_pos {s h : Fr2} (hs : 0 < s.2) (hh : 0 < h.2) : 0 < (mnF s h).2 := by unfold mnF; split <;> assumption
theorem mxF_le {s l : Fr2} {n m : Int} (hs : 0 < s.2) (hl : 0 < l.2) (hm : 0 < m) : (mxF s l).1 * m ≤ n * (mxF s l).2 ↔ s.1 * m ≤ n * s.2 ∧ l.1 * m ≤ n * l.2 := by
 unfold mxF
 split
 ·rename_i h
  exact ⟨fun k => ⟨eK hs hl hm (by omega) k, k⟩, fun k => k.2⟩
 ·rename_i h
  exact ⟨fun k => ⟨k, eK hl hs hm (by omega) k⟩, fun k => k.1⟩
theorem mnF_le {s h : Fr2} {n m : Int} (hs : 0 < s.2) (hh : 0 < h.2) (hm : 0 < m) : n * (mnF s h).2 ≤ (mnF s h).1 * m ↔ n * s.2 ≤ s.1 * m ∧ n * h.2 ≤ h.1 * m := by
 unfold mnF
 split
 ·rename_i g
  exact ⟨fun k => ⟨eK hm hh hs k (by omega), k⟩, fun k => k.2⟩
 ·rename_i g
  exact ⟨fun k => ⟨k, eK hm hs hh k (by omega)⟩, fun k => k.1⟩
def sbL (p d a b : Int) : Fr2 := if d < 0 then (p - b, -d) else (a - p, d)
def sbH (p d a b : Int) : Fr2 := if d < 0 then (p - a, -d) else (b - p, d)
theorem lC {p d a b : Int} (hd : ¬ d = 0) : 0 < (sbL p d a b).2 ∧ 0 < (sbH p d a b).2 := by
 unfold sbL sbH; split <;> exact ⟨by simp only; omega, by simp only; omega⟩
theorem sb_in {p d a b n m : Int} : ((sbL p d a b).1 * m ≤ n * (sbL p d a b).2 ∧ n * (sbH p d a b).2 ≤ (sbH p d a b).1 * m) ↔ (m * a ≤ m * p + n * d ∧ m * p + n * d ≤ m * b) := by
 unfold sbL sbH
 split
 ·simp only
  have e1 : (p - b) * m = m * p - m * b := by grind
  have e2 : (p - a) * m = m * p - m * a := by grind
  have e3 : n * -d = -(n * d) := by grind
  omega
 ·simp only
  have e1 : (a - p) * m = m * a - m * p := by grind
  have e2 : (b - p) * m = m * b - m * p := by grind
  omega
def RayP (px py vx vy x0 y0 x1 y1 n m : Int) : Prop := (m * x0 ≤ m * px + n * vx ∧ m * px + n * vx ≤ m * x1) ∧ m * y0 ≤ m * py + n * vy ∧ m * py + n * vy ≤ m * y1
def aU (s : Fr2 × Fr2) (p d a b : Int) : Fr2 × Fr2 := if d = 0 then s else (mxF s.1 (sbL p d a b), mnF s.2 (sbH p d a b))
def bv (s : Fr2 × Fr2) (p d a b : Int) : Bool := if d = 0 then decide (a ≤ p) && decide (p ≤ b) else !decide ((aU s p d a b).2.1 * (aU s p d a b).1.2 < (aU s p d a b).1.1 * (aU s p d a b).2.2)
def okS (s : Fr2 × Fr2) : Prop := 0 < s.1.2 ∧ 0 < s.2.2
def inS (s : Fr2 × Fr2) (n m : Int) : Prop := s.1.1 * m ≤ n * s.1.2 ∧ n * s.2.2 ≤ s.2.1 * m
theorem df {s : Fr2 × Fr2} {p d a b : Int} (h : okS s) : okS (aU s p d a b) := by
 unfold aU; split
 ·exact h
 ·rename_i hd
  exact ⟨mxF_pos h.1 (lC hd).1, mnF_pos h.2 (lC hd).2⟩
theorem jB {s : Fr2 × Fr2} {p d a b n m : Int} (h : okS s) (hm : 0 < m) (hd0 : d = 0 → a ≤ p ∧ p ≤ b) : inS (aU s p d a b) n m ↔ inS s n m ∧ m * a ≤ m * p + n * d ∧ m * p + n * d ≤ m * b := by
 unfold aU; split
 ·rename_i hd
  have hh := hd0 hd
  have k1 := Int.mul_le_mul_of_nonneg_left hh.1 (show 0 ≤ m by omega)
  have k2 := Int.mul_le_mul_of_nonneg_left hh.2 (show 0 ≤ m by omega)
  rw [hd, Int.mul_zero, Int.add_zero]
  exact ⟨fun k => ⟨k, k1, k2⟩, fun k => k.1⟩
 ·rename_i hd
  unfold inS
  simp only
  rw [mxF_le h.1 (lC hd).1 hm, mnF_le h.2 (lC hd).2 hm, ← sb_in]
  exact ⟨fun k => ⟨⟨k.1.1, k.2.1⟩, k.1.2, k.2.2⟩, fun k => ⟨⟨k.1.1, k.2.1⟩, k.1.2, k.2.2⟩⟩
theorem inS_lo {s : Fr2 × Fr2} (h : okS s) : inS s s.1.1 s.1.2 ↔ ¬ s.2.1 * s.1.2 < s.1.1 * s.2.2 := by
 unfold inS
 exact ⟨fun k => by have := k.2; omega, fun k => ⟨by omega, by omega⟩⟩
theorem inS_ord {s : Fr2 × Fr2} {n m : Int} (h : okS s) (hm : 0 < m) (k : inS s n m) : ¬ s.2.1 * s.1.2 < s.1.1 * s.2.2 := by
 have := eK h.1 hm h.2 k.1 k.2; omega
def dZ : Fr2 × Fr2 := ((0, 1), (8388608, 1))
def thS (px py vx vy x0 y0 x1 y1 : Int) : Fr2 × Fr2 := aU (aU dZ px vx x0 x1) py vy y0 y1
def thB (px py vx vy x0 y0 x1 y1 : Int) : Bool := bv dZ px vx x0 x1 && bv (aU dZ px vx x0 x1) py vy y0 y1
theorem c8 : okS dZ := ⟨by decide, by decide⟩
theorem thS_ok {px py vx vy x0 y0 x1 y1 : Int} : okS (thS px py vx vy x0 y0 x1 y1) := df (df c8)
theorem thS0_in {n m : Int} : inS dZ n m ↔ 0 ≤ n ∧ n ≤ 8388608 * m := by
 unfold inS dZ; simp only; omega
theorem ray_far {px py vx vy x0 y0 x1 y1 n m : Int} (hv : ¬ (vx = 0 ∧ vy = 0)) (hx : px - x0 ≤ 8388608 ∧ x1 - px ≤ 8388608) (hy : py - y0 ≤ 8388608 ∧ y1 - py ≤ 8388608) (hn : 0 ≤ n) (hm : 0 < m) (h : RayP px py vx vy x0 y0 x1 y1 n m) : n ≤ 8388608 * m := by
 obtain ⟨⟨h1, h2⟩, h3, h4⟩ := h
 have one : ∀ {p v a b : Int}, ¬ v = 0 → p - a ≤ 8388608 → b - p ≤ 8388608 → m * a ≤ m * p + n * v → m * p + n * v ≤ m * b → n ≤ 8388608 * m := fun {p v a b} hv ha hb k1 k2 => by
  rcases (by omega : 1 ≤ v ∨ v ≤ -1) with h | h
  ·have a1 := Int.mul_le_mul_of_nonneg_left h hn
   have a2 := Int.mul_le_mul_of_nonneg_left hb (show 0 ≤ m by omega)
   have e : m * (b - p) = m * b - m * p := by grind
   omega
  ·have a1 := Int.mul_le_mul_of_nonneg_left h hn
   have a2 := Int.mul_le_mul_of_nonneg_left ha (show 0 ≤ m by omega)
   have e : m * (p - a) = m * p - m * a := by grind
   omega
 by_cases hx0 : vx = 0
 ·exact one (fun h0 => hv ⟨hx0, h0⟩) hy.1 hy.2 h3 h4
 ·exact one hx0 hx.1 hx.2 h1 h2
theorem eR {s : Fr2 × Fr2} {p d a b : Int} (h : okS s) : bv s p d a b = true ↔ (d = 0 → a ≤ p ∧ p ≤ b) ∧ (¬ d = 0 → inS (aU s p d a b) (aU s p d a b).1.1 (aU s p d a b).1.2) := by
 unfold bv
 split
 ·rename_i hd
  simp only [Bool.and_eq_true, decide_eq_true_eq]
  exact ⟨fun k => ⟨fun _ => k, fun h => absurd hd h⟩, fun k => k.1 hd⟩
 ·rename_i hd
  rw [inS_lo (df h)]
  simp only [Bool.not_eq_true', decide_eq_false_iff_not]
  exact ⟨fun k => ⟨fun h => absurd h hd, fun _ => k⟩, fun k => k.2 hd⟩
theorem th_in {px py vx vy x0 y0 x1 y1 n m : Int} (hm : 0 < m) (hb : thB px py vx vy x0 y0 x1 y1 = true) : inS (thS px py vx vy x0 y0 x1 y1) n m ↔ (0 ≤ n ∧ n ≤ 8388608 * m) ∧ RayP px py vx vy x0 y0 x1 y1 n m := by
 unfold thB at hb
 rw [Bool.and_eq_true, eR c8, eR (df c8)] at hb
 unfold thS RayP
 rw [jB (df c8) hm hb.2.1, jB c8 hm hb.1.1, thS0_in]
 exact ⟨fun k => ⟨k.1.1, k.1.2, k.2⟩, fun k => ⟨⟨k.1, k.2.1⟩, k.2.2⟩⟩
theorem th_lo {px py vx vy x0 y0 x1 y1 : Int} (hv : ¬ (vx = 0 ∧ vy = 0)) (hb : thB px py vx vy x0 y0 x1 y1 = true) : inS (thS px py vx vy x0 y0 x1 y1) (thS px py vx vy x0 y0 x1 y1).1.1 (thS px py vx vy x0 y0 x1 y1).1.2 := by
 have hb' := hb
 unfold thB at hb
 rw [Bool.and_eq_true, eR c8, eR (df c8)] at hb
 by_cases hy : vy = 0
 ·have hx : ¬ vx = 0 := fun h => hv ⟨h, hy⟩
  have e : thS px py vx vy x0 y0 x1 y1 = aU dZ px vx x0 x1 := if_pos hy
  rw [e]; exact hb.1.2 hx
 ·exact hb.2.2 hy
theorem th_none {px py vx vy x0 y0 x1 y1 n m : Int} (hm : 0 < m) (hb : thB px py vx vy x0 y0 x1 y1 = false) (hn : 0 ≤ n ∧ n ≤ 8388608 * m) : ¬ RayP px py vx vy x0 y0 x1 y1 n m := fun k => by
 have : thB px py vx vy x0 y0 x1 y1 = true := by
  have hx : vx = 0 → x0 ≤ px ∧ px ≤ x1 := fun h => by
   have k1 := k.1
   rw [h, Int.mul_zero, Int.add_zero] at k1
   exact ⟨Int.le_of_mul_le_mul_left k1.1 hm, Int.le_of_mul_le_mul_left k1.2 hm⟩
  have hy : vy = 0 → y0 ≤ py ∧ py ≤ y1 := fun h => by
   have k1 := k.2
   rw [h, Int.mul_zero, Int.add_zero] at k1
   exact ⟨Int.le_of_mul_le_mul_left k1.1 hm, Int.le_of_mul_le_mul_left k1.2 hm⟩
  have i1 : inS (aU dZ px vx x0 x1) n m := (jB c8 hm hx).2 ⟨thS0_in.2 hn, k.1⟩
  have i2 : inS (aU (aU dZ px vx x0 x1) py vy y0 y1) n m := (jB (df c8) hm hy).2 ⟨i1, k.2⟩
  unfold thB
  rw [Bool.and_eq_true, eR c8, eR (df c8)]
  exact ⟨⟨hx, fun _ => (inS_lo (df c8)).2 (inS_ord (df c8) hm i1)⟩, hy, fun _ => (inS_lo (df (df c8))).2 (inS_ord (df (df c8)) hm i2)⟩
 rw [hb] at this; cases this
def bfrB (px py vx vy vd hi x0 y0 x1 y1 : Int) : Bool := thB px py vx vy x0 y0 x1 y1 && decide ((thS px py vx vy x0 y0 x1 y1).1.1 * vd < hi * (thS px py vx vy x0 y0 x1 y1).1.2)
def meeB (px py vx vy vd lo hi x0 y0 x1 y1 : Int) : Bool := thB px py vx vy x0 y0 x1 y1 && (decide (lo * (thS px py vx vy x0 y0 x1 y1).2.2 ≤ (thS px py vx vy x0 y0 x1 y1).2.1 * vd) && decide ((thS px py vx vy x0 y0 x1 y1).1.1 * vd ≤ hi * (thS px py vx vy x0 y0 x1 y1).1.2))
theorem mee_iff {px py vx vy vd lo hi x0 y0 x1 y1 : Int} (hd : 0 < vd) (hv : ¬ (vx = 0 ∧ vy = 0)) (hx : px - x0 ≤ 8388608 ∧ x1 - px ≤ 8388608) (hy : py - y0 ≤ 8388608 ∧ y1 - py ≤ 8388608) (h0 : 0 ≤ lo) (hlh : lo ≤ hi) :
  meeB px py vx vy vd lo hi x0 y0 x1 y1 = true ↔ ∃ n m : Int, 0 ≤ n ∧ 0 < m ∧ lo * m ≤ n * vd ∧ n * vd ≤ hi * m ∧ RayP px py vx vy x0 y0 x1 y1 n m := by
 unfold meeB
 rw [Bool.and_eq_true, Bool.and_eq_true, decide_eq_true_eq, decide_eq_true_eq]
 constructor
 ·rintro ⟨hb, h1, h2⟩
  have hl := th_lo hv hb
  have hp : okS (thS px py vx vy x0 y0 x1 y1) := thS_ok
  have hin : ∀ n m : Int, 0 < m → inS (thS px py vx vy x0 y0 x1 y1) n m → (0 ≤ n ∧ n ≤ 8388608 * m) ∧ RayP px py vx vy x0 y0 x1 y1 n m := fun n m hm => (th_in hm hb).1
  generalize thS px py vx vy x0 y0 x1 y1 = s at *
  by_cases hc : lo * s.1.2 ≤ s.1.1 * vd
  ·have k := hin _ _ hp.1 hl
   exact ⟨_, _, k.1.1, hp.1, hc, h2, k.2⟩
  ·have i : inS s lo vd := by
    refine ⟨by omega, ?_⟩
    omega
   have k := hin _ _ hd i
   have m1 := Int.mul_le_mul_of_nonneg_right hlh (show 0 ≤ vd by omega)
   exact ⟨_, _, k.1.1, hd, by omega, by omega, k.2⟩
 ·rintro ⟨n, m, hn, hm, h1, h2, hr⟩
  have hf := ray_far hv hx hy hn hm hr
  have hb : thB px py vx vy x0 y0 x1 y1 = true := by
   cases hq : thB px py vx vy x0 y0 x1 y1
   ·exact absurd hr (th_none hm hq ⟨hn, hf⟩)
   ·rfl
  have hi' := (th_in hm hb).2 ⟨⟨hn, hf⟩, hr⟩
  have hp : okS (thS px py vx vy x0 y0 x1 y1) := thS_ok
  refine ⟨hb, ?_, ?_⟩
  ·generalize thS px py vx vy x0 y0 x1 y1 = s at *
   have k := eK (a := lo) (b := vd) (c := n) (d := m) (e := s.2.1) (f := s.2.2) hd hm hp.2 h1 hi'.2
   exact k
  ·generalize thS px py vx vy x0 y0 x1 y1 = s at *
   have k := eK (a := s.1.1) (b := s.1.2) (c := n) (d := m) (e := hi) (f := vd) hp.1 hm hd hi'.1 h2
   exact k
theorem reach_bd {v D lo hi n m mn mx : Int} (hD : 0 < D) (hm : 0 < m) (h1 : lo * m ≤ n * D) (h2 : n * D ≤ hi * m) (k1 : mn ≤ lo * v) (k2 : mn ≤ hi * v) (k3 : lo * v ≤ mx) (k4 : hi * v ≤ mx) : m * (mn / D) ≤ n * v ∧ n * v ≤ m * (mx / D + 1) := by
 have q1 : D * (mn / D) ≤ mn := Int.mul_ediv_self_le (by omega)
 have q2 : mx < D * (mx / D + 1) := by
  have := Int.lt_mul_ediv_self_add (x := mx) hD
  have e : D * (mx / D + 1) = D * (mx / D) + D := by grind
  omega
 have w1 : m * mn ≤ n * v * D ∧ n * v * D ≤ m * mx := by
  have a1 := Int.mul_le_mul_of_nonneg_left k1 (show 0 ≤ m by omega)
  have a2 := Int.mul_le_mul_of_nonneg_left k2 (show 0 ≤ m by omega)
  have a3 := Int.mul_le_mul_of_nonneg_left k3 (show 0 ≤ m by omega)
  have a4 := Int.mul_le_mul_of_nonneg_left k4 (show 0 ≤ m by omega)
  rcases Int.le_total 0 v with hv | hv
  ·have b1 := Int.mul_le_mul_of_nonneg_right h1 hv
   have b2 := Int.mul_le_mul_of_nonneg_right h2 hv
   have e1 : lo * m * v = m * (lo * v) := by grind
   have e2 : n * D * v = n * v * D := by grind
   have e3 : hi * m * v = m * (hi * v) := by grind
   omega
  ·have b1 := Int.mul_le_mul_of_nonpos_right h1 hv
   have b2 := Int.mul_le_mul_of_nonpos_right h2 hv
   have e1 : lo * m * v = m * (lo * v) := by grind
   have e2 : n * D * v = n * v * D := by grind
   have e3 : hi * m * v = m * (hi * v) := by grind
   omega
 constructor
 ·have a1 := Int.mul_le_mul_of_nonneg_left q1 (show 0 ≤ m by omega)
  have e : m * (D * (mn / D)) = m * (mn / D) * D := by grind
  exact Int.le_of_mul_le_mul_right (show m * (mn / D) * D ≤ n * v * D by omega) hD
 ·have a1 := Int.mul_le_mul_of_nonneg_left (show mx ≤ D * (mx / D + 1) by omega) (show 0 ≤ m by omega)
  have e : m * (D * (mx / D + 1)) = m * (mx / D + 1) * D := by grind
  exact Int.le_of_mul_le_mul_right (show n * v * D ≤ m * (mx / D + 1) * D by omega) hD
theorem met_in {v D lo hi n m mn mx c X0 X1 : Int} (hD : 0 < D) (hm : 0 < m) (h1 : lo * m ≤ n * D) (h2 : n * D ≤ hi * m) (k1 : mn ≤ lo * v) (k2 : mn ≤ hi * v) (k3 : lo * v ≤ mx) (k4 : hi * v ≤ mx)
  (hr : m * (c * 64 - X1) ≤ m * 0 + n * v ∧ m * 0 + n * v ≤ m * (c * 64 + 64 - X0)) : X0 + mn / D ≤ c * 64 + 64 ∧ c * 64 ≤ X1 + mx / D + 1 := by
 have q := reach_bd hD hm h1 h2 k1 k2 k3 k4
 rw [Int.mul_zero, Int.zero_add] at hr
 have a := Int.le_of_mul_le_mul_left (Int.le_trans q.1 hr.2) hm
 have b := Int.le_of_mul_le_mul_left (Int.le_trans hr.1 q.2) hm
 omega
theorem mee_range {X0 Y0 X1 Y1 vx vy vd lo hi cx cy mnx mxx mny mxy : Int} (hd : 0 < vd) (hv : ¬ (vx = 0 ∧ vy = 0)) (hX : -1048576 ≤ X0 ∧ X1 ≤ 1048576 ∧ X0 ≤ X1) (hY : -1048576 ≤ Y0 ∧ Y1 ≤ 1048576 ∧ Y0 ≤ Y1) (hcx : -32768 ≤ cx ∧ cx ≤ 32768) (hcy : -32768 ≤ cy ∧ cy ≤ 32768) (hlo : 0 ≤ lo) (hlh : lo ≤ hi)
  (x1 : mnx ≤ lo * vx) (x2 : mnx ≤ hi * vx) (x3 : lo * vx ≤ mxx) (x4 : hi * vx ≤ mxx) (y1 : mny ≤ lo * vy) (y2 : mny ≤ hi * vy) (y3 : lo * vy ≤ mxy) (y4 : hi * vy ≤ mxy)
  (h : meeB 0 0 vx vy vd lo hi (cx * 64 - X1) (cy * 64 - Y1) (cx * 64 + 64 - X0) (cy * 64 + 64 - Y0) = true) :
  (X0 + mnx / vd ≤ cx * 64 + 64 ∧ cx * 64 ≤ X1 + mxx / vd + 1) ∧ Y0 + mny / vd ≤ cy * 64 + 64 ∧ cy * 64 ≤ Y1 + mxy / vd + 1 := by
 obtain ⟨n, m, hn, hm, h1, h2, hr⟩ := (mee_iff hd hv (by omega) (by omega) hlo hlh).1 h
 exact ⟨met_in hd hm h1 h2 x1 x2 x3 x4 hr.1, met_in hd hm h1 h2 y1 y2 y3 y4 hr.2⟩
open Go.RowKit
def thG (px py vx vy vd x0 y0 x1 y1 : Int) : Bool := lnP px py && (dc vx vy vd && lnR x0 y0 x1 y1)
def eh (px py vx vy vd lo hi x0 y0 x1 y1 : Int) : Bool := decide (0 ≤ lo) && (decide (lo ≤ hi) && (decide (hi ≤ 65536) && (thG px py vx vy vd x0 y0 x1 y1 && meeB px py vx vy vd lo hi x0 y0 x1 y1)))
def dF (px py vx vy vd hi x0 y0 x1 y1 : Int) : Bool := decide (0 ≤ hi) && (decide (hi ≤ 65536) && (thG px py vx vy vd x0 y0 x1 y1 && bfrB px py vx vy vd hi x0 y0 x1 y1))
theorem g7 {px py vx vy vd x0 y0 x1 y1 : Int} : thG px py vx vy vd x0 y0 x1 y1 = true ↔ lnP px py = true ∧ dc vx vy vd = true ∧ lnR x0 y0 x1 y1 = true := by
 unfold thG; simp only [Bool.and_eq_true]
theorem thG_vec {px py vx vy vd x0 y0 x1 y1 : Int} (h : thG px py vx vy vd x0 y0 x1 y1 = true) : 0 < vd ∧ ¬ (vx = 0 ∧ vy = 0) := by
 have h := (g7.1 h).2.1
 exact ⟨by have := (aR.1 h).1; omega, vec_nz h⟩
def bdSp (s : Fr2 × Fr2) : Prop := ((-8388608 ≤ s.1.1 ∧ s.1.1 ≤ 8388608) ∧ 1 ≤ s.1.2 ∧ s.1.2 ≤ 67108864) ∧ (-8388608 ≤ s.2.1 ∧ s.2.1 ≤ 8388608) ∧ 1 ≤ s.2.2 ∧ s.2.2 ≤ 67108864
def bdF (f : Fr2) : Prop := (-8388608 ≤ f.1 ∧ f.1 ≤ 8388608) ∧ 1 ≤ f.2 ∧ f.2 ≤ 67108864
theorem mxF_bd {s l : Fr2} (hs : bdF s) (hl : bdF l) : bdF (mxF s l) := by unfold mxF; split <;> assumption
theorem mnF_bd {s l : Fr2} (hs : bdF s) (hl : bdF l) : bdF (mnF s l) := by unfold mnF; split <;> assumption
theorem sb_bd {p d a b : Int} (hp : -2097152 ≤ p ∧ p ≤ 2097152) (ha : -2097152 ≤ a ∧ a ≤ 2097152) (hb : -2097152 ≤ b ∧ b ≤ 2097152) (hd : -67108864 ≤ d ∧ d ≤ 67108864) (h0 : ¬ d = 0) : bdF (sbL p d a b) ∧ bdF (sbH p d a b) := by
 unfold sbL sbH bdF; split <;> (simp only; omega)
theorem slab_bd {s : Fr2 × Fr2} {p d a b : Int} (h : bdSp s) (hp : -2097152 ≤ p ∧ p ≤ 2097152) (ha : -2097152 ≤ a ∧ a ≤ 2097152) (hb : -2097152 ≤ b ∧ b ≤ 2097152) (hd : -67108864 ≤ d ∧ d ≤ 67108864) : bdSp (aU s p d a b) := by
 unfold aU; split
 ·exact h
 ·rename_i h0
  have k := sb_bd hp ha hb hd h0
  exact ⟨mxF_bd h.1 k.1, mnF_bd h.2 k.2⟩
theorem thS0_bd : bdSp dZ := by unfold bdSp dZ; decide
theorem thS_bd {px py vx vy vd x0 y0 x1 y1 : Int} (h : thG px py vx vy vd x0 y0 x1 y1 = true) : bdSp (aU dZ px vx x0 x1) ∧ bdSp (thS px py vx vy x0 y0 x1 y1) := by
 obtain ⟨h1, h3, h2⟩ := g7.1 h
 have h1 := lnP_iff.1 h1
 have h2 := cX.1 h2
 have h3 := aR.1 h3
 have k := slab_bd (a := x0) (b := x1) (p := px) (d := vx) thS0_bd (by omega) (by omega) (by omega) (by omega)
 exact ⟨k, slab_bd k (by omega) (by omega) (by omega) (by omega)⟩
def ei (a0 b0 a1 b1 x0 y0 x1 y1 : Int) : Bool := lnR a0 b0 a1 b1 && (lnR x0 y0 x1 y1 && lnR (a0 - x1) (b0 - y1) (a1 - x0) (b1 - y0))
def ay (a n d lo hi : Int) : Int := a + (if hi * n < lo * n then hi * n else lo * n) / d
def bt (b n d lo hi : Int) : Int := b + (if lo * n < hi * n then hi * n else lo * n) / d + 1
def cm (x0 y0 x1 y1 vx vy vd lo hi : Int) (cx cy : Int) : Bool := ei (cx * 64) (cy * 64) (cx * 64 + 64) (cy * 64 + 64) x0 y0 x1 y1 && eh 0 0 vx vy vd lo hi (cx * 64 - x1) (cy * 64 - y1) (cx * 64 + 64 - x0) (cy * 64 + 64 - y0)
def dl (x0 y0 x1 y1 vx vy vd lo hi : Int) : List (Int × Int) := cr (cm x0 y0 x1 y1 vx vy vd lo hi) (spl (ay x0 vx vd lo hi)) (cg (ay x0 vx vd lo hi) (bt x1 vx vd lo hi)) (spl (ay y0 vy vd lo hi)) (cg (ay y0 vy vd lo hi) (bt y1 vy vd lo hi))
theorem g8 {a b n d lo hi : Int} (hd : 0 < d) (hn : -d ≤ n ∧ n ≤ d) (h0 : 0 ≤ lo) (hh : lo ≤ hi) (h1 : hi ≤ 2048) : (a - 2048 ≤ ay a n d lo hi ∧ ay a n d lo hi ≤ a + 2048) ∧ (b - 2047 ≤ bt b n d lo hi ∧ bt b n d lo hi ≤ b + 2049) ∧ (a ≤ b → ay a n d lo hi ≤ bt b n d lo hi) := by
 have k : ∀ m : Int, 0 ≤ m → m ≤ 2048 → -2048 * d ≤ m * n ∧ m * n ≤ 2048 * d := fun m m0 m1 => by
  have a1 := Int.mul_le_mul_of_nonneg_left hn.1 m0
  have a2 := Int.mul_le_mul_of_nonneg_left hn.2 m0
  have a3 := Int.mul_le_mul_of_nonneg_right m1 (show 0 ≤ d by omega)
  have e : m * -d = -(m * d) := Int.mul_neg _ _
  omega
 have q : ∀ m : Int, -2048 * d ≤ m → m ≤ 2048 * d → -2048 ≤ m / d ∧ m / d ≤ 2048 := fun m h h' => ⟨(Int.le_ediv_iff_mul_le hd).2 h, Int.ediv_le_of_le_mul hd h'⟩
 have k1 := k lo h0 (by omega)
 have k2 := k hi (by omega) h1
 have m1 : ∀ m : Int, m = (if hi * n < lo * n then hi * n else lo * n) → -2048 ≤ m / d ∧ m / d ≤ 2048 := fun m e => q m (by rw [e]; split <;> omega) (by rw [e]; split <;> omega)
 have m2 : ∀ m : Int, m = (if lo * n < hi * n then hi * n else lo * n) → -2048 ≤ m / d ∧ m / d ≤ 2048 := fun m e => q m (by rw [e]; split <;> omega) (by rw [e]; split <;> omega)
 have r1 := m1 _ rfl
 have r2 := m2 _ rfl
 have r3 : (if hi * n < lo * n then hi * n else lo * n) / d ≤ (if lo * n < hi * n then hi * n else lo * n) / d := Int.ediv_le_ediv hd (by split <;> split <;> omega)
 unfold ay bt
 omega
theorem jC {a b : Int} (h : -1050624 ≤ a ∧ a ≤ b ∧ b ≤ 1050625) : (-16418 ≤ spl a ∧ spl a ≤ 16416) ∧ (-16417 ≤ sph b ∧ sph b ≤ 16416) ∧ spl a ≤ sph b ∧ spl a + (cg a b : Int) = sph b + 1 ∧ 1 ≤ cg a b ∧ cg a b ≤ 32900 := by
 unfold cg spl sph; omega
theorem swp_range {x0 y0 x1 y1 vx vy vd lo hi cx cy : Int} (hx : -1048576 ≤ x0 ∧ x0 ≤ x1 ∧ x1 ≤ 1048576) (hy : -1048576 ≤ y0 ∧ y0 ≤ y1 ∧ y1 ≤ 1048576) (h : cm x0 y0 x1 y1 vx vy vd lo hi cx cy = true) :
  (ay x0 vx vd lo hi ≤ cx * 64 + 64 ∧ cx * 64 ≤ bt x1 vx vd lo hi) ∧ ay y0 vy vd lo hi ≤ cy * 64 + 64 ∧ cy * 64 ≤ bt y1 vy vd lo hi := by
 unfold cm eh at h
 simp only [Bool.and_eq_true, decide_eq_true_eq] at h
 obtain ⟨hm, h0, hl, h6, hg, hmee⟩ := h
 unfold ei at hm
 simp only [Bool.and_eq_true, cX] at hm
 have hv := thG_vec hg
 have k := mee_range (X0 := x0) (Y0 := y0) (X1 := x1) (Y1 := y1) hv.1 hv.2 (by omega) (by omega) (cx := cx) (cy := cy) (by omega) (by omega) h0 hl
  (mnx := if hi * vx < lo * vx then hi * vx else lo * vx) (mxx := if lo * vx < hi * vx then hi * vx else lo * vx) (mny := if hi * vy < lo * vy then hi * vy else lo * vy) (mxy := if lo * vy < hi * vy then hi * vy else lo * vy)
  (by split <;> omega) (by split <;> omega) (by split <;> omega) (by split <;> omega) (by split <;> omega) (by split <;> omega) (by split <;> omega) (by split <;> omega) hmee
 unfold ay bt
 omega
theorem spl_le {a c : Int} : spl a ≤ c ↔ a ≤ c * 64 + 64 := by unfold spl; omega
theorem le_sph {b c : Int} : c ≤ sph b ↔ c * 64 ≤ b := by unfold sph; omega
open Go.RowKit
theorem set_last {H : ac} {a b : ABlk} : (H ++ [a]).set H.length b = H ++ [b] := by
 rw [List.set_append_right _ _ (Nat.le_refl _), Nat.sub_self]; rfl
theorem dX {P : Program} {fn : Func} {H l1 : ac} {b0 b1 : ABlk} {R : AV → ac → Prop} {F : Fr} {e : Exit} (he : e = .ret ∨ e = .normal) (hbel : HBel (H ++ [b0]).length (H ++ [b0])) (hb : b1.bel (H ++ [b0]).length = true) {x : AV} (hx : cM P fn F (H ++ b1 :: l1) = some x) (hp : x.bel 0 = true) (hR : R x (H ++ [b1])) : dr P fn (H ++ [b0]).length R e F (H ++ b1 :: l1) := by
 have h := hbel.put H.length hb
 rw [set_last] at h
 have hl : (H ++ [b1]).length = (H ++ [b0]).length := by rw [List.length_append, List.length_append]; rfl
 have ha : (H ++ [b1]) ++ l1 = H ++ b1 :: l1 := by rw [List.append_assoc]; rfl
 have k : dr P fn (H ++ [b1]).length R e F ((H ++ [b1]) ++ l1) := ae he (by rw [hl]; exact h) (x := x) (by rw [ha]; exact hx) hp hR
 rw [hl, ha] at k; exact k
theorem jY {P : Program} {N n : Nat} {Q : Exit → Fr → ac → Prop} {ops : Array Oper} {id : Nat} {F : Fr} {H : ac} (q : Bool) (hm : P.follows .mixedOrders = true) (reps : List (List Nat)) (hok : i8 q false N ops reps = true) (I : Fr → ac → Prop)
  (h1 : ∀ τ ∈ reps, ∀ J : Fr → ac → Prop, (∀ F' H', (∃ σ F2 H2, I F2 H2 ∧ Abs n σ F' H' F2 H2) → J F' H') → AGo P N n q Q [.opsD H.length (gL ops.toList τ), .inv J] F H) (h2 : ∀ F2 H2, I F2 H2 → Q .normal F2 H2) : AW P N n (.region id ops true) Q F H := by
 intro E w a k1 k2 k3 k4 k5
 have key := lY (id := id) (q := q) (Q := eC (fun F' H' => ∃ σ F2 H2, I F2 H2 ∧ Abs n σ F' H' F2 H2) Q) hm reps hok (.inl rfl) (fun τ hτ => h1 τ hτ (fun F' H' => ∃ σ F2 H2, I F2 H2 ∧ Abs n σ F' H' F2 H2) (fun _ _ h => h)) E w a k1 k2 k3 k4 k5
 refine wp_mono key fun e a w hh => ?_
 obtain ⟨E', F', H', hq, l, s, d, f, m⟩ := hh
 cases e with
 | normal =>
  obtain ⟨σ, F2, H2, hi, ab⟩ := hq
  obtain ⟨E2, l2, f2, m2⟩ := ab.emb l.n f m
  exact ⟨E2, F2, H2, h2 F2 H2 hi, l.trans l2, s, d, f2, m2⟩
 | _ => exact ⟨E', F', H', hq, l, s, d, f, m⟩
theorem AcN {P : Program} (q : Bool) {f : FuncId} {fn : Func} {args : List AV} {R : AV → ac → Prop} {H : ac} (hf : P.funcs[f]? = some fn) {c : Code} (h : HBel H.length H → ∀ Q : Exit → Fr → ac → Prop, (∀ F H', dr P fn H.length R .normal F H' → Q .normal F H') → AGo P fn.ntmps H.length q Q [.code c] (argF 0 args) H)
  (hb : fn.body = some c := by rfl) (hm : P.follows .mixedOrders = true := by exact try_mixed) (ha : args.length ≤ fn.ntmps := by exact Nat.le_of_ble_eq_true (by kernel_rfl)) (hc : db fn.ntmps q c = true := by kernel_rfl) : ACalls P f args H R :=
 b9 hm hf q _ rfl ha (by rw [hb]; exact congrArg some hc) fun hbel Q _ hQ c' hc' => by
  rw [hb] at hc'
  injection hc' with hc'
  subst hc'
  exact h hbel Q hQ
open Go.RowKit
set_option maxHeartbeats 4000000
set_option maxRecDepth 100000
def mkV (b : Bool) (n : Int) : Int := if b = true then n else 0
def thO (px py vx vy vd x0 y0 x1 y1 : Int) : Bool := thG px py vx vy vd x0 y0 x1 y1 && thB px py vx vy x0 y0 x1 y1
def thV (px py vx vy vd x0 y0 x1 y1 : Int) : Fr2 × Fr2 := if thO px py vx vy vd x0 y0 x1 y1 = true then thS px py vx vy x0 y0 x1 y1 else ((0, 0), (0, 0))
theorem thO_t {px py vx vy vd x0 y0 x1 y1 : Int} (h : thO px py vx vy vd x0 y0 x1 y1 = true) : thG px py vx vy vd x0 y0 x1 y1 = true ∧ thB px py vx vy x0 y0 x1 y1 = true := by unfold thO at h; rwa [Bool.and_eq_true] at h
theorem thO_me {px py vx vy vd x0 y0 x1 y1 lo hi : Int} (h : thO px py vx vy vd x0 y0 x1 y1 = false) : eh px py vx vy vd lo hi x0 y0 x1 y1 = false ∧ dF px py vx vy vd hi x0 y0 x1 y1 = false := by
 unfold eh dF meeB bfrB
 unfold thO at h
 cases hg : thG px py vx vy vd x0 y0 x1 y1
 ·simp
 ·rw [hg, Bool.true_and] at h; rw [h]; simp
theorem gm (H : ac) (n : Int) : ACalls Tryz.prog 243 [.int .i64 n] H (fun v H' => v = .bool (cF n 2097152) ∧ H' = H) := by
 refine AcT true Tryz.func243 ?_; intro hbel Q hQ
 refine aQ ?_
 refine al (fun h1 => ?_) (fun h1 => ?_)
 ·have h1d := bsT h1
  have g'1 := (jn @h1 @h1d)
  refine aa g'1 ?_
  exact hQ _ _ (au (.inl rfl) hbel (x := .bool (decide (n ≤ 2097152))) (ai Tryz.results243) rfl ⟨by simp [cF, h1d], rfl⟩)
 ·have h1d := bsT h1
  have g'2 := (jn @h1 @h1d)
  refine aa g'2 ?_
  exact hQ _ _ (au (.inl rfl) hbel (x := .bool false) (ai Tryz.results243) rfl ⟨by simp [cF, h1d], rfl⟩)
theorem svpt_c (H : ac) (x : Int) (y : Int) : ACalls Tryz.prog 239 [.agg [.int .i64 x, .int .i64 y]] H (fun v H' => v = .bool (lnP x y) ∧ H' = H) := by
 refine AcT true Tryz.func239 ?_; intro hbel Q hQ
 refine aQ ?_
 refine af (by kernel_rfl) (gm _ x) ?_
 refine aQ ?_
 refine al (fun h1 => ?_) (fun h1 => ?_)
 ·have h1d := bsT h1
  have g'3 := (jn @h1 @h1d)
  refine aa g'3 ?_
  refine af (by kernel_rfl) (gm _ y) ?_
  refine aa g'3 ?_
  exact hQ _ _ (ae (.inl rfl) hbel (x := .bool (cF y 2097152)) (ai Tryz.results239) rfl ⟨by simp [lnP, h1d], rfl⟩)
 ·have h1d := bsT h1
  have g'4 := (jn @h1 @h1d)
  refine aa g'4 ?_
  exact hQ _ _ (ae (.inl rfl) hbel (x := .bool false) (ai Tryz.results239) rfl ⟨by simp [lnP, h1d], rfl⟩)
theorem svv_c (H : ac) (x : Int) (y : Int) (d : Int) : ACalls Tryz.prog 240 [.agg [.int .i64 x, .int .i64 y, .int .i64 d]] H (fun v H' => v = .bool (dc x y d) ∧ H' = H) := by
 refine AcT true Tryz.func240 ?_; intro hbel Q hQ
 refine aQ ?_
 refine al (fun h1 => ?_) (fun h1 => ?_)
 ·have h1d := bsT h1
  have g'5 := (jn @h1 @h1d)
  refine aa g'5 ?_
  refine al (fun h2 => ?_) (fun h2 => ?_)
  ·have h2d := bsT h2
   have g'6 := (jn @h2 (jn @h2d g'5))
   refine aa g'6 ?_
   refine al (fun h3 => ?_) (fun h3 => ?_)
   ·have h3d := bsT h3
    have g'7 := (jn @h3 (jn @h3d g'6))
    refine aa g'7 ?_
    refine al (fun h4 => ?_) (fun h4 => ?_)
    ·have h4d := bsT h4
     have g'8 := (jn @h4 (jn @h4d g'7))
     refine aa g'8 ?_
     refine al (fun h5 => ?_) (fun h5 => ?_)
     ·have h5d := bsT h5
      have g'9 := (jn @h5 (jn @h5d g'8))
      refine aa g'9 ?_
      refine ak (fun h6 => ?_) (fun h6 => ?_)
      ·have h6d := bsT h6
       have g'10 := (jn @h6 (jn @h6d g'9))
       refine aa g'10 ?_
       exact hQ _ _ (ae (.inl rfl) hbel (x := .bool false) (ai Tryz.results240) rfl ⟨by first | (refine congrArg AV.bool ?_; rw [Bool.eq_iff_iff, aR, beq_iff_eq]; exact ⟨fun e => ⟨⟨by omega, by omega⟩, ⟨by omega, by omega⟩, ⟨by omega, by omega⟩, e⟩, fun e => e.2.2.2⟩) | (refine congrArg AV.bool ?_; rw [Bool.eq_iff_iff, aR]; exact ⟨fun e => (by cases e), fun k => (by omega)⟩), rfl⟩)
      ·have h6d := bsT h6
       have hm1 := bE (a := x) (b := x) (A := 67108864) (B := 67108864) (by omega) (by omega)
       have hm2 := bE (a := y) (b := y) (A := 67108864) (B := 67108864) (by omega) (by omega)
       have hm3 := bE (a := d) (b := d) (A := 67108864) (B := 67108864) (by omega) (by omega)
       have g'11 := (jn @h6 (jn @h6d g'9))
       refine aa g'11 ?_
       exact hQ _ _ (ae (.inl rfl) hbel (x := .bool (((x * x) + (y * y)) == (d * d))) (ai Tryz.results240) rfl ⟨by first | (refine congrArg AV.bool ?_; rw [Bool.eq_iff_iff, aR, beq_iff_eq]; exact ⟨fun e => ⟨⟨by omega, by omega⟩, ⟨by omega, by omega⟩, ⟨by omega, by omega⟩, e⟩, fun e => e.2.2.2⟩) | (refine congrArg AV.bool ?_; rw [Bool.eq_iff_iff, aR]; exact ⟨fun e => (by cases e), fun k => (by omega)⟩), rfl⟩)
     ·have h5d := bsT h5
      have g'12 := (jn @h5 (jn @h5d g'8))
      refine aa g'12 ?_
      exact hQ _ _ (ae (.inl rfl) hbel (x := .bool false) (ai Tryz.results240) rfl ⟨by first | (refine congrArg AV.bool ?_; rw [Bool.eq_iff_iff, aR, beq_iff_eq]; exact ⟨fun e => ⟨⟨by omega, by omega⟩, ⟨by omega, by omega⟩, ⟨by omega, by omega⟩, e⟩, fun e => e.2.2.2⟩) | (refine congrArg AV.bool ?_; rw [Bool.eq_iff_iff, aR]; exact ⟨fun e => (by cases e), fun k => (by omega)⟩), rfl⟩)
    ·have h4d := bsT h4
     have g'13 := (jn @h4 (jn @h4d g'7))
     refine aa g'13 ?_
     exact hQ _ _ (ae (.inl rfl) hbel (x := .bool false) (ai Tryz.results240) rfl ⟨by first | (refine congrArg AV.bool ?_; rw [Bool.eq_iff_iff, aR, beq_iff_eq]; exact ⟨fun e => ⟨⟨by omega, by omega⟩, ⟨by omega, by omega⟩, ⟨by omega, by omega⟩, e⟩, fun e => e.2.2.2⟩) | (refine congrArg AV.bool ?_; rw [Bool.eq_iff_iff, aR]; exact ⟨fun e => (by cases e), fun k => (by omega)⟩), rfl⟩)
   ·have h3d := bsT h3
    have g'14 := (jn @h3 (jn @h3d g'6))
    refine aa g'14 ?_
    exact hQ _ _ (ae (.inl rfl) hbel (x := .bool false) (ai Tryz.results240) rfl ⟨by first | (refine congrArg AV.bool ?_; rw [Bool.eq_iff_iff, aR, beq_iff_eq]; exact ⟨fun e => ⟨⟨by omega, by omega⟩, ⟨by omega, by omega⟩, ⟨by omega, by omega⟩, e⟩, fun e => e.2.2.2⟩) | (refine congrArg AV.bool ?_; rw [Bool.eq_iff_iff, aR]; exact ⟨fun e => (by cases e), fun k => (by omega)⟩), rfl⟩)
  ·have h2d := bsT h2
   have g'15 := (jn @h2 (jn @h2d g'5))
   refine aa g'15 ?_
   exact hQ _ _ (ae (.inl rfl) hbel (x := .bool false) (ai Tryz.results240) rfl ⟨by first | (refine congrArg AV.bool ?_; rw [Bool.eq_iff_iff, aR, beq_iff_eq]; exact ⟨fun e => ⟨⟨by omega, by omega⟩, ⟨by omega, by omega⟩, ⟨by omega, by omega⟩, e⟩, fun e => e.2.2.2⟩) | (refine congrArg AV.bool ?_; rw [Bool.eq_iff_iff, aR]; exact ⟨fun e => (by cases e), fun k => (by omega)⟩), rfl⟩)
 ·have h1d := bsT h1
  have g'16 := (jn @h1 @h1d)
  refine aa g'16 ?_
  exact hQ _ _ (ae (.inl rfl) hbel (x := .bool false) (ai Tryz.results240) rfl ⟨by first | (refine congrArg AV.bool ?_; rw [Bool.eq_iff_iff, aR, beq_iff_eq]; exact ⟨fun e => ⟨⟨by omega, by omega⟩, ⟨by omega, by omega⟩, ⟨by omega, by omega⟩, e⟩, fun e => e.2.2.2⟩) | (refine congrArg AV.bool ?_; rw [Bool.eq_iff_iff, aR]; exact ⟨fun e => (by cases e), fun k => (by omega)⟩), rfl⟩)
theorem lD (H : ac) (x0 : Int) (y0 : Int) (x1 : Int) (y1 : Int) : ACalls Tryz.prog 233 [.agg [.int .i64 x0, .int .i64 y0, .int .i64 x1, .int .i64 y1]] H (fun v H' => v = .bool (lnR x0 y0 x1 y1) ∧ H' = H) := by
 refine AcT true Tryz.func233 ?_; intro hbel Q hQ
 refine aQ ?_
 refine af (by kernel_rfl) (gm _ x0) ?_
 refine aQ ?_
 refine al (fun h1 => ?_) (fun h1 => ?_)
 ·have h1d := bsT h1
  have wx0 := bl.1 h1d
  have g'17 := (jn @h1 @h1d)
  refine aa g'17 ?_
  refine af (by kernel_rfl) (gm _ y0) ?_
  refine aa g'17 ?_
  refine al (fun h2 => ?_) (fun h2 => ?_)
  ·have h2d := bsT h2
   have wy0 := bl.1 h2d
   have g'18 := (jn @h2 (jn @h2d g'17))
   refine aa g'18 ?_
   refine af (by kernel_rfl) (gm _ x1) ?_
   refine aa g'18 ?_
   refine al (fun h3 => ?_) (fun h3 => ?_)
   ·have h3d := bsT h3
    have wx1 := bl.1 h3d
    have g'19 := (jn @h3 (jn @h3d g'18))
    refine aa g'19 ?_
    refine af (by kernel_rfl) (gm _ y1) ?_
    refine aa g'19 ?_
    refine al (fun h4 => ?_) (fun h4 => ?_)
    ·have h4d := bsT h4
     have wy1 := bl.1 h4d
     have g'20 := (jn @h4 (jn @h4d g'19))
     refine aa g'20 ?_
     refine al (fun h5 => ?_) (fun h5 => ?_)
     ·have h5d := bsT h5
      have g'21 := (jn @h5 (jn @h5d g'20))
      refine aa g'21 ?_
      exact hQ _ _ (ae (.inl rfl) hbel (x := .bool (decide (y0 ≤ y1))) (ai Tryz.results233) rfl ⟨by first | (refine congrArg AV.bool ?_; rw [Bool.eq_iff_iff, cX, decide_eq_true_eq]; omega) | (refine congrArg AV.bool ?_; rw [Bool.eq_iff_iff, cX]; exact ⟨fun e => (by cases e), fun k => (by omega)⟩), rfl⟩)
     ·have h5d := bsT h5
      have g'22 := (jn @h5 (jn @h5d g'20))
      refine aa g'22 ?_
      exact hQ _ _ (ae (.inl rfl) hbel (x := .bool false) (ai Tryz.results233) rfl ⟨by first | (refine congrArg AV.bool ?_; rw [Bool.eq_iff_iff, cX, decide_eq_true_eq]; omega) | (refine congrArg AV.bool ?_; rw [Bool.eq_iff_iff, cX]; exact ⟨fun e => (by cases e), fun k => (by omega)⟩), rfl⟩)
    ·have h4d := bsT h4
     have wy1 : ¬ (-2097152 ≤ y1 ∧ y1 ≤ 2097152) := mt bl.2 (by rw [h4d]; decide)
     have g'23 := (jn @h4 (jn @h4d g'19))
     refine aa g'23 ?_
     exact hQ _ _ (ae (.inl rfl) hbel (x := .bool false) (ai Tryz.results233) rfl ⟨by first | (refine congrArg AV.bool ?_; rw [Bool.eq_iff_iff, cX, decide_eq_true_eq]; omega) | (refine congrArg AV.bool ?_; rw [Bool.eq_iff_iff, cX]; exact ⟨fun e => (by cases e), fun k => (by omega)⟩), rfl⟩)
   ·have h3d := bsT h3
    have wx1 : ¬ (-2097152 ≤ x1 ∧ x1 ≤ 2097152) := mt bl.2 (by rw [h3d]; decide)
    have g'24 := (jn @h3 (jn @h3d g'18))
    refine aa g'24 ?_
    exact hQ _ _ (ae (.inl rfl) hbel (x := .bool false) (ai Tryz.results233) rfl ⟨by first | (refine congrArg AV.bool ?_; rw [Bool.eq_iff_iff, cX, decide_eq_true_eq]; omega) | (refine congrArg AV.bool ?_; rw [Bool.eq_iff_iff, cX]; exact ⟨fun e => (by cases e), fun k => (by omega)⟩), rfl⟩)
  ·have h2d := bsT h2
   have wy0 : ¬ (-2097152 ≤ y0 ∧ y0 ≤ 2097152) := mt bl.2 (by rw [h2d]; decide)
   have g'25 := (jn @h2 (jn @h2d g'17))
   refine aa g'25 ?_
   exact hQ _ _ (ae (.inl rfl) hbel (x := .bool false) (ai Tryz.results233) rfl ⟨by first | (refine congrArg AV.bool ?_; rw [Bool.eq_iff_iff, cX, decide_eq_true_eq]; omega) | (refine congrArg AV.bool ?_; rw [Bool.eq_iff_iff, cX]; exact ⟨fun e => (by cases e), fun k => (by omega)⟩), rfl⟩)
 ·have h1d := bsT h1
  have wx0 : ¬ (-2097152 ≤ x0 ∧ x0 ≤ 2097152) := mt bl.2 (by rw [h1d]; decide)
  have g'26 := (jn @h1 @h1d)
  refine aa g'26 ?_
  exact hQ _ _ (ae (.inl rfl) hbel (x := .bool false) (ai Tryz.results233) rfl ⟨by first | (refine congrArg AV.bool ?_; rw [Bool.eq_iff_iff, cX, decide_eq_true_eq]; omega) | (refine congrArg AV.bool ?_; rw [Bool.eq_iff_iff, cX]; exact ⟨fun e => (by cases e), fun k => (by omega)⟩), rfl⟩)
theorem dg (H : ac) (p1 : Int) (p2 : Int) (q1 : Int) (q2 : Int) (k1 : -8388608 ≤ p1 ∧ p1 ≤ 8388608) (k2 : 1 ≤ p2 ∧ p2 ≤ 67108864) (k3 : -8388608 ≤ q1 ∧ q1 ≤ 8388608) (k4 : 1 ≤ q2 ∧ q2 ≤ 67108864) : ACalls Tryz.prog 247 [.agg [.int .i64 p1, .int .i64 p2], .agg [.int .i64 q1, .int .i64 q2]] H (fun v H' => v = .bool (decide (p1 * q2 < q1 * p2)) ∧ H' = H) := by
 have hm1 := bE (a := p1) (b := q2) (A := 8388608) (B := 67108864) (by omega) (by omega)
 have hm2 := bE (a := q1) (b := p2) (A := 8388608) (B := 67108864) (by omega) (by omega)
 refine AcT true Tryz.func247 ?_; intro hbel Q hQ
 refine aQ ?_
 exact hQ _ _ (ae (.inl rfl) hbel (x := .bool (decide ((p1 * q2) < (q1 * p2)))) (ai Tryz.results247) rfl ⟨rfl, rfl⟩)
theorem slab_c (H : ac) (S : Fr2 × Fr2) (p : Int) (d : Int) (a : Int) (b : Int) (hS : bdSp S) (hp : -2097152 ≤ p ∧ p ≤ 2097152) (hd : -67108864 ≤ d ∧ d ≤ 67108864) (ha : -2097152 ≤ a ∧ a ≤ 2097152) (hb : -2097152 ≤ b ∧ b ≤ 2097152) : ACalls Tryz.prog 241 [.ptr (some (H.length, 0)), .int .i64 p, .int .i64 d, .int .i64 a, .int .i64 b] (H ++ [.cells true 0 [.int .i64 S.1.1, .int .i64 S.1.2, .int .i64 S.2.1, .int .i64 S.2.2]]) (fun v H' => v = .bool (bv S p d a b) ∧ H' = H ++ [.cells true 0 [.int .i64 ((aU S p d a b).1.1), .int .i64 ((aU S p d a b).1.2), .int .i64 ((aU S p d a b).2.1), .int .i64 ((aU S p d a b).2.2)]]) := by
 obtain ⟨⟨hS1, hS2⟩, hS3, hS4⟩ := id hS
 refine AcT true Tryz.func241 ?_; intro hbel Q hQ
 refine aQ ?_
 refine ak (fun h1 => ?_) (fun h1 => ?_)
 ·have h1d := bsT h1
  have h1n := bnT h1
  have hd0 : d = 0 := by simpa using h1d
  have g'27 := (jn @h1 (jn @h1n (jn @bg @be)))
  refine aa g'27 ?_
  refine al (fun h2 => ?_) (fun h2 => ?_)
  ·have h2d := bsT h2
   have g'28 := (jn @h2 (jn @h2d g'27))
   refine aa g'28 ?_
   exact hQ _ _ (dX (b1 := .cells true 0 [.int .i64 S.1.1, .int .i64 S.1.2, .int .i64 S.2.1, .int .i64 S.2.2]) (.inl rfl) hbel (by simp only [ABlk.bel, AV.bels, AV.bel, Bool.true_and]) (x := .bool (decide (p ≤ b))) (ai Tryz.results241) rfl ⟨by (try simp only [Int.zero_sub] at *); first | (simp [bv, aU, hd0, h2d, h1d]; done) | (simp [bv, aU, mxF, mnF, sbL, sbH, hd0, h2d, h1d]; done) | skip, by (try simp only [Int.zero_sub] at *); first | (simp [bv, aU, hd0, h2d, h1d]; done) | (simp [bv, aU, mxF, mnF, sbL, sbH, hd0, h2d, h1d]; done) | skip⟩)
  ·have h2d := bsT h2
   have g'29 := (jn @h2 (jn @h2d g'27))
   refine aa g'29 ?_
   exact hQ _ _ (dX (b1 := .cells true 0 [.int .i64 S.1.1, .int .i64 S.1.2, .int .i64 S.2.1, .int .i64 S.2.2]) (.inl rfl) hbel (by simp only [ABlk.bel, AV.bels, AV.bel, Bool.true_and]) (x := .bool false) (ai Tryz.results241) rfl ⟨by (try simp only [Int.zero_sub] at *); first | (simp [bv, aU, hd0, h2d, h1d]; done) | (simp [bv, aU, mxF, mnF, sbL, sbH, hd0, h2d, h1d]; done) | skip, by (try simp only [Int.zero_sub] at *); first | (simp [bv, aU, hd0, h2d, h1d]; done) | (simp [bv, aU, mxF, mnF, sbL, sbH, hd0, h2d, h1d]; done) | skip⟩)
 ·have h1d := bsT h1
  have h1n := bnT h1
  have hd0 : ¬ d = 0 := by simpa using h1d
  have g'30 := (jn @h1 (jn @h1n (jn @bg @be)))
  refine aa g'30 ?_
  refine ak (fun h3 => ?_) (fun h3 => ?_)
  ·have h3d := bsT h3
   have g'31 := (jn @h3 (jn @h3d g'30))
   refine aa g'31 ?_
   refine aB (by kernel_rfl) (dg _ S.1.1 S.1.2 (p - b) (0 - d) (by omega) (by omega) (by omega) (by omega)) ?_
   refine aa g'31 ?_
   refine ak (fun h4 => ?_) (fun h4 => ?_)
   ·have h4d := bsT h4
    have g'32 := (jn @h4 (jn @h4d g'31))
    refine aa g'32 ?_
    refine aB (by kernel_rfl) (dg _ (p - a) (0 - d) S.2.1 S.2.2 (by omega) (by omega) (by omega) (by omega)) ?_
    refine aa g'32 ?_
    refine ak (fun h5 => ?_) (fun h5 => ?_)
    ·have h5d := bsT h5
     have g'33 := (jn @h5 (jn @h5d g'32))
     refine aa g'33 ?_
     refine aB (by kernel_rfl) (dg _ (p - a) (0 - d) (p - b) (0 - d) (by omega) (by omega) (by omega) (by omega)) ?_
     refine aa g'33 ?_
     exact hQ _ _ (dX (b1 := .cells true 0 [.int .i64 (p - b), .int .i64 (0 - d), .int .i64 (p - a), .int .i64 (0 - d)]) (.inl rfl) hbel (by simp only [ABlk.bel, AV.bels, AV.bel, Bool.true_and]) (x := .bool (!(decide ((p - a) * (0 - d) < (p - b) * (0 - d))))) (ai Tryz.results241) rfl ⟨by (try simp only [Int.zero_sub] at *); first | (simp [bv, aU, hd0, h3d, h4d, h5d, h1d]; done) | (simp [bv, aU, mxF, mnF, sbL, sbH, hd0, h3d, h4d, h5d, h1d]; done) | skip, by (try simp only [Int.zero_sub] at *); first | (simp [bv, aU, hd0, h3d, h4d, h5d, h1d]; done) | (simp [bv, aU, mxF, mnF, sbL, sbH, hd0, h3d, h4d, h5d, h1d]; done) | skip⟩)
    ·have h5d := bsT h5
     have g'34 := (jn @h5 (jn @h5d g'32))
     refine aa g'34 ?_
     refine aB (by kernel_rfl) (dg _ S.2.1 S.2.2 (p - b) (0 - d) (by omega) (by omega) (by omega) (by omega)) ?_
     refine aa g'34 ?_
     exact hQ _ _ (dX (b1 := .cells true 0 [.int .i64 (p - b), .int .i64 (0 - d), .int .i64 S.2.1, .int .i64 S.2.2]) (.inl rfl) hbel (by simp only [ABlk.bel, AV.bels, AV.bel, Bool.true_and]) (x := .bool (!(decide (S.2.1 * (0 - d) < (p - b) * S.2.2)))) (ai Tryz.results241) rfl ⟨by (try simp only [Int.zero_sub] at *); first | (simp [bv, aU, hd0, h3d, h4d, h5d, h1d]; done) | (simp [bv, aU, mxF, mnF, sbL, sbH, hd0, h3d, h4d, h5d, h1d]; done) | skip, by (try simp only [Int.zero_sub] at *); first | (simp [bv, aU, hd0, h3d, h4d, h5d, h1d]; done) | (simp [bv, aU, mxF, mnF, sbL, sbH, hd0, h3d, h4d, h5d, h1d]; done) | skip⟩)
   ·have h4d := bsT h4
    have g'35 := (jn @h4 (jn @h4d g'31))
    refine aa g'35 ?_
    refine aB (by kernel_rfl) (dg _ (p - a) (0 - d) S.2.1 S.2.2 (by omega) (by omega) (by omega) (by omega)) ?_
    refine aa g'35 ?_
    refine ak (fun h6 => ?_) (fun h6 => ?_)
    ·have h6d := bsT h6
     have g'36 := (jn @h6 (jn @h6d g'35))
     refine aa g'36 ?_
     refine aB (by kernel_rfl) (dg _ (p - a) (0 - d) S.1.1 S.1.2 (by omega) (by omega) (by omega) (by omega)) ?_
     refine aa g'36 ?_
     exact hQ _ _ (dX (b1 := .cells true 0 [.int .i64 S.1.1, .int .i64 S.1.2, .int .i64 (p - a), .int .i64 (0 - d)]) (.inl rfl) hbel (by simp only [ABlk.bel, AV.bels, AV.bel, Bool.true_and]) (x := .bool (!(decide ((p - a) * S.1.2 < S.1.1 * (0 - d))))) (ai Tryz.results241) rfl ⟨by (try simp only [Int.zero_sub] at *); first | (simp [bv, aU, hd0, h3d, h4d, h6d, h1d]; done) | (simp [bv, aU, mxF, mnF, sbL, sbH, hd0, h3d, h4d, h6d, h1d]; done) | skip, by (try simp only [Int.zero_sub] at *); first | (simp [bv, aU, hd0, h3d, h4d, h6d, h1d]; done) | (simp [bv, aU, mxF, mnF, sbL, sbH, hd0, h3d, h4d, h6d, h1d]; done) | skip⟩)
    ·have h6d := bsT h6
     have g'37 := (jn @h6 (jn @h6d g'35))
     refine aa g'37 ?_
     refine aB (by kernel_rfl) (dg _ S.2.1 S.2.2 S.1.1 S.1.2 (by omega) (by omega) (by omega) (by omega)) ?_
     refine aa g'37 ?_
     exact hQ _ _ (dX (b1 := .cells true 0 [.int .i64 S.1.1, .int .i64 S.1.2, .int .i64 S.2.1, .int .i64 S.2.2]) (.inl rfl) hbel (by simp only [ABlk.bel, AV.bels, AV.bel, Bool.true_and]) (x := .bool (!(decide (S.2.1 * S.1.2 < S.1.1 * S.2.2)))) (ai Tryz.results241) rfl ⟨by (try simp only [Int.zero_sub] at *); first | (simp [bv, aU, hd0, h3d, h4d, h6d, h1d]; done) | (simp [bv, aU, mxF, mnF, sbL, sbH, hd0, h3d, h4d, h6d, h1d]; done) | skip, by (try simp only [Int.zero_sub] at *); first | (simp [bv, aU, hd0, h3d, h4d, h6d, h1d]; done) | (simp [bv, aU, mxF, mnF, sbL, sbH, hd0, h3d, h4d, h6d, h1d]; done) | skip⟩)
  ·have h3d := bsT h3
   have g'38 := (jn @h3 (jn @h3d g'30))
   refine aa g'38 ?_
   refine aB (by kernel_rfl) (dg _ S.1.1 S.1.2 (a - p) d (by omega) (by omega) (by omega) (by omega)) ?_
   refine aa g'38 ?_
   refine ak (fun h7 => ?_) (fun h7 => ?_)
   ·have h7d := bsT h7
    have g'39 := (jn @h7 (jn @h7d g'38))
    refine aa g'39 ?_
    refine aB (by kernel_rfl) (dg _ (b - p) d S.2.1 S.2.2 (by omega) (by omega) (by omega) (by omega)) ?_
    refine aa g'39 ?_
    refine ak (fun h8 => ?_) (fun h8 => ?_)
    ·have h8d := bsT h8
     have g'40 := (jn @h8 (jn @h8d g'39))
     refine aa g'40 ?_
     refine aB (by kernel_rfl) (dg _ (b - p) d (a - p) d (by omega) (by omega) (by omega) (by omega)) ?_
     refine aa g'40 ?_
     exact hQ _ _ (dX (b1 := .cells true 0 [.int .i64 (a - p), .int .i64 d, .int .i64 (b - p), .int .i64 d]) (.inl rfl) hbel (by simp only [ABlk.bel, AV.bels, AV.bel, Bool.true_and]) (x := .bool (!(decide ((b - p) * d < (a - p) * d)))) (ai Tryz.results241) rfl ⟨by (try simp only [Int.zero_sub] at *); first | (simp [bv, aU, hd0, h3d, h7d, h8d, h1d]; done) | (simp [bv, aU, mxF, mnF, sbL, sbH, hd0, h3d, h7d, h8d, h1d]; done) | skip, by (try simp only [Int.zero_sub] at *); first | (simp [bv, aU, hd0, h3d, h7d, h8d, h1d]; done) | (simp [bv, aU, mxF, mnF, sbL, sbH, hd0, h3d, h7d, h8d, h1d]; done) | skip⟩)
    ·have h8d := bsT h8
     have g'41 := (jn @h8 (jn @h8d g'39))
     refine aa g'41 ?_
     refine aB (by kernel_rfl) (dg _ S.2.1 S.2.2 (a - p) d (by omega) (by omega) (by omega) (by omega)) ?_
     refine aa g'41 ?_
     exact hQ _ _ (dX (b1 := .cells true 0 [.int .i64 (a - p), .int .i64 d, .int .i64 S.2.1, .int .i64 S.2.2]) (.inl rfl) hbel (by simp only [ABlk.bel, AV.bels, AV.bel, Bool.true_and]) (x := .bool (!(decide (S.2.1 * d < (a - p) * S.2.2)))) (ai Tryz.results241) rfl ⟨by (try simp only [Int.zero_sub] at *); first | (simp [bv, aU, hd0, h3d, h7d, h8d, h1d]; done) | (simp [bv, aU, mxF, mnF, sbL, sbH, hd0, h3d, h7d, h8d, h1d]; done) | skip, by (try simp only [Int.zero_sub] at *); first | (simp [bv, aU, hd0, h3d, h7d, h8d, h1d]; done) | (simp [bv, aU, mxF, mnF, sbL, sbH, hd0, h3d, h7d, h8d, h1d]; done) | skip⟩)
   ·have h7d := bsT h7
    have g'42 := (jn @h7 (jn @h7d g'38))
    refine aa g'42 ?_
    refine aB (by kernel_rfl) (dg _ (b - p) d S.2.1 S.2.2 (by omega) (by omega) (by omega) (by omega)) ?_
    refine aa g'42 ?_
    refine ak (fun h9 => ?_) (fun h9 => ?_)
    ·have h9d := bsT h9
     have g'43 := (jn @h9 (jn @h9d g'42))
     refine aa g'43 ?_
     refine aB (by kernel_rfl) (dg _ (b - p) d S.1.1 S.1.2 (by omega) (by omega) (by omega) (by omega)) ?_
     refine aa g'43 ?_
     exact hQ _ _ (dX (b1 := .cells true 0 [.int .i64 S.1.1, .int .i64 S.1.2, .int .i64 (b - p), .int .i64 d]) (.inl rfl) hbel (by simp only [ABlk.bel, AV.bels, AV.bel, Bool.true_and]) (x := .bool (!(decide ((b - p) * S.1.2 < S.1.1 * d)))) (ai Tryz.results241) rfl ⟨by (try simp only [Int.zero_sub] at *); first | (simp [bv, aU, hd0, h3d, h7d, h9d, h1d]; done) | (simp [bv, aU, mxF, mnF, sbL, sbH, hd0, h3d, h7d, h9d, h1d]; done) | skip, by (try simp only [Int.zero_sub] at *); first | (simp [bv, aU, hd0, h3d, h7d, h9d, h1d]; done) | (simp [bv, aU, mxF, mnF, sbL, sbH, hd0, h3d, h7d, h9d, h1d]; done) | skip⟩)
    ·have h9d := bsT h9
     have g'44 := (jn @h9 (jn @h9d g'42))
     refine aa g'44 ?_
     refine aB (by kernel_rfl) (dg _ S.2.1 S.2.2 S.1.1 S.1.2 (by omega) (by omega) (by omega) (by omega)) ?_
     refine aa g'44 ?_
     exact hQ _ _ (dX (b1 := .cells true 0 [.int .i64 S.1.1, .int .i64 S.1.2, .int .i64 S.2.1, .int .i64 S.2.2]) (.inl rfl) hbel (by simp only [ABlk.bel, AV.bels, AV.bel, Bool.true_and]) (x := .bool (!(decide (S.2.1 * S.1.2 < S.1.1 * S.2.2)))) (ai Tryz.results241) rfl ⟨by (try simp only [Int.zero_sub] at *); first | (simp [bv, aU, hd0, h3d, h7d, h9d, h1d]; done) | (simp [bv, aU, mxF, mnF, sbL, sbH, hd0, h3d, h7d, h9d, h1d]; done) | skip, by (try simp only [Int.zero_sub] at *); first | (simp [bv, aU, hd0, h3d, h7d, h9d, h1d]; done) | (simp [bv, aU, mxF, mnF, sbL, sbH, hd0, h3d, h7d, h9d, h1d]; done) | skip⟩)
theorem slab4_c (H : ac) (A B C D : ABlk) (S : Fr2 × Fr2) (p d a b : Int) (hS : bdSp S) (hp : -2097152 ≤ p ∧ p ≤ 2097152) (hd : -67108864 ≤ d ∧ d ≤ 67108864) (ha : -2097152 ≤ a ∧ a ≤ 2097152) (hb : -2097152 ≤ b ∧ b ≤ 2097152) :
  ACalls Tryz.prog 241 [.ptr (some (H.length + 4, 0)), .int .i64 p, .int .i64 d, .int .i64 a, .int .i64 b] (H ++ [A, B, C, D, .cells true 0 [.int .i64 S.1.1, .int .i64 S.1.2, .int .i64 S.2.1, .int .i64 S.2.2]]) (fun v H' => v = .bool (bv S p d a b) ∧ H' = H ++ [A, B, C, D, .cells true 0 [.int .i64 (aU S p d a b).1.1, .int .i64 (aU S p d a b).1.2, .int .i64 (aU S p d a b).2.1, .int .i64 (aU S p d a b).2.2]]) := by
 have h := slab_c (H ++ [A, B, C, D]) S p d a b hS hp hd ha hb
 simpa only [List.append_assoc, List.cons_append, List.nil_append, List.length_append, List.length_cons, List.length_nil, Nat.zero_add, Nat.reduceAdd] using h
theorem pv (H : ac) (px : Int) (py : Int) (vx : Int) (vy : Int) (vd : Int) (x0 : Int) (y0 : Int) (x1 : Int) (y1 : Int) : ACalls Tryz.prog 224 [.agg [.int .i64 px, .int .i64 py], .agg [.int .i64 vx, .int .i64 vy, .int .i64 vd], .agg [.int .i64 x0, .int .i64 y0, .int .i64 x1, .int .i64 y1]] H (fun v H' => v = .tup [.agg [.int .i64 ((thV px py vx vy vd x0 y0 x1 y1).1.1), .int .i64 ((thV px py vx vy vd x0 y0 x1 y1).1.2), .int .i64 ((thV px py vx vy vd x0 y0 x1 y1).2.1), .int .i64 ((thV px py vx vy vd x0 y0 x1 y1).2.2)], .bool (thO px py vx vy vd x0 y0 x1 y1)] ∧ H' = H) := by
 refine AcT true Tryz.func224 ?_; intro hbel Q hQ
 refine aQ ?_
 refine af (by kernel_rfl) (svpt_c _ px py) ?_
 refine aQ ?_
 refine al (fun h1 => ?_) (fun h1 => ?_)
 ·have h1d := bsT h1
  have hvP := h1d
  have hvp := lnP_iff.1 h1d
  have g'45 := (jn @h1 @h1d)
  refine aa g'45 ?_
  refine af (by kernel_rfl) (svv_c _ vx vy vd) ?_
  refine aa g'45 ?_
  refine al (fun h2 => ?_) (fun h2 => ?_)
  ·have h2d := bsT h2
   have hvV := h2d
   have hvv := aR.1 h2d
   have g'46 := (jn @h2 (jn @h2d g'45))
   refine aa g'46 ?_
   refine af (by kernel_rfl) (lD _ x0 y0 x1 y1) ?_
   refine aa g'46 ?_
   refine ak (fun h3 => ?_) (fun h3 => ?_)
   ·have h3d := bsT h3
    have hfinO : thO px py vx vy vd x0 y0 x1 y1 = false := by simp [thO, thG, h3d]
    have g'47 := (jn @h3 (jn @h3d g'46))
    refine aa g'47 ?_
    exact hQ _ _ (ae (.inl rfl) hbel (x := .tup [.agg [.int .i64 0, .int .i64 0, .int .i64 0, .int .i64 0], .bool false]) (ai Tryz.results224) rfl ⟨by unfold thV; rw [hfinO]; rfl, rfl⟩)
   ·have h3d := bsT h3
    have hvr := cX.1 h3d
    have hgT : thG px py vx vy vd x0 y0 x1 y1 = true := g7.2 ⟨hvP, hvV, h3d⟩
    have hb0 := thS0_bd
    have hb1 := (thS_bd hgT).1
    have g'48 := (jn @h3 (jn @h3d g'46))
    refine aa g'48 ?_
    refine af (by kernel_rfl) (slab4_c _ _ _ _ _ dZ px vx x0 x1 (by assumption) (by omega) (by omega) (by omega) (by omega)) ?_
    refine aa g'48 ?_
    refine al (fun h4 => ?_) (fun h4 => ?_)
    ·have h4d := bsT h4
     have hs1 := h4d
     have g'49 := (jn @h4 (jn @h4d g'48))
     refine aa g'49 ?_
     refine af (by kernel_rfl) (slab4_c _ _ _ _ _ (aU dZ px vx x0 x1) py vy y0 y1 (by assumption) (by omega) (by omega) (by omega) (by omega)) ?_
     refine aa g'49 ?_
     refine ak (fun h5 => ?_) (fun h5 => ?_)
     ·have h5d := bsT h5
      have hfinO : thO px py vx vy vd x0 y0 x1 y1 = false := by simp [thO, thB, h5d]
      have g'50 := (jn @h5 (jn @h5d g'49))
      refine aa g'50 ?_
      exact hQ _ _ (ae (.inl rfl) hbel (x := .tup [.agg [.int .i64 0, .int .i64 0, .int .i64 0, .int .i64 0], .bool false]) (ai Tryz.results224) rfl ⟨by unfold thV; rw [hfinO]; rfl, rfl⟩)
     ·have h5d := bsT h5
      have hfinO : thO px py vx vy vd x0 y0 x1 y1 = true := by unfold thO thB; rw [hgT, hs1, h5d]; rfl
      have g'51 := (jn @h5 (jn @h5d g'49))
      refine aa g'51 ?_
      exact hQ _ _ (ae (.inl rfl) hbel (x := .tup [.agg [.int .i64 ((aU (aU dZ px vx x0 x1) py vy y0 y1).1.1), .int .i64 ((aU (aU dZ px vx x0 x1) py vy y0 y1).1.2), .int .i64 ((aU (aU dZ px vx x0 x1) py vy y0 y1).2.1), .int .i64 ((aU (aU dZ px vx x0 x1) py vy y0 y1).2.2)], .bool true]) (ai Tryz.results224) rfl ⟨by unfold thV; rw [hfinO]; rfl, rfl⟩)
    ·have h4d := bsT h4
     have hfinO : thO px py vx vy vd x0 y0 x1 y1 = false := by simp [thO, thB, h4d]
     have g'52 := (jn @h4 (jn @h4d g'48))
     refine aa g'52 ?_
     exact hQ _ _ (ae (.inl rfl) hbel (x := .tup [.agg [.int .i64 0, .int .i64 0, .int .i64 0, .int .i64 0], .bool false]) (ai Tryz.results224) rfl ⟨by unfold thV; rw [hfinO]; rfl, rfl⟩)
  ·have h2d := bsT h2
   have hfinO : thO px py vx vy vd x0 y0 x1 y1 = false := by simp [thO, thG, h2d]
   have g'53 := (jn @h2 (jn @h2d g'45))
   refine aa g'53 ?_
   exact hQ _ _ (ae (.inl rfl) hbel (x := .tup [.agg [.int .i64 0, .int .i64 0, .int .i64 0, .int .i64 0], .bool false]) (ai Tryz.results224) rfl ⟨by unfold thV; rw [hfinO]; rfl, rfl⟩)
 ·have h1d := bsT h1
  have hfinO : thO px py vx vy vd x0 y0 x1 y1 = false := by simp [thO, thG, h1d]
  have g'54 := (jn @h1 @h1d)
  refine aa g'54 ?_
  exact hQ _ _ (ae (.inl rfl) hbel (x := .tup [.agg [.int .i64 0, .int .i64 0, .int .i64 0, .int .i64 0], .bool false]) (ai Tryz.results224) rfl ⟨by unfold thV; rw [hfinO]; rfl, rfl⟩)
theorem pw (H : ac) (px py vx vy vd x0 y0 x1 y1 : Int) (h : thO px py vx vy vd x0 y0 x1 y1 = true) : ACalls Tryz.prog 224 [.agg [.int .i64 px, .int .i64 py], .agg [.int .i64 vx, .int .i64 vy, .int .i64 vd], .agg [.int .i64 x0, .int .i64 y0, .int .i64 x1, .int .i64 y1]] H (fun v H' => v = .tup [.agg [.int .i64 (thS px py vx vy x0 y0 x1 y1).1.1, .int .i64 (thS px py vx vy x0 y0 x1 y1).1.2, .int .i64 (thS px py vx vy x0 y0 x1 y1).2.1, .int .i64 (thS px py vx vy x0 y0 x1 y1).2.2], .bool true] ∧ H' = H) := by
 have q := pv H px py vx vy vd x0 y0 x1 y1
 simp only [thV, h, if_true] at q; exact q
theorem pz (H : ac) (px py vx vy vd x0 y0 x1 y1 : Int) (h : thO px py vx vy vd x0 y0 x1 y1 = false) : ACalls Tryz.prog 224 [.agg [.int .i64 px, .int .i64 py], .agg [.int .i64 vx, .int .i64 vy, .int .i64 vd], .agg [.int .i64 x0, .int .i64 y0, .int .i64 x1, .int .i64 y1]] H (fun v H' => v = .tup [.agg [.int .i64 0, .int .i64 0, .int .i64 0, .int .i64 0], .bool false] ∧ H' = H) := by
 have q := pv H px py vx vy vd x0 y0 x1 y1
 simp only [thV, h, if_false, Bool.false_eq_true] at q; exact q
theorem gE (H : ac) (px : Int) (py : Int) (vx : Int) (vy : Int) (vd : Int) (lo : Int) (hi : Int) (x0 : Int) (y0 : Int) (x1 : Int) (y1 : Int) : ACalls Tryz.prog 215 [.agg [.int .i64 px, .int .i64 py], .agg [.int .i64 vx, .int .i64 vy, .int .i64 vd], .int .i64 lo, .int .i64 hi, .agg [.int .i64 x0, .int .i64 y0, .int .i64 x1, .int .i64 y1]] H (fun v H' => v = .bool (eh px py vx vy vd lo hi x0 y0 x1 y1) ∧ H' = H) := by
 refine AcT true Tryz.func215 ?_; intro hbel Q hQ
 refine aQ ?_
 refine al (fun h1 => ?_) (fun h1 => ?_)
 ·have h1d := bsT h1
  have g'55 := (jn @h1 @h1d)
  refine aa g'55 ?_
  refine al (fun h2 => ?_) (fun h2 => ?_)
  ·have h2d := bsT h2
   have g'56 := (jn @h2 (jn @h2d g'55))
   refine aa g'56 ?_
   refine ak (fun h3 => ?_) (fun h3 => ?_)
   ·have h3d := bsT h3
    have g'57 := (jn @h3 (jn @h3d g'56))
    refine aa g'57 ?_
    exact hQ _ _ (ae (.inl rfl) hbel (x := .bool false) (ai Tryz.results215) rfl ⟨by first | (rw [hfinN]; done) | (refine congrArg AV.bool ?_; rw [Bool.eq_iff_iff]; unfold eh meeB; simp only [Bool.and_eq_true, decide_eq_true_eq]; first | (simp only [hfinG, hfinB, true_and]; omega) | exact ⟨fun e => (by cases e), fun e => (by omega)⟩), rfl⟩)
   ·have h3d := bsT h3
    have g'58 := (jn @h3 (jn @h3d g'56))
    refine aa g'58 ?_
    rcases Bool.eq_false_or_eq_true (thO px py vx vy vd x0 y0 x1 y1) with h4 | h4
    ·have h4d := h4
     have hgT := thO_t h4d
     have hbS := (thS_bd hgT.1).2
     obtain ⟨⟨hb1, hb2⟩, hb3, hb4⟩ := hbS
     have hvT := aR.1 (g7.1 hgT.1).2.1
     have hm1 := bE (a := lo) (b := (thS px py vx vy x0 y0 x1 y1).2.2) (A := 65536) (B := 67108864) (by omega) (by omega)
     have hm2 := bE (a := (thS px py vx vy x0 y0 x1 y1).2.1) (b := vd) (A := 8388608) (B := 67108864) (by omega) (by omega)
     have hm3 := bE (a := (thS px py vx vy x0 y0 x1 y1).1.1) (b := vd) (A := 8388608) (B := 67108864) (by omega) (by omega)
     have hm4 := bE (a := hi) (b := (thS px py vx vy x0 y0 x1 y1).1.2) (A := 65536) (B := 67108864) (by omega) (by omega)
     have hfinG := hgT.1
     have hfinB := hgT.2
     refine af (by kernel_rfl) (pw _ px py vx vy vd x0 y0 x1 y1 (by assumption)) ?_
     have g'59 := (jn @h4 (jn @h4d g'58))
     refine aa g'59 ?_
     refine al (fun h5 => ?_) (fun h5 => ?_)
     ·have h5d := bsT h5
      have g'60 := (jn @h5 (jn @h5d g'59))
      refine aa g'60 ?_
      exact hQ _ _ (ae (.inl rfl) hbel (x := .bool (decide ((((thS px py vx vy x0 y0 x1 y1).1.1) * vd) ≤ (hi * ((thS px py vx vy x0 y0 x1 y1).1.2))))) (ai Tryz.results215) rfl ⟨by first | (rw [hfinN]; done) | (refine congrArg AV.bool ?_; rw [Bool.eq_iff_iff]; unfold eh meeB; simp only [Bool.and_eq_true, decide_eq_true_eq]; first | (simp only [hfinG, hfinB, true_and]; omega) | exact ⟨fun e => (by cases e), fun e => (by omega)⟩), rfl⟩)
     ·have h5d := bsT h5
      have g'61 := (jn @h5 (jn @h5d g'59))
      refine aa g'61 ?_
      exact hQ _ _ (ae (.inl rfl) hbel (x := .bool false) (ai Tryz.results215) rfl ⟨by first | (rw [hfinN]; done) | (refine congrArg AV.bool ?_; rw [Bool.eq_iff_iff]; unfold eh meeB; simp only [Bool.and_eq_true, decide_eq_true_eq]; first | (simp only [hfinG, hfinB, true_and]; omega) | exact ⟨fun e => (by cases e), fun e => (by omega)⟩), rfl⟩)
    ·have h4d := h4
     have hfinN := (thO_me (lo := lo) (hi := hi) h4d).1
     refine af (by kernel_rfl) (pz _ px py vx vy vd x0 y0 x1 y1 (by assumption)) ?_
     have g'62 := (jn @h4 (jn @h4d g'58))
     refine aa g'62 ?_
     exact hQ _ _ (ae (.inl rfl) hbel (x := .bool false) (ai Tryz.results215) rfl ⟨by first | (rw [hfinN]; done) | (refine congrArg AV.bool ?_; rw [Bool.eq_iff_iff]; unfold eh meeB; simp only [Bool.and_eq_true, decide_eq_true_eq]; first | (simp only [hfinG, hfinB, true_and]; omega) | exact ⟨fun e => (by cases e), fun e => (by omega)⟩), rfl⟩)
  ·have h2d := bsT h2
   have g'63 := (jn @h2 (jn @h2d g'55))
   refine aa g'63 ?_
   exact hQ _ _ (ae (.inl rfl) hbel (x := .bool false) (ai Tryz.results215) rfl ⟨by first | (rw [hfinN]; done) | (refine congrArg AV.bool ?_; rw [Bool.eq_iff_iff]; unfold eh meeB; simp only [Bool.and_eq_true, decide_eq_true_eq]; first | (simp only [hfinG, hfinB, true_and]; omega) | exact ⟨fun e => (by cases e), fun e => (by omega)⟩), rfl⟩)
 ·have h1d := bsT h1
  have g'64 := (jn @h1 @h1d)
  refine aa g'64 ?_
  exact hQ _ _ (ae (.inl rfl) hbel (x := .bool false) (ai Tryz.results215) rfl ⟨by first | (rw [hfinN]; done) | (refine congrArg AV.bool ?_; rw [Bool.eq_iff_iff]; unfold eh meeB; simp only [Bool.and_eq_true, decide_eq_true_eq]; first | (simp only [hfinG, hfinB, true_and]; omega) | exact ⟨fun e => (by cases e), fun e => (by omega)⟩), rfl⟩)
theorem dK (H : ac) (px : Int) (py : Int) (vx : Int) (vy : Int) (vd : Int) (hi : Int) (x0 : Int) (y0 : Int) (x1 : Int) (y1 : Int) : ACalls Tryz.prog 197 [.agg [.int .i64 px, .int .i64 py], .agg [.int .i64 vx, .int .i64 vy, .int .i64 vd], .int .i64 hi, .agg [.int .i64 x0, .int .i64 y0, .int .i64 x1, .int .i64 y1]] H (fun v H' => v = .bool (dF px py vx vy vd hi x0 y0 x1 y1) ∧ H' = H) := by
 refine AcT true Tryz.func197 ?_; intro hbel Q hQ
 refine aQ ?_
 refine al (fun h1 => ?_) (fun h1 => ?_)
 ·have h1d := bsT h1
  have g'65 := (jn @h1 @h1d)
  refine aa g'65 ?_
  refine ak (fun h2 => ?_) (fun h2 => ?_)
  ·have h2d := bsT h2
   have g'66 := (jn @h2 (jn @h2d g'65))
   refine aa g'66 ?_
   exact hQ _ _ (ae (.inl rfl) hbel (x := .bool false) (ai Tryz.results197) rfl ⟨by first | (rw [hfinN]; done) | (refine congrArg AV.bool ?_; rw [Bool.eq_iff_iff]; unfold dF bfrB; simp only [Bool.and_eq_true, decide_eq_true_eq]; first | (simp only [hfinG, hfinB, true_and]; omega) | exact ⟨fun e => (by cases e), fun e => (by omega)⟩), rfl⟩)
  ·have h2d := bsT h2
   have g'67 := (jn @h2 (jn @h2d g'65))
   refine aa g'67 ?_
   rcases Bool.eq_false_or_eq_true (thO px py vx vy vd x0 y0 x1 y1) with h3 | h3
   ·have h3d := h3
    have hgT := thO_t h3d
    have hbS := (thS_bd hgT.1).2
    obtain ⟨⟨hb1, hb2⟩, hb3, hb4⟩ := hbS
    have hvT := aR.1 (g7.1 hgT.1).2.1
    have hm3 := bE (a := (thS px py vx vy x0 y0 x1 y1).1.1) (b := vd) (A := 8388608) (B := 67108864) (by omega) (by omega)
    have hm4 := bE (a := hi) (b := (thS px py vx vy x0 y0 x1 y1).1.2) (A := 65536) (B := 67108864) (by omega) (by omega)
    have hfinG := hgT.1
    have hfinB := hgT.2
    refine af (by kernel_rfl) (pw _ px py vx vy vd x0 y0 x1 y1 (by assumption)) ?_
    have g'68 := (jn @h3 (jn @h3d g'67))
    refine aa g'68 ?_
    exact hQ _ _ (ae (.inl rfl) hbel (x := .bool (decide ((((thS px py vx vy x0 y0 x1 y1).1.1) * vd) < (hi * ((thS px py vx vy x0 y0 x1 y1).1.2))))) (ai Tryz.results197) rfl ⟨by first | (rw [hfinN]; done) | (refine congrArg AV.bool ?_; rw [Bool.eq_iff_iff]; unfold dF bfrB; simp only [Bool.and_eq_true, decide_eq_true_eq]; first | (simp only [hfinG, hfinB, true_and]; omega) | exact ⟨fun e => (by cases e), fun e => (by omega)⟩), rfl⟩)
   ·have h3d := h3
    have hfinN := (thO_me (lo := 0) (hi := hi) h3d).2
    refine af (by kernel_rfl) (pz _ px py vx vy vd x0 y0 x1 y1 (by assumption)) ?_
    have g'69 := (jn @h3 (jn @h3d g'67))
    refine aa g'69 ?_
    exact hQ _ _ (ae (.inl rfl) hbel (x := .bool false) (ai Tryz.results197) rfl ⟨by first | (rw [hfinN]; done) | (refine congrArg AV.bool ?_; rw [Bool.eq_iff_iff]; unfold dF bfrB; simp only [Bool.and_eq_true, decide_eq_true_eq]; first | (simp only [hfinG, hfinB, true_and]; omega) | exact ⟨fun e => (by cases e), fun e => (by omega)⟩), rfl⟩)
 ·have h1d := bsT h1
  have g'70 := (jn @h1 @h1d)
  refine aa g'70 ?_
  exact hQ _ _ (ae (.inl rfl) hbel (x := .bool false) (ai Tryz.results197) rfl ⟨by first | (rw [hfinN]; done) | (refine congrArg AV.bool ?_; rw [Bool.eq_iff_iff]; unfold dF bfrB; simp only [Bool.and_eq_true, decide_eq_true_eq]; first | (simp only [hfinG, hfinB, true_and]; omega) | exact ⟨fun e => (by cases e), fun e => (by omega)⟩), rfl⟩)
theorem kr (H : ac) (a0 : Int) (b0 : Int) (a1 : Int) (b1 : Int) (x0 : Int) (y0 : Int) (x1 : Int) (y1 : Int) (kba0 : -1099511627776 ≤ a0 ∧ a0 ≤ 1099511627776) (kbb0 : -1099511627776 ≤ b0 ∧ b0 ≤ 1099511627776) (kba1 : -1099511627776 ≤ a1 ∧ a1 ≤ 1099511627776) (kbb1 : -1099511627776 ≤ b1 ∧ b1 ≤ 1099511627776) (kbx0 : -1099511627776 ≤ x0 ∧ x0 ≤ 1099511627776) (kby0 : -1099511627776 ≤ y0 ∧ y0 ≤ 1099511627776) (kbx1 : -1099511627776 ≤ x1 ∧ x1 ≤ 1099511627776) (kby1 : -1099511627776 ≤ y1 ∧ y1 ≤ 1099511627776) : ACalls Tryz.prog 214 [.agg [.int .i64 a0, .int .i64 b0, .int .i64 a1, .int .i64 b1], .agg [.int .i64 x0, .int .i64 y0, .int .i64 x1, .int .i64 y1]] H (fun v H' => v = .tup [.agg [.int .i64 (mkV (ei a0 b0 a1 b1 x0 y0 x1 y1) (a0 - x1)), .int .i64 (mkV (ei a0 b0 a1 b1 x0 y0 x1 y1) (b0 - y1)), .int .i64 (mkV (ei a0 b0 a1 b1 x0 y0 x1 y1) (a1 - x0)), .int .i64 (mkV (ei a0 b0 a1 b1 x0 y0 x1 y1) (b1 - y0))], .bool (ei a0 b0 a1 b1 x0 y0 x1 y1)] ∧ H' = H) := by
 refine AcT true Tryz.func214 ?_; intro hbel Q hQ
 refine aQ ?_
 refine af (by kernel_rfl) (lD _ a0 b0 a1 b1) ?_
 refine aQ ?_
 refine al (fun h1 => ?_) (fun h1 => ?_)
 ·have h1d := bsT h1
  have g'71 := (jn @h1 @h1d)
  refine aa g'71 ?_
  refine af (by kernel_rfl) (lD _ x0 y0 x1 y1) ?_
  refine aa g'71 ?_
  refine al (fun h2 => ?_) (fun h2 => ?_)
  ·have h2d := bsT h2
   have g'72 := (jn @h2 (jn @h2d g'71))
   refine aa g'72 ?_
   refine af (by kernel_rfl) (lD _ (a0 - x1) (b0 - y1) (a1 - x0) (b1 - y0)) ?_
   refine aa g'72 ?_
   refine ak (fun h3 => ?_) (fun h3 => ?_)
   ·have h3d := bsT h3
    have g'73 := (jn @h3 (jn @h3d g'72))
    refine aa g'73 ?_
    exact hQ _ _ (ae (.inl rfl) hbel (x := .tup [.agg [.int .i64 0, .int .i64 0, .int .i64 0, .int .i64 0], .bool false]) (ai Tryz.results214) rfl ⟨by simp [ei, mkV, h1d, h2d, h3d], rfl⟩)
   ·have h3d := bsT h3
    have g'74 := (jn @h3 (jn @h3d g'72))
    refine aa g'74 ?_
    exact hQ _ _ (ae (.inl rfl) hbel (x := .tup [.agg [.int .i64 (a0 - x1), .int .i64 (b0 - y1), .int .i64 (a1 - x0), .int .i64 (b1 - y0)], .bool true]) (ai Tryz.results214) rfl ⟨by simp [ei, mkV, h1d, h2d, h3d], rfl⟩)
  ·have h2d := bsT h2
   have g'75 := (jn @h2 (jn @h2d g'71))
   refine aa g'75 ?_
   exact hQ _ _ (ae (.inl rfl) hbel (x := .tup [.agg [.int .i64 0, .int .i64 0, .int .i64 0, .int .i64 0], .bool false]) (ai Tryz.results214) rfl ⟨by simp [ei, mkV, h1d, h2d], rfl⟩)
 ·have h1d := bsT h1
  have g'76 := (jn @h1 @h1d)
  refine aa g'76 ?_
  exact hQ _ _ (ae (.inl rfl) hbel (x := .tup [.agg [.int .i64 0, .int .i64 0, .int .i64 0, .int .i64 0], .bool false]) (ai Tryz.results214) rfl ⟨by simp [ei, mkV, h1d], rfl⟩)
open Go.RowKit
theorem eT (H : ac) (x : Int) (m : Int) (h : 0 ≤ m ∧ m ≤ 4611686018427387904) : ACalls Tryz.prog 195 [.int .i64 x, .int .i64 m] H (fun v H' => v = .bool (cF x m) ∧ H' = H) := by
 refine AcT true Tryz.func195 ?_; intro hbel Q hQ
 refine aQ ?_
 refine al (fun h1 => ?_) (fun h1 => ?_)
 ·have h1d := bsT h1
  have g'1 := (jn @h1 @h1d)
  refine aa g'1 ?_
  exact hQ _ _ (au (.inl rfl) hbel (x := .bool (decide (x ≤ m))) (ai Tryz.results195) rfl ⟨by first | (simp [cF, h1d]; done) | (simp [cF, h1d]; omega), rfl⟩)
 ·have h1d := bsT h1
  have g'2 := (jn @h1 @h1d)
  refine aa g'2 ?_
  exact hQ _ _ (au (.inl rfl) hbel (x := .bool false) (ai Tryz.results195) rfl ⟨by first | (simp [cF, h1d]; done) | (simp [cF, h1d]; omega), rfl⟩)
theorem pvpt_c (H : ac) (x : Int) (y : Int) : ACalls Tryz.prog 194 [.agg [.int .i64 x, .int .i64 y]] H (fun v H' => v = .bool (ptB x y) ∧ H' = H) := by
 refine AcT true Tryz.func194 ?_; intro hbel Q hQ
 refine aQ ?_
 refine af (by kernel_rfl) (eT _ x 1048576 (by decide)) ?_
 refine aQ ?_
 refine al (fun h1 => ?_) (fun h1 => ?_)
 ·have h1d := bsT h1
  have g'3 := (jn @h1 @h1d)
  refine aa g'3 ?_
  refine af (by kernel_rfl) (eT _ y 1048576 (by decide)) ?_
  refine aa g'3 ?_
  exact hQ _ _ (ae (.inl rfl) hbel (x := .bool (cF y 1048576)) (ai Tryz.results194) rfl ⟨by simp [ptB, h1d], rfl⟩)
 ·have h1d := bsT h1
  have g'4 := (jn @h1 @h1d)
  refine aa g'4 ?_
  exact hQ _ _ (ae (.inl rfl) hbel (x := .bool false) (ai Tryz.results194) rfl ⟨by simp [ptB, h1d], rfl⟩)
theorem pvrc_c (H : ac) (x0 : Int) (y0 : Int) (x1 : Int) (y1 : Int) : ACalls Tryz.prog 171 [.agg [.int .i64 x0, .int .i64 y0, .int .i64 x1, .int .i64 y1]] H (fun v H' => v = .bool (fk x0 y0 x1 y1) ∧ H' = H) := by
 refine AcT true Tryz.func171 ?_; intro hbel Q hQ
 refine aQ ?_
 refine al (fun h1 => ?_) (fun h1 => ?_)
 ·have h1d := bsT h1
  have g'5 := (jn @h1 @h1d)
  refine aa g'5 ?_
  refine al (fun h2 => ?_) (fun h2 => ?_)
  ·have h2d := bsT h2
   have g'6 := (jn @h2 (jn @h2d g'5))
   refine aa g'6 ?_
   refine af (by kernel_rfl) (pvpt_c _ x0 y0) ?_
   refine aa g'6 ?_
   refine al (fun h3 => ?_) (fun h3 => ?_)
   ·have h3d := bsT h3
    have g'7 := (jn @h3 (jn @h3d g'6))
    refine aa g'7 ?_
    refine af (by kernel_rfl) (pvpt_c _ x1 y1) ?_
    refine aa g'7 ?_
    exact hQ _ _ (ae (.inl rfl) hbel (x := .bool (ptB x1 y1)) (ai Tryz.results171) rfl ⟨by simp [fk, h1d, h2d, h3d], rfl⟩)
   ·have h3d := bsT h3
    have g'8 := (jn @h3 (jn @h3d g'6))
    refine aa g'8 ?_
    exact hQ _ _ (ae (.inl rfl) hbel (x := .bool false) (ai Tryz.results171) rfl ⟨by simp [fk, h1d, h2d, h3d], rfl⟩)
  ·have h2d := bsT h2
   have g'9 := (jn @h2 (jn @h2d g'5))
   refine aa g'9 ?_
   exact hQ _ _ (ae (.inl rfl) hbel (x := .bool false) (ai Tryz.results171) rfl ⟨by simp [fk, h1d, h2d], rfl⟩)
 ·have h1d := bsT h1
  have g'10 := (jn @h1 @h1d)
  refine aa g'10 ?_
  exact hQ _ _ (ae (.inl rfl) hbel (x := .bool false) (ai Tryz.results171) rfl ⟨by simp [fk, h1d], rfl⟩)
theorem span_c (H : ac) (a : Int) (b : Int) (kba : -2097152 ≤ a ∧ a ≤ 2097152) (kbb : -2097152 ≤ b ∧ b ≤ 2097152) : ACalls Tryz.prog 213 [.int .i64 a, .int .i64 b] H (fun v H' => v = .tup [.int .i64 (spl a), .int .i64 (sph b)] ∧ H' = H) := by
 refine AcT true Tryz.func213 ?_; intro hbel Q hQ
 refine aQ ?_
 refine af (by kernel_rfl) (jw _ (0 - a) 64 (by omega) (by omega)) ?_
 refine aQ ?_
 refine af (by kernel_rfl) (jw _ b 64 (by omega) (by omega)) ?_
 refine aQ ?_
 exact hQ _ _ (au (.inl rfl) hbel (x := .tup [.int .i64 ((0 - ((0 - a) / 64)) - 1), .int .i64 (b / 64)]) (ai Tryz.results213) rfl ⟨rfl, rfl⟩)
open Go.RowKit
theorem grid_bd2 {p : Int → Int → Bool} {x0 y0 y : Int} {w n m : Nat} (hn : n ≤ 33000) (hw : w ≤ 33000) (hm : m ≤ w) : (cr p x0 w y0 n).length + (rowR p x0 y m).length ≤ 1089033000 := by
 have h1 := iZ (p := p) (x0 := x0) (y0 := y0) (w := w) n
 have h2 := ki (p := p) (x0 := x0) (y := y) m
 have h3 := Nat.mul_le_mul hn hw
 omega
def rngB (lo hi : Int) : Bool := decide (0 ≤ lo) && (decide (lo ≤ hi) && decide (hi ≤ 2048))
def trE (px py vx vy vd lo hi : Int) : Int := if (ptB px py && dc vx vy vd) = true then (if rngB lo hi = true then 0 else 2) else 1
def trL (px py vx vy vd lo hi : Int) : List (Int × Int) := mkL (trE px py vx vy vd lo hi) (dl px py px py vx vy vd lo hi)
def eL (x0 y0 x1 y1 vx vy vd lo hi : Int) : Int := if (fk x0 y0 x1 y1 && dc vx vy vd) = true then (if rngB lo hi = true then (if 1024 < x1 - x0 ∨ 1024 < y1 - y0 then 6 else 0) else 2) else 1
def cB (x0 y0 x1 y1 vx vy vd lo hi : Int) : List (Int × Int) := mkL (eL x0 y0 x1 y1 vx vy vd lo hi) (dl x0 y0 x1 y1 vx vy vd lo hi)
theorem eM {lo hi : Int} : rngB lo hi = true ↔ 0 ≤ lo ∧ lo ≤ hi ∧ hi ≤ 2048 := by unfold rngB; simp only [Bool.and_eq_true, decide_eq_true_eq]
theorem l6 {x y : Int} : ptB x y = true ↔ (-1048576 ≤ x ∧ x ≤ 1048576) ∧ -1048576 ≤ y ∧ y ≤ 1048576 := by unfold ptB; rw [Bool.and_eq_true, bl, bl]
theorem trE_1 {px py vx vy vd lo hi : Int} (h : ¬ (ptB px py = true ∧ dc vx vy vd = true)) : trE px py vx vy vd lo hi = 1 ∧ trL px py vx vy vd lo hi = [] := by
 have e : trE px py vx vy vd lo hi = 1 := if_neg (by rw [Bool.and_eq_true]; exact h)
 exact ⟨e, if_neg (by rw [e]; decide)⟩
theorem trE_2 {px py vx vy vd lo hi : Int} (h1 : ptB px py = true) (h2 : dc vx vy vd = true) (h : ¬ (0 ≤ lo ∧ lo ≤ hi ∧ hi ≤ 2048)) : trE px py vx vy vd lo hi = 2 ∧ trL px py vx vy vd lo hi = [] := by
 have e : trE px py vx vy vd lo hi = 2 := by unfold trE; rw [h1, h2, if_pos (show (true && true) = true from rfl), if_neg (by rw [eM]; exact h)]
 exact ⟨e, if_neg (by rw [e]; decide)⟩
theorem trE_0 {px py vx vy vd lo hi : Int} (h1 : ptB px py = true) (h2 : dc vx vy vd = true) (h : 0 ≤ lo ∧ lo ≤ hi ∧ hi ≤ 2048) : trE px py vx vy vd lo hi = 0 ∧ trL px py vx vy vd lo hi = dl px py px py vx vy vd lo hi := by
 have e : trE px py vx vy vd lo hi = 0 := by unfold trE; rw [h1, h2, if_pos (show (true && true) = true from rfl), if_pos (eM.2 h)]
 exact ⟨e, if_pos e⟩
theorem sptE_1 {x0 y0 x1 y1 vx vy vd lo hi : Int} (h : ¬ (fk x0 y0 x1 y1 = true ∧ dc vx vy vd = true)) : eL x0 y0 x1 y1 vx vy vd lo hi = 1 ∧ cB x0 y0 x1 y1 vx vy vd lo hi = [] := by
 have e : eL x0 y0 x1 y1 vx vy vd lo hi = 1 := if_neg (by rw [Bool.and_eq_true]; exact h)
 exact ⟨e, if_neg (by rw [e]; decide)⟩
theorem sptE_2 {x0 y0 x1 y1 vx vy vd lo hi : Int} (h1 : fk x0 y0 x1 y1 = true) (h2 : dc vx vy vd = true) (h : ¬ (0 ≤ lo ∧ lo ≤ hi ∧ hi ≤ 2048)) : eL x0 y0 x1 y1 vx vy vd lo hi = 2 ∧ cB x0 y0 x1 y1 vx vy vd lo hi = [] := by
 have e : eL x0 y0 x1 y1 vx vy vd lo hi = 2 := by unfold eL; rw [h1, h2, if_pos (show (true && true) = true from rfl), if_neg (by rw [eM]; exact h)]
 exact ⟨e, if_neg (by rw [e]; decide)⟩
theorem sptE_6 {x0 y0 x1 y1 vx vy vd lo hi : Int} (h1 : fk x0 y0 x1 y1 = true) (h2 : dc vx vy vd = true) (h : 0 ≤ lo ∧ lo ≤ hi ∧ hi ≤ 2048) (k : 1024 < x1 - x0 ∨ 1024 < y1 - y0) : eL x0 y0 x1 y1 vx vy vd lo hi = 6 ∧ cB x0 y0 x1 y1 vx vy vd lo hi = [] := by
 have e : eL x0 y0 x1 y1 vx vy vd lo hi = 6 := by unfold eL; rw [h1, h2, if_pos (show (true && true) = true from rfl), if_pos (eM.2 h), if_pos k]
 exact ⟨e, if_neg (by rw [e]; decide)⟩
theorem sptE_0 {x0 y0 x1 y1 vx vy vd lo hi : Int} (h1 : fk x0 y0 x1 y1 = true) (h2 : dc vx vy vd = true) (h : 0 ≤ lo ∧ lo ≤ hi ∧ hi ≤ 2048) (k : ¬ (1024 < x1 - x0 ∨ 1024 < y1 - y0)) : eL x0 y0 x1 y1 vx vy vd lo hi = 0 ∧ cB x0 y0 x1 y1 vx vy vd lo hi = dl x0 y0 x1 y1 vx vy vd lo hi := by
 have e : eL x0 y0 x1 y1 vx vy vd lo hi = 0 := by unfold eL; rw [h1, h2, if_pos (show (true && true) = true from rfl), if_pos (eM.2 h), if_neg k]
 exact ⟨e, if_pos e⟩
theorem tc {x0 y0 x1 y1 vx vy vd lo hi : Int} (hx : -1048576 ≤ x0 ∧ x0 ≤ x1 ∧ x1 ≤ 1048576) (hy : -1048576 ≤ y0 ∧ y0 ≤ y1 ∧ y1 ≤ 1048576) (hv : dc vx vy vd = true) (h : 0 ≤ lo ∧ lo ≤ hi ∧ hi ≤ 2048) : (dl x0 y0 x1 y1 vx vy vd lo hi).length ≤ cg (ay x0 vx vd lo hi) (bt x1 vx vd lo hi) * cg (ay y0 vy vd lo hi) (bt y1 vy vd lo hi) := by
 have := iZ (p := cm x0 y0 x1 y1 vx vy vd lo hi) (x0 := spl (ay x0 vx vd lo hi)) (y0 := spl (ay y0 vy vd lo hi)) (w := cg (ay x0 vx vd lo hi) (bt x1 vx vd lo hi)) (cg (ay y0 vy vd lo hi) (bt y1 vy vd lo hi))
 unfold dl; rw [Nat.mul_comm]; exact this
theorem jD {a b n d lo hi : Int} (hd : 0 < d) (hn : -d ≤ n ∧ n ≤ d) (h0 : 0 ≤ lo) (hh : lo ≤ hi) (h1 : hi ≤ 2048) (hab : a ≤ b ∧ b ≤ a + 1024) : cg (ay a n d lo hi) (bt b n d lo hi) ≤ 85 := by
 have r := g8 (a := a) (b := b) hd hn h0 hh h1
 unfold cg spl sph; omega
theorem trE_z {px py vx vy vd lo hi : Int} (h : trE px py vx vy vd lo hi = 0) : ptB px py = true ∧ dc vx vy vd = true ∧ 0 ≤ lo ∧ lo ≤ hi ∧ hi ≤ 2048 := by
 unfold trE at h
 split at h
 ·rename_i hv
  rw [Bool.and_eq_true] at hv
  split at h
  ·rename_i hr; exact ⟨hv.1, hv.2, eM.1 hr⟩
  ·omega
 ·omega
theorem sptE_z {x0 y0 x1 y1 vx vy vd lo hi : Int} (h : eL x0 y0 x1 y1 vx vy vd lo hi = 0) : fk x0 y0 x1 y1 = true ∧ dc vx vy vd = true ∧ (0 ≤ lo ∧ lo ≤ hi ∧ hi ≤ 2048) ∧ ¬ (1024 < x1 - x0 ∨ 1024 < y1 - y0) := by
 unfold eL at h
 split at h
 ·rename_i hv
  rw [Bool.and_eq_true] at hv
  split at h
  ·rename_i hr
   split at h
   ·omega
   ·rename_i hk; exact ⟨hv.1, hv.2, eM.1 hr, hk⟩
  ·omega
 ·omega
theorem ku (x0 y0 x1 y1 vx vy vd lo hi : Int) : (cB x0 y0 x1 y1 vx vy vd lo hi).length ≤ 7225 := by
 unfold cB mkL
 split
 ·rename_i h
  obtain ⟨h1, h2, hr, hk⟩ := sptE_z h
  have hq := sX.1 h1
  have hvv := aR.1 h2
  have l := tc hq.1 hq.2 h2 hr
  have c1 := jD (a := x0) (b := x1) (n := vx) (d := vd) (lo := lo) (hi := hi) (by omega) (by omega) hr.1 hr.2.1 hr.2.2 (by omega)
  have c2 := jD (a := y0) (b := y1) (n := vy) (d := vd) (lo := lo) (hi := hi) (by omega) (by omega) hr.1 hr.2.1 hr.2.2 (by omega)
  exact Nat.le_trans l (Nat.mul_le_mul c1 c2)
 ·simp
theorem jE (px py vx vy vd lo hi : Int) : (trL px py vx vy vd lo hi).length ≤ 7225 := by
 unfold trL mkL
 split
 ·rename_i h
  obtain ⟨h1, h2, hr⟩ := trE_z h
  have hq := l6.1 h1
  have hvv := aR.1 h2
  have l := tc (x0 := px) (x1 := px) (y0 := py) (y1 := py) (by omega) (by omega) h2 hr
  have c1 := jD (a := px) (b := px) (n := vx) (d := vd) (lo := lo) (hi := hi) (by omega) (by omega) hr.1 hr.2.1 hr.2.2 (by omega)
  have c2 := jD (a := py) (b := py) (n := vy) (d := vd) (lo := lo) (hi := hi) (by omega) (by omega) hr.1 hr.2.1 hr.2.2 (by omega)
  exact Nat.le_trans l (Nat.mul_le_mul c1 c2)
 ·simp
theorem swpL_mem {x0 y0 x1 y1 vx vy vd lo hi : Int} {c : Int × Int} (hx : -1048576 ≤ x0 ∧ x0 ≤ x1 ∧ x1 ≤ 1048576) (hy : -1048576 ≤ y0 ∧ y0 ≤ y1 ∧ y1 ≤ 1048576) (hv : dc vx vy vd = true) (h : 0 ≤ lo ∧ lo ≤ hi ∧ hi ≤ 2048) : c ∈ dl x0 y0 x1 y1 vx vy vd lo hi ↔ cm x0 y0 x1 y1 vx vy vd lo hi c.1 c.2 = true := by
 have hvv := aR.1 hv
 have r1 := g8 (a := x0) (b := x1) (n := vx) (d := vd) (lo := lo) (hi := hi) (by omega) (by omega) h.1 h.2.1 h.2.2
 have r2 := g8 (a := y0) (b := y1) (n := vy) (d := vd) (lo := lo) (hi := hi) (by omega) (by omega) h.1 h.2.1 h.2.2
 have c1 := jC (a := ay x0 vx vd lo hi) (b := bt x1 vx vd lo hi) (by omega)
 have c2 := jC (a := ay y0 vy vd lo hi) (b := bt y1 vy vd lo hi) (by omega)
 unfold dl
 rw [pf]
 constructor
 ·rintro ⟨-, -, k⟩; exact k
 ·intro k
  obtain ⟨⟨k1, k2⟩, k3, k4⟩ := swp_range hx hy k
  have k1 := spl_le.2 k1
  have k2 := le_sph.2 k2
  have k3 := spl_le.2 k3
  have k4 := le_sph.2 k4
  exact ⟨by omega, by omega, k⟩
theorem swp_bd {x0 y0 x1 y1 vx vy vd lo hi a b : Int} (h : cm x0 y0 x1 y1 vx vy vd lo hi a b = true) : (-32768 ≤ a ∧ a ≤ 32768) ∧ -32768 ≤ b ∧ b ≤ 32768 := by
 unfold cm ei at h
 simp only [Bool.and_eq_true, cX] at h
 omega
theorem pvv_c (H : ac) (vx : Int) (vy : Int) (vd : Int) : ACalls Tryz.prog 172 [.agg [.int .i64 vx, .int .i64 vy, .int .i64 vd]] H (fun v H' => v = .bool (dc vx vy vd) ∧ H' = H) := by
 refine AcT true Tryz.func172 ?_; intro hbel Q hQ
 refine aQ ?_
 refine al (fun h1 => ?_) (fun h1 => ?_)
 ·have h1d := bsT h1
  have g'1 := (jn @h1 @h1d)
  refine aa g'1 ?_
  refine al (fun h2 => ?_) (fun h2 => ?_)
  ·have h2d := bsT h2
   have g'2 := (jn @h2 (jn @h2d g'1))
   refine aa g'2 ?_
   refine af (by kernel_rfl) (eT _ vx vd (by omega)) ?_
   refine aa g'2 ?_
   refine al (fun h3 => ?_) (fun h3 => ?_)
   ·have h3d := bsT h3
    have hwx := bl.1 h3d
    have g'3 := (jn @h3 (jn @h3d g'2))
    refine aa g'3 ?_
    refine af (by kernel_rfl) (eT _ vy vd (by omega)) ?_
    refine aa g'3 ?_
    refine al (fun h4 => ?_) (fun h4 => ?_)
    ·have h4d := bsT h4
     have hwy := bl.1 h4d
     have hm1 := bE (a := vx) (b := vx) (A := 67108864) (B := 67108864) (by omega) (by omega)
     have hm2 := bE (a := vy) (b := vy) (A := 67108864) (B := 67108864) (by omega) (by omega)
     have hm3 := bE (a := vd) (b := vd) (A := 67108864) (B := 67108864) (by omega) (by omega)
     have g'4 := (jn @h4 (jn @h4d g'3))
     refine aa g'4 ?_
     exact hQ _ _ (ae (.inl rfl) hbel (x := .bool (((vx * vx) + (vy * vy)) == (vd * vd))) (ai Tryz.results172) rfl ⟨by first | (refine congrArg AV.bool ?_; rw [Bool.eq_iff_iff, aR, beq_iff_eq]; exact ⟨fun e => ⟨⟨by omega, by omega⟩, ⟨by omega, by omega⟩, ⟨by omega, by omega⟩, e⟩, fun e => e.2.2.2⟩) | (refine congrArg AV.bool ?_; rw [Bool.eq_iff_iff, aR]; exact ⟨fun e => (by cases e), fun k => (by omega)⟩), rfl⟩)
    ·have h4d := bsT h4
     have hwy : ¬ (-vd ≤ vy ∧ vy ≤ vd) := mt bl.2 (by rw [h4d]; decide)
     have g'5 := (jn @h4 (jn @h4d g'3))
     refine aa g'5 ?_
     exact hQ _ _ (ae (.inl rfl) hbel (x := .bool false) (ai Tryz.results172) rfl ⟨by first | (refine congrArg AV.bool ?_; rw [Bool.eq_iff_iff, aR, beq_iff_eq]; exact ⟨fun e => ⟨⟨by omega, by omega⟩, ⟨by omega, by omega⟩, ⟨by omega, by omega⟩, e⟩, fun e => e.2.2.2⟩) | (refine congrArg AV.bool ?_; rw [Bool.eq_iff_iff, aR]; exact ⟨fun e => (by cases e), fun k => (by omega)⟩), rfl⟩)
   ·have h3d := bsT h3
    have hwx : ¬ (-vd ≤ vx ∧ vx ≤ vd) := mt bl.2 (by rw [h3d]; decide)
    have g'6 := (jn @h3 (jn @h3d g'2))
    refine aa g'6 ?_
    exact hQ _ _ (ae (.inl rfl) hbel (x := .bool false) (ai Tryz.results172) rfl ⟨by first | (refine congrArg AV.bool ?_; rw [Bool.eq_iff_iff, aR, beq_iff_eq]; exact ⟨fun e => ⟨⟨by omega, by omega⟩, ⟨by omega, by omega⟩, ⟨by omega, by omega⟩, e⟩, fun e => e.2.2.2⟩) | (refine congrArg AV.bool ?_; rw [Bool.eq_iff_iff, aR]; exact ⟨fun e => (by cases e), fun k => (by omega)⟩), rfl⟩)
  ·have h2d := bsT h2
   have g'7 := (jn @h2 (jn @h2d g'1))
   refine aa g'7 ?_
   exact hQ _ _ (ae (.inl rfl) hbel (x := .bool false) (ai Tryz.results172) rfl ⟨by first | (refine congrArg AV.bool ?_; rw [Bool.eq_iff_iff, aR, beq_iff_eq]; exact ⟨fun e => ⟨⟨by omega, by omega⟩, ⟨by omega, by omega⟩, ⟨by omega, by omega⟩, e⟩, fun e => e.2.2.2⟩) | (refine congrArg AV.bool ?_; rw [Bool.eq_iff_iff, aR]; exact ⟨fun e => (by cases e), fun k => (by omega)⟩), rfl⟩)
 ·have h1d := bsT h1
  have g'8 := (jn @h1 @h1d)
  refine aa g'8 ?_
  exact hQ _ _ (ae (.inl rfl) hbel (x := .bool false) (ai Tryz.results172) rfl ⟨by first | (refine congrArg AV.bool ?_; rw [Bool.eq_iff_iff, aR, beq_iff_eq]; exact ⟨fun e => ⟨⟨by omega, by omega⟩, ⟨by omega, by omega⟩, ⟨by omega, by omega⟩, e⟩, fun e => e.2.2.2⟩) | (refine congrArg AV.bool ?_; rw [Bool.eq_iff_iff, aR]; exact ⟨fun e => (by cases e), fun k => (by omega)⟩), rfl⟩)
theorem gP (H : ac) (x : Int) (y : Int) (kbx : -2097152 ≤ x ∧ x ≤ 2097152) (kby : -2097152 ≤ y ∧ y ≤ 2097152) : ACalls Tryz.prog 196 [.agg [.int .i64 x, .int .i64 y]] H (fun v H' => v = .agg [.int .i64 (x * 64), .int .i64 (y * 64), .int .i64 (x * 64 + 64), .int .i64 (y * 64 + 64)] ∧ H' = H) := by
 refine AcT true Tryz.func196 ?_; intro hbel Q hQ
 refine aQ ?_
 exact hQ _ _ (ae (.inl rfl) hbel (x := .agg [.int .i64 (x * 64), .int .i64 (y * 64), .int .i64 ((x * 64) + 64), .int .i64 ((y * 64) + 64)]) (ai Tryz.results196) rfl ⟨rfl, rfl⟩)
theorem reach_c (H : ac) (a : Int) (b : Int) (n : Int) (d : Int) (lo : Int) (hi : Int) (ha : -1048576 ≤ a ∧ a ≤ 1048576) (hb : -1048576 ≤ b ∧ b ≤ 1048576) (hd : 1 ≤ d ∧ d ≤ 67108864) (hn : -d ≤ n ∧ n ≤ d) (h0 : 0 ≤ lo) (hh : lo ≤ hi) (h1 : hi ≤ 2048) : ACalls Tryz.prog 212 [.int .i64 a, .int .i64 b, .int .i64 n, .int .i64 d, .int .i64 lo, .int .i64 hi] H (fun v H' => v = .tup [.int .i64 (ay a n d lo hi), .int .i64 (bt b n d lo hi)] ∧ H' = H) := by
 have hm1 := bE (a := lo) (b := n) (A := 2048) (B := 67108864) (by omega) (by omega)
 have hm2 := bE (a := hi) (b := n) (A := 2048) (B := 67108864) (by omega) (by omega)
 have hr := g8 (a := a) (b := b) (n := n) (d := d) (lo := lo) (hi := hi) (by omega) hn h0 hh h1
 unfold ay bt at hr
 have hmn : -137438953472 ≤ (if hi * n < lo * n then hi * n else lo * n) ∧ (if hi * n < lo * n then hi * n else lo * n) ≤ 137438953472 := by split <;> omega
 have hmx : -137438953472 ≤ (if lo * n < hi * n then hi * n else lo * n) ∧ (if lo * n < hi * n then hi * n else lo * n) ≤ 137438953472 := by split <;> omega
 refine AcT true Tryz.func212 ?_; intro hbel Q hQ
 refine aQ ?_
 refine af (by kernel_rfl) (jw _ (if (hi * n) < (lo * n) then (hi * n) else (lo * n)) d (by omega) (by omega)) ?_
 refine aQ ?_
 refine af (by kernel_rfl) (jw _ (if (lo * n) < (hi * n) then (hi * n) else (lo * n)) d (by omega) (by omega)) ?_
 refine aQ ?_
 exact hQ _ _ (au (.inl rfl) hbel (x := .tup [.int .i64 (a + ((if (hi * n) < (lo * n) then (hi * n) else (lo * n)) / d)), .int .i64 ((b + ((if (lo * n) < (hi * n) then (hi * n) else (lo * n)) / d)) + 1)]) (ai Tryz.results212) rfl ⟨rfl, rfl⟩)
theorem te (H : ac) (x0 : Int) (y0 : Int) (x1 : Int) (y1 : Int) (vx : Int) (vy : Int) (vd : Int) (lo : Int) (hi : Int) (hx : -1048576 ≤ x0 ∧ x0 ≤ x1 ∧ x1 ≤ 1048576) (hy : -1048576 ≤ y0 ∧ y0 ≤ y1 ∧ y1 ≤ 1048576) (hv : dc vx vy vd = true) (hl : 0 ≤ lo ∧ lo ≤ hi ∧ hi ≤ 2048) : ACalls Tryz.prog 173 [.agg [.int .i64 x0, .int .i64 y0, .int .i64 x1, .int .i64 y1], .agg [.int .i64 vx, .int .i64 vy, .int .i64 vd], .int .i64 lo, .int .i64 hi] H (fun v H' => v = .sl (some (H.length, 0)) ((dl x0 y0 x1 y1 vx vy vd lo hi).length) (bb (dl x0 y0 x1 y1 vx vy vd lo hi).length) ∧ H' = H ++ [.cells (aX (dl x0 y0 x1 y1 vx vy vd lo hi).length) 2 (prs (dl x0 y0 x1 y1 vx vy vd lo hi))]) := by
 have hvv := aR.1 hv
 have hrx := g8 (a := x0) (b := x1) (n := vx) (d := vd) (lo := lo) (hi := hi) (by omega) (by omega) (by omega) (by omega) (by omega)
 have hry := g8 (a := y0) (b := y1) (n := vy) (d := vd) (lo := lo) (hi := hi) (by omega) (by omega) (by omega) (by omega) (by omega)
 have hcx := jC (a := (ay x0 vx vd lo hi)) (b := (bt x1 vx vd lo hi)) (by omega)
 have hcy := jC (a := (ay y0 vy vd lo hi)) (b := (bt y1 vy vd lo hi)) (by omega)
 refine AcL true Tryz.func173 ?_; intro hbel Q hQ
 refine aQ ?_
 refine af (by kernel_rfl) (reach_c _ x0 x1 vx vd lo hi (by omega) (by omega) (by omega) (by omega) (by omega) (by omega) (by omega)) ?_
 refine aQ ?_
 refine af (by kernel_rfl) (reach_c _ y0 y1 vy vd lo hi (by omega) (by omega) (by omega) (by omega) (by omega) (by omega) (by omega)) ?_
 refine aQ ?_
 refine af (by kernel_rfl) (span_c _ (ay x0 vx vd lo hi) (bt x1 vx vd lo hi) (by omega) (by omega)) ?_
 refine aQ ?_
 refine af (by kernel_rfl) (span_c _ (ay y0 vy vd lo hi) (bt y1 vy vd lo hi) (by omega) (by omega)) ?_
 refine aQ ?_
 refine go_loopA (fun k F Hx => ∃ n : Nat, n + k = cg (ay y0 vy vd lo hi) (bt y1 vy vd lo hi) ∧ F = [(2, .int .i64 lo), (3, .int .i64 hi), (4, .ptr (some (H.length, 0))), (5, .ptr (some (H.length + 1, 0))), (13, .int .i64 (spl (ay x0 vx vd lo hi))), (14, .int .i64 (sph (bt x1 vx vd lo hi))), (16, .int .i64 (sph (bt y1 vy vd lo hi))), (17, .sl (some (H.length + 2, 0)) ((cr (cm x0 y0 x1 y1 vx vy vd lo hi) (spl (ay x0 vx vd lo hi)) (cg (ay x0 vx vd lo hi) (bt x1 vx vd lo hi)) (spl (ay y0 vy vd lo hi)) n).length) (bb (cr (cm x0 y0 x1 y1 vx vy vd lo hi) (spl (ay x0 vx vd lo hi)) (cg (ay x0 vx vd lo hi) (bt x1 vx vd lo hi)) (spl (ay y0 vy vd lo hi)) n).length)), (18, .int .i64 ((spl (ay y0 vy vd lo hi)) + ((n : Nat) : Int)))] ∧ Hx = H ++ [.cells true 0 [.int .i64 x0, .int .i64 y0, .int .i64 x1, .int .i64 y1], .cells true 0 [.int .i64 vx, .int .i64 vy, .int .i64 vd], .cells (aX (cr (cm x0 y0 x1 y1 vx vy vd lo hi) (spl (ay x0 vx vd lo hi)) (cg (ay x0 vx vd lo hi) (bt x1 vx vd lo hi)) (spl (ay y0 vy vd lo hi)) n).length) 2 (prs (cr (cm x0 y0 x1 y1 vx vy vd lo hi) (spl (ay x0 vx vd lo hi)) (cg (ay x0 vx vd lo hi) (bt x1 vx vd lo hi)) (spl (ay y0 vy vd lo hi)) n))]) (cg (ay y0 vy vd lo hi) (bt y1 vy vd lo hi)) ?_ ?_
 ·refine ⟨_, _, _, ⟨0, by omega, rfl, rfl⟩, Abs.byG hbel [.cells false 2 []] rfl [0, 1, 2] (by decide) ?_⟩
  exact aD (jn @gridR_0 (jn @Int.natCast_zero @Int.add_zero))
 ·rintro k0 F Hx ⟨n, hm0, rfl, rfl⟩ Q1 hJ0 hr1 he1
  have hQ1 := fun F H' h => hr1 F H' (hQ F H' h)
  refine aN fun Q2 hn2 hr2 he2 => ?_
  have hQ2 := fun F H' h => hr2 F H' (hQ1 F H' h)
  refine aI true try_mixed (by kernel_rfl) ?_
  have g'9 := (jn @bp @cC)
  refine aa g'9 ?_
  refine ak (fun h1 => ?_) (fun h1 => ?_)
  ·have h1d := bsT h1
   have g'10 := (jn @h1 (jn @h1d g'9))
   refine aa g'10 ?_
   refine hn2 _ _ ?_
   refine aN fun Q3 hn3 hr3 he3 => ?_
   have hQ3 := fun F H' h => hr3 F H' (hQ1 F H' h)
   refine eP fun Q4 hn4 hr4 he4 hb4 => ?_
   have hQ4 := fun F H' h => hr4 F H' (hQ3 F H' h)
   refine aN fun Q5 hn5 hr5 he5 => ?_
   have hQ5 := fun F H' h => hr5 F H' (hQ4 F H' h)
   refine aI true try_mixed (by kernel_rfl) ?_
   refine aa g'10 ?_
   refine hn5 _ _ ?_
   refine eP fun Q6 hn6 hr6 he6 hb6 => ?_
   have hQ6 := fun F H' h => hr6 F H' (hQ4 F H' h)
   refine sS (fun k F Hx => ∃ m : Nat, m + k = (cg (ay x0 vx vd lo hi) (bt x1 vx vd lo hi)) ∧ F = [(2, .int .i64 lo), (3, .int .i64 hi), (4, .ptr (some (H.length, 0))), (5, .ptr (some (H.length + 1, 0))), (13, .int .i64 (spl (ay x0 vx vd lo hi))), (14, .int .i64 (sph (bt x1 vx vd lo hi))), (16, .int .i64 (sph (bt y1 vy vd lo hi))), (17, .sl (some (H.length + 2, 0)) ((cr (cm x0 y0 x1 y1 vx vy vd lo hi) (spl (ay x0 vx vd lo hi)) (cg (ay x0 vx vd lo hi) (bt x1 vx vd lo hi)) (spl (ay y0 vy vd lo hi)) n ++ rowR (cm x0 y0 x1 y1 vx vy vd lo hi) (spl (ay x0 vx vd lo hi)) ((spl (ay y0 vy vd lo hi)) + ((n : Nat) : Int)) m).length) (bb (cr (cm x0 y0 x1 y1 vx vy vd lo hi) (spl (ay x0 vx vd lo hi)) (cg (ay x0 vx vd lo hi) (bt x1 vx vd lo hi)) (spl (ay y0 vy vd lo hi)) n ++ rowR (cm x0 y0 x1 y1 vx vy vd lo hi) (spl (ay x0 vx vd lo hi)) ((spl (ay y0 vy vd lo hi)) + ((n : Nat) : Int)) m).length)), (18, .int .i64 ((spl (ay y0 vy vd lo hi)) + ((n : Nat) : Int))), (19, .int .i64 ((spl (ay x0 vx vd lo hi)) + ((m : Nat) : Int)))] ∧ Hx = H ++ [.cells true 0 [.int .i64 x0, .int .i64 y0, .int .i64 x1, .int .i64 y1], .cells true 0 [.int .i64 vx, .int .i64 vy, .int .i64 vd], .cells (aX (cr (cm x0 y0 x1 y1 vx vy vd lo hi) (spl (ay x0 vx vd lo hi)) (cg (ay x0 vx vd lo hi) (bt x1 vx vd lo hi)) (spl (ay y0 vy vd lo hi)) n ++ rowR (cm x0 y0 x1 y1 vx vy vd lo hi) (spl (ay x0 vx vd lo hi)) ((spl (ay y0 vy vd lo hi)) + ((n : Nat) : Int)) m).length) 2 (prs (cr (cm x0 y0 x1 y1 vx vy vd lo hi) (spl (ay x0 vx vd lo hi)) (cg (ay x0 vx vd lo hi) (bt x1 vx vd lo hi)) (spl (ay y0 vy vd lo hi)) n ++ rowR (cm x0 y0 x1 y1 vx vy vd lo hi) (spl (ay x0 vx vd lo hi)) ((spl (ay y0 vy vd lo hi)) + ((n : Nat) : Int)) m))]) ((cg (ay x0 vx vd lo hi) (bt x1 vx vd lo hi))) ?_ ?_
   ·refine ⟨_, _, _, ⟨0, by omega, rfl, rfl⟩, Abs.byG hbel [] rfl [0, 1, 2] (by decide) ?_⟩
    exact aD (jn @rowR_0 (jn @List.append_nil.{0} (jn @Int.natCast_zero @Int.add_zero)))
   ·rintro k1 F Hx ⟨m, hm1, rfl, rfl⟩ Q7 hJ1 hr7 he7
    have hQ7 := fun F H' h => hr7 F H' (hQ6 F H' h)
    refine aN fun Q8 hn8 hr8 he8 => ?_
    have hQ8 := fun F H' h => hr8 F H' (hQ7 F H' h)
    refine aI true try_mixed (by kernel_rfl) ?_
    refine aa g'10 ?_
    refine ak (fun h2 => ?_) (fun h2 => ?_)
    ·have h2d := bsT h2
     have hgb := grid_bd2 (p := (cm x0 y0 x1 y1 vx vy vd lo hi)) (x0 := (spl (ay x0 vx vd lo hi))) (y0 := (spl (ay y0 vy vd lo hi))) (y := (spl (ay y0 vy vd lo hi)) + ((n : Nat) : Int)) (w := (cg (ay x0 vx vd lo hi) (bt x1 vx vd lo hi))) (n := n) (m := m) (by omega) (by omega) (by omega)
     have g'11 := (jn @h2 (jn @h2d g'10))
     refine aa g'11 ?_
     refine hn8 _ _ ?_
     refine aN fun Q9 hn9 hr9 he9 => ?_
     have hQ9 := fun F H' h => hr9 F H' (hQ7 F H' h)
     refine eP fun Q10 hn10 hr10 he10 hb10 => ?_
     have hQ10 := fun F H' h => hr10 F H' (hQ9 F H' h)
     refine aN fun Q11 hn11 hr11 he11 => ?_
     have hQ11 := fun F H' h => hr11 F H' (hQ10 F H' h)
     refine aI true try_mixed (by kernel_rfl) ?_
     refine aa g'11 ?_
     refine hn11 _ _ ?_
     refine cd true try_mixed [[0, 1, 2, 3, 4, 5, 6, 7, 8, 9], [0, 1, 2, 7, 3, 4, 5, 6, 8, 9], [0, 2, 7, 1, 3, 4, 5, 6, 8, 9]] (by kernel_rfl) (fun F2 H2 => F2 = [(2, .int .i64 lo), (3, .int .i64 hi), (4, .ptr (some (H.length, 0))), (5, .ptr (some (H.length + 1, 0))), (13, .int .i64 (spl (ay x0 vx vd lo hi))), (14, .int .i64 (sph (bt x1 vx vd lo hi))), (16, .int .i64 (sph (bt y1 vy vd lo hi))), (17, .sl (some (H.length + 2, 0)) ((cr (cm x0 y0 x1 y1 vx vy vd lo hi) (spl (ay x0 vx vd lo hi)) (cg (ay x0 vx vd lo hi) (bt x1 vx vd lo hi)) (spl (ay y0 vy vd lo hi)) n ++ rowR (cm x0 y0 x1 y1 vx vy vd lo hi) (spl (ay x0 vx vd lo hi)) ((spl (ay y0 vy vd lo hi)) + ((n : Nat) : Int)) m).length) (bb (cr (cm x0 y0 x1 y1 vx vy vd lo hi) (spl (ay x0 vx vd lo hi)) (cg (ay x0 vx vd lo hi) (bt x1 vx vd lo hi)) (spl (ay y0 vy vd lo hi)) n ++ rowR (cm x0 y0 x1 y1 vx vy vd lo hi) (spl (ay x0 vx vd lo hi)) ((spl (ay y0 vy vd lo hi)) + ((n : Nat) : Int)) m).length)), (18, .int .i64 ((spl (ay y0 vy vd lo hi)) + ((n : Nat) : Int))), (19, .int .i64 ((spl (ay x0 vx vd lo hi)) + ((m : Nat) : Int))), (20, .ptr (some (H.length + 3, 0))), (21, .ptr (some (H.length + 4, 0))), (22, .bool (ei (((spl (ay x0 vx vd lo hi)) + ((m : Nat) : Int)) * 64) (((spl (ay y0 vy vd lo hi)) + ((n : Nat) : Int)) * 64) (((spl (ay x0 vx vd lo hi)) + ((m : Nat) : Int)) * 64 + 64) (((spl (ay y0 vy vd lo hi)) + ((n : Nat) : Int)) * 64 + 64) x0 y0 x1 y1))] ∧ H2 = H ++ [.cells true 0 [.int .i64 x0, .int .i64 y0, .int .i64 x1, .int .i64 y1], .cells true 0 [.int .i64 vx, .int .i64 vy, .int .i64 vd], .cells (aX (cr (cm x0 y0 x1 y1 vx vy vd lo hi) (spl (ay x0 vx vd lo hi)) (cg (ay x0 vx vd lo hi) (bt x1 vx vd lo hi)) (spl (ay y0 vy vd lo hi)) n ++ rowR (cm x0 y0 x1 y1 vx vy vd lo hi) (spl (ay x0 vx vd lo hi)) ((spl (ay y0 vy vd lo hi)) + ((n : Nat) : Int)) m).length) 2 (prs (cr (cm x0 y0 x1 y1 vx vy vd lo hi) (spl (ay x0 vx vd lo hi)) (cg (ay x0 vx vd lo hi) (bt x1 vx vd lo hi)) (spl (ay y0 vy vd lo hi)) n ++ rowR (cm x0 y0 x1 y1 vx vy vd lo hi) (spl (ay x0 vx vd lo hi)) ((spl (ay y0 vy vd lo hi)) + ((n : Nat) : Int)) m)), .cells true 0 [.int .i64 ((spl (ay x0 vx vd lo hi)) + ((m : Nat) : Int)), .int .i64 ((spl (ay y0 vy vd lo hi)) + ((n : Nat) : Int))], .cells true 0 [.int .i64 (mkV (ei (((spl (ay x0 vx vd lo hi)) + ((m : Nat) : Int)) * 64) (((spl (ay y0 vy vd lo hi)) + ((n : Nat) : Int)) * 64) (((spl (ay x0 vx vd lo hi)) + ((m : Nat) : Int)) * 64 + 64) (((spl (ay y0 vy vd lo hi)) + ((n : Nat) : Int)) * 64 + 64) x0 y0 x1 y1) ((((spl (ay x0 vx vd lo hi)) + ((m : Nat) : Int)) * 64) - x1)), .int .i64 (mkV (ei (((spl (ay x0 vx vd lo hi)) + ((m : Nat) : Int)) * 64) (((spl (ay y0 vy vd lo hi)) + ((n : Nat) : Int)) * 64) (((spl (ay x0 vx vd lo hi)) + ((m : Nat) : Int)) * 64 + 64) (((spl (ay y0 vy vd lo hi)) + ((n : Nat) : Int)) * 64 + 64) x0 y0 x1 y1) ((((spl (ay y0 vy vd lo hi)) + ((n : Nat) : Int)) * 64) - y1)), .int .i64 (mkV (ei (((spl (ay x0 vx vd lo hi)) + ((m : Nat) : Int)) * 64) (((spl (ay y0 vy vd lo hi)) + ((n : Nat) : Int)) * 64) (((spl (ay x0 vx vd lo hi)) + ((m : Nat) : Int)) * 64 + 64) (((spl (ay y0 vy vd lo hi)) + ((n : Nat) : Int)) * 64 + 64) x0 y0 x1 y1) ((((spl (ay x0 vx vd lo hi)) + ((m : Nat) : Int)) * 64 + 64) - x0)), .int .i64 (mkV (ei (((spl (ay x0 vx vd lo hi)) + ((m : Nat) : Int)) * 64) (((spl (ay y0 vy vd lo hi)) + ((n : Nat) : Int)) * 64) (((spl (ay x0 vx vd lo hi)) + ((m : Nat) : Int)) * 64 + 64) (((spl (ay y0 vy vd lo hi)) + ((n : Nat) : Int)) * 64 + 64) x0 y0 x1 y1) ((((spl (ay y0 vy vd lo hi)) + ((n : Nat) : Int)) * 64 + 64) - y0))]]) ?_ ?_
     ·refine aC ?_ (aC ?_ (aC ?_ (ce))) <;> intro J hJ
      ·skip
       refine aw g'11 ?_
       refine aB (by kernel_rfl) (gP _ ((spl (ay x0 vx vd lo hi)) + ((m : Nat) : Int)) ((spl (ay y0 vy vd lo hi)) + ((n : Nat) : Int)) (by omega) (by omega)) ?_
       refine aw g'11 ?_
       refine aB (by kernel_rfl) (kr _ (((spl (ay x0 vx vd lo hi)) + ((m : Nat) : Int)) * 64) (((spl (ay y0 vy vd lo hi)) + ((n : Nat) : Int)) * 64) (((spl (ay x0 vx vd lo hi)) + ((m : Nat) : Int)) * 64 + 64) (((spl (ay y0 vy vd lo hi)) + ((n : Nat) : Int)) * 64 + 64) x0 y0 x1 y1 (by omega) (by omega) (by omega) (by omega) (by omega) (by omega) (by omega) (by omega)) ?_
       refine aw g'11 ?_
       refine aS (hJ _ _ ⟨_, _, _, ⟨rfl, rfl⟩, Abs.byG hbel [] rfl [0, 1, 2, 3, 4] (by decide) ?_⟩)
       exact eZ
      ·skip
       refine aw g'11 ?_
       refine aB (by kernel_rfl) (gP _ ((spl (ay x0 vx vd lo hi)) + ((m : Nat) : Int)) ((spl (ay y0 vy vd lo hi)) + ((n : Nat) : Int)) (by omega) (by omega)) ?_
       refine aw g'11 ?_
       refine aB (by kernel_rfl) (kr _ (((spl (ay x0 vx vd lo hi)) + ((m : Nat) : Int)) * 64) (((spl (ay y0 vy vd lo hi)) + ((n : Nat) : Int)) * 64) (((spl (ay x0 vx vd lo hi)) + ((m : Nat) : Int)) * 64 + 64) (((spl (ay y0 vy vd lo hi)) + ((n : Nat) : Int)) * 64 + 64) x0 y0 x1 y1 (by omega) (by omega) (by omega) (by omega) (by omega) (by omega) (by omega) (by omega)) ?_
       refine aw g'11 ?_
       refine aS (hJ _ _ ⟨_, _, _, ⟨rfl, rfl⟩, Abs.byG hbel [] rfl [0, 1, 2, 3, 4] (by decide) ?_⟩)
       exact eZ
      ·skip
       refine aw g'11 ?_
       refine aB (by kernel_rfl) (gP _ ((spl (ay x0 vx vd lo hi)) + ((m : Nat) : Int)) ((spl (ay y0 vy vd lo hi)) + ((n : Nat) : Int)) (by omega) (by omega)) ?_
       refine aw g'11 ?_
       refine aB (by kernel_rfl) (kr _ (((spl (ay x0 vx vd lo hi)) + ((m : Nat) : Int)) * 64) (((spl (ay y0 vy vd lo hi)) + ((n : Nat) : Int)) * 64) (((spl (ay x0 vx vd lo hi)) + ((m : Nat) : Int)) * 64 + 64) (((spl (ay y0 vy vd lo hi)) + ((n : Nat) : Int)) * 64 + 64) x0 y0 x1 y1 (by omega) (by omega) (by omega) (by omega) (by omega) (by omega) (by omega) (by omega)) ?_
       refine aw g'11 ?_
       refine aS (hJ _ _ ⟨_, _, _, ⟨rfl, rfl⟩, Abs.byG hbel [] rfl [0, 1, 2, 3, 4] (by decide) ?_⟩)
       exact eZ
     rintro F2 H2 ⟨rfl, rfl⟩
     refine aI true try_mixed (by kernel_rfl) ?_
     refine aa g'11 ?_
     refine al (fun h3 => ?_) (fun h3 => ?_)
     ·have h3d := bsT h3
      have hmn := h3d
      have g'12 := (jn @h3 (jn @h3d g'11))
      refine aa g'12 ?_
      refine af (by kernel_rfl) (gE _ 0 0 vx vy vd lo hi (mkV true ((((spl (ay x0 vx vd lo hi)) + ((m : Nat) : Int)) * 64) - x1)) (mkV true ((((spl (ay y0 vy vd lo hi)) + ((n : Nat) : Int)) * 64) - y1)) (mkV true ((((spl (ay x0 vx vd lo hi)) + ((m : Nat) : Int)) * 64 + 64) - x0)) (mkV true ((((spl (ay y0 vy vd lo hi)) + ((n : Nat) : Int)) * 64 + 64) - y0))) ?_
      refine aa g'12 ?_
      refine ak (fun h4 => ?_) (fun h4 => ?_)
      ·have h4d := bsT h4
       have hov : cm x0 y0 x1 y1 vx vy vd lo hi ((spl (ay x0 vx vd lo hi)) + ((m : Nat) : Int)) ((spl (ay y0 vy vd lo hi)) + ((n : Nat) : Int)) = true := by have q := h4d; unfold cm; rw [hmn]; exact q
       have g'13 := (jn @h4 (jn @h4d (jn @dU g'12)))
       refine aa g'13 ?_
       refine hn10 _ _ ?_
       refine hn9 _ _ ?_
       refine aI true try_mixed (by kernel_rfl) ?_
       refine aa g'13 ?_
       refine hJ1 _ _ ⟨k1 - 1, by omega, _, _, _, ⟨m + 1, by omega, rfl, rfl⟩, Abs.byG hbel [] rfl [0, 1, 6] (by decide) ?_⟩
       exact aD (jn @rowR.eq_2 (jn @hov (jn @if_true.{1} (jn @if_false.{1} (jn @Bool.false_eq_true (jn @List.append_nil.{0} (jn @List.append_assoc.{0} (jn @Int.natCast_add (jn @Int.natCast_one @Int.add_assoc)))))))))
      ·have h4d := bsT h4
       have hov : cm x0 y0 x1 y1 vx vy vd lo hi ((spl (ay x0 vx vd lo hi)) + ((m : Nat) : Int)) ((spl (ay y0 vy vd lo hi)) + ((n : Nat) : Int)) = false := by have q := h4d; unfold cm; rw [hmn]; exact q
       have g'14 := (jn @h4 (jn @h4d g'12))
       refine aa g'14 ?_
       refine hn10 _ _ ?_
       refine hn9 _ _ ?_
       refine aI true try_mixed (by kernel_rfl) ?_
       refine aa g'14 ?_
       refine hJ1 _ _ ⟨k1 - 1, by omega, _, _, _, ⟨m + 1, by omega, rfl, rfl⟩, Abs.byG hbel [] rfl [0, 1, 2] (by decide) ?_⟩
       exact aD (jn @rowR.eq_2 (jn @hov (jn @if_true.{1} (jn @if_false.{1} (jn @Bool.false_eq_true (jn @List.append_nil.{0} (jn @List.append_assoc.{0} (jn @Int.natCast_add (jn @Int.natCast_one @Int.add_assoc)))))))))
     ·have h3d := bsT h3
      have hov : cm x0 y0 x1 y1 vx vy vd lo hi ((spl (ay x0 vx vd lo hi)) + ((m : Nat) : Int)) ((spl (ay y0 vy vd lo hi)) + ((n : Nat) : Int)) = false := by unfold cm; rw [h3d]; rfl
      have g'15 := (jn @h3 (jn @h3d g'11))
      refine aa g'15 ?_
      refine hn10 _ _ ?_
      refine hn9 _ _ ?_
      refine aI true try_mixed (by kernel_rfl) ?_
      refine aa g'15 ?_
      refine hJ1 _ _ ⟨k1 - 1, by omega, _, _, _, ⟨m + 1, by omega, rfl, rfl⟩, Abs.byG hbel [] rfl [0, 1, 2] (by decide) ?_⟩
      exact aD (jn @rowR.eq_2 (jn @hov (jn @if_true.{1} (jn @if_false.{1} (jn @Bool.false_eq_true (jn @List.append_nil.{0} (jn @List.append_assoc.{0} (jn @Int.natCast_add (jn @Int.natCast_one @Int.add_assoc)))))))))
    ·have h2d := bsT h2
     obtain rfl : m = (cg (ay x0 vx vd lo hi) (bt x1 vx vd lo hi)) := by omega
     have g'16 := (jn @h2 (jn @h2d g'10))
     refine aa g'16 ?_
     refine he8 _ _ _ ?_
     refine he7 _ _ _ ?_
     refine hb6 _ _ ?_
     refine hn4 _ _ ?_
     refine hn3 _ _ ?_
     refine aI true try_mixed (by kernel_rfl) ?_
     refine aa g'16 ?_
     refine hJ0 _ _ ⟨k0 - 1, by omega, _, _, _, ⟨n + 1, by omega, rfl, rfl⟩, Abs.byG hbel [] rfl [0, 1, 2] (by decide) ?_⟩
     exact aD (jn @gridR_s (jn @Int.natCast_add (jn @Int.natCast_one @Int.add_assoc)))
  ·have h1d := bsT h1
   obtain rfl : n = cg (ay y0 vy vd lo hi) (bt y1 vy vd lo hi) := by omega
   have g'17 := (jn @h1 (jn @h1d g'9))
   refine aa g'17 ?_
   refine he2 _ _ _ ?_
   refine he1 _ _ _ ?_
   refine aa g'17 ?_
   refine hQ _ _ (aY (.inl rfl) hbel (x1 := .sl (some (H.length + 2, 0)) ((cr (cm x0 y0 x1 y1 vx vy vd lo hi) (spl (ay x0 vx vd lo hi)) (cg (ay x0 vx vd lo hi) (bt x1 vx vd lo hi)) (spl (ay y0 vy vd lo hi)) (cg (ay y0 vy vd lo hi) (bt y1 vy vd lo hi))).length) (bb (cr (cm x0 y0 x1 y1 vx vy vd lo hi) (spl (ay x0 vx vd lo hi)) (cg (ay x0 vx vd lo hi) (bt x1 vx vd lo hi)) (spl (ay y0 vy vd lo hi)) (cg (ay y0 vy vd lo hi) (bt y1 vy vd lo hi))).length)) (l2 := [.cells (aX (cr (cm x0 y0 x1 y1 vx vy vd lo hi) (spl (ay x0 vx vd lo hi)) (cg (ay x0 vx vd lo hi) (bt x1 vx vd lo hi)) (spl (ay y0 vy vd lo hi)) (cg (ay y0 vy vd lo hi) (bt y1 vy vd lo hi))).length) 2 (prs (cr (cm x0 y0 x1 y1 vx vy vd lo hi) (spl (ay x0 vx vd lo hi)) (cg (ay x0 vx vd lo hi) (bt x1 vx vd lo hi)) (spl (ay y0 vy vd lo hi)) (cg (ay y0 vy vd lo hi) (bt y1 vy vd lo hi))))]) (.sl (some (H.length, 0)) ((cr (cm x0 y0 x1 y1 vx vy vd lo hi) (spl (ay x0 vx vd lo hi)) (cg (ay x0 vx vd lo hi) (bt x1 vx vd lo hi)) (spl (ay y0 vy vd lo hi)) (cg (ay y0 vy vd lo hi) (bt y1 vy vd lo hi))).length) (bb (cr (cm x0 y0 x1 y1 vx vy vd lo hi) (spl (ay x0 vx vd lo hi)) (cg (ay x0 vx vd lo hi) (bt x1 vx vd lo hi)) (spl (ay y0 vy vd lo hi)) (cg (ay y0 vy vd lo hi) (bt y1 vy vd lo hi))).length)) (ai Tryz.results173) [] rfl [2] (by decide) ⟨rfl, rfl⟩ ?_)
   exact aW
theorem kw (H : ac) (px : Int) (py : Int) (vx : Int) (vy : Int) (vd : Int) (lo : Int) (hi : Int) : ACalls Tryz.prog 160 [.agg [.int .i64 px, .int .i64 py], .agg [.int .i64 vx, .int .i64 vy, .int .i64 vd], .int .i64 lo, .int .i64 hi] H (fun v H' => v = .tup [.sl (some (H.length, 0)) ((trL px py vx vy vd lo hi).length) (bb (trL px py vx vy vd lo hi).length), .int .i64 (trE px py vx vy vd lo hi)] ∧ H' = H ++ [.cells (aX (trL px py vx vy vd lo hi).length) 2 (prs (trL px py vx vy vd lo hi))]) := by
 refine AcT true Tryz.func160 ?_; intro hbel Q hQ
 refine aQ ?_
 refine af (by kernel_rfl) (pvpt_c _ px py) ?_
 refine aQ ?_
 refine al (fun h1 => ?_) (fun h1 => ?_)
 ·have h1d := bsT h1
  have hp1 := h1d
  have hp2 := l6.1 hp1
  have g'18 := (jn @h1 @h1d)
  refine aa g'18 ?_
  refine af (by kernel_rfl) (pvv_c _ vx vy vd) ?_
  refine aa g'18 ?_
  refine ak (fun h2 => ?_) (fun h2 => ?_)
  ·have h2d := bsT h2
   have hz := trE_1 (px := px) (py := py) (vx := vx) (vy := vy) (vd := vd) (lo := lo) (hi := hi) (fun hh => by rw [h2d] at hh; exact absurd hh.2 (by decide))
   have hfinE := hz.1
   have hfinL := hz.2
   have g'19 := (jn @h2 (jn @h2d g'18))
   refine aa g'19 ?_
   refine hQ _ _ (aY (.inl rfl) hbel (x1 := .tup [.sl none 0 (some 0), .int .i64 1]) (l2 := [.cells false 2 []]) (.tup [.sl (some (H.length, 0)) 0 (some 0), .int .i64 1]) (ai Tryz.results160) [.cells false 2 []] rfl [2] (by decide) ⟨by first | (rw [hfinL, hfinE]; done) | (rw [hfinL, hfinE]; rfl) | (rw [hfinL]; done) | (rw [hfinL]; rfl), by first | (rw [hfinL, hfinE]; done) | (rw [hfinL, hfinE]; rfl) | (rw [hfinL]; done) | (rw [hfinL]; rfl)⟩ ?_)
   exact aW
  ·have h2d := bsT h2
   have hv := h2d
   have g'20 := (jn @h2 (jn @h2d g'18))
   refine aa g'20 ?_
   refine al (fun h3 => ?_) (fun h3 => ?_)
   ·have h3d := bsT h3
    have g'21 := (jn @h3 (jn @h3d g'20))
    refine aa g'21 ?_
    refine al (fun h4 => ?_) (fun h4 => ?_)
    ·have h4d := bsT h4
     have g'22 := (jn @h4 (jn @h4d g'21))
     refine aa g'22 ?_
     refine ak (fun h5 => ?_) (fun h5 => ?_)
     ·have h5d := bsT h5
      have hz := trE_2 (lo := lo) (hi := hi) hp1 hv (by omega)
      have hfinE := hz.1
      have hfinL := hz.2
      have g'23 := (jn @h5 (jn @h5d g'22))
      refine aa g'23 ?_
      refine hQ _ _ (aY (.inl rfl) hbel (x1 := .tup [.sl none 0 (some 0), .int .i64 2]) (l2 := [.cells false 2 []]) (.tup [.sl (some (H.length, 0)) 0 (some 0), .int .i64 2]) (ai Tryz.results160) [.cells false 2 []] rfl [2] (by decide) ⟨by first | (rw [hfinL, hfinE]; done) | (rw [hfinL, hfinE]; rfl) | (rw [hfinL]; done) | (rw [hfinL]; rfl), by first | (rw [hfinL, hfinE]; done) | (rw [hfinL, hfinE]; rfl) | (rw [hfinL]; done) | (rw [hfinL]; rfl)⟩ ?_)
      exact aW
     ·have h5d := bsT h5
      have hlh : 0 ≤ lo ∧ lo ≤ hi ∧ hi ≤ 2048 := by omega
      have hz := trE_0 hp1 hv hlh
      have hfinE := hz.1
      have hfinL := hz.2
      have g'24 := (jn @h5 (jn @h5d g'22))
      refine aa g'24 ?_
      refine af (by kernel_rfl) (te _ px py px py vx vy vd lo hi (by omega) (by omega) (by assumption) (by omega)) ?_
      refine aa g'24 ?_
      refine hQ _ _ (aY (.inl rfl) hbel (x1 := .tup [.sl (some (H.length + 2, 0)) ((dl px py px py vx vy vd lo hi).length) (bb (dl px py px py vx vy vd lo hi).length), .int .i64 0]) (l2 := [.cells (aX (dl px py px py vx vy vd lo hi).length) 2 (prs (dl px py px py vx vy vd lo hi))]) (.tup [.sl (some (H.length, 0)) ((dl px py px py vx vy vd lo hi).length) (bb (dl px py px py vx vy vd lo hi).length), .int .i64 0]) (ai Tryz.results160) [] rfl [2] (by decide) ⟨by first | (rw [hfinL, hfinE]; done) | (rw [hfinL, hfinE]; rfl) | (rw [hfinL]; done) | (rw [hfinL]; rfl), by first | (rw [hfinL, hfinE]; done) | (rw [hfinL, hfinE]; rfl) | (rw [hfinL]; done) | (rw [hfinL]; rfl)⟩ ?_)
      exact aW
    ·have h4d := bsT h4
     have hz := trE_2 (lo := lo) (hi := hi) hp1 hv (by omega)
     have hfinE := hz.1
     have hfinL := hz.2
     have g'25 := (jn @h4 (jn @h4d g'21))
     refine aa g'25 ?_
     refine hQ _ _ (aY (.inl rfl) hbel (x1 := .tup [.sl none 0 (some 0), .int .i64 2]) (l2 := [.cells false 2 []]) (.tup [.sl (some (H.length, 0)) 0 (some 0), .int .i64 2]) (ai Tryz.results160) [.cells false 2 []] rfl [2] (by decide) ⟨by first | (rw [hfinL, hfinE]; done) | (rw [hfinL, hfinE]; rfl) | (rw [hfinL]; done) | (rw [hfinL]; rfl), by first | (rw [hfinL, hfinE]; done) | (rw [hfinL, hfinE]; rfl) | (rw [hfinL]; done) | (rw [hfinL]; rfl)⟩ ?_)
     exact aW
   ·have h3d := bsT h3
    have hz := trE_2 (lo := lo) (hi := hi) hp1 hv (by omega)
    have hfinE := hz.1
    have hfinL := hz.2
    have g'26 := (jn @h3 (jn @h3d g'20))
    refine aa g'26 ?_
    refine hQ _ _ (aY (.inl rfl) hbel (x1 := .tup [.sl none 0 (some 0), .int .i64 2]) (l2 := [.cells false 2 []]) (.tup [.sl (some (H.length, 0)) 0 (some 0), .int .i64 2]) (ai Tryz.results160) [.cells false 2 []] rfl [2] (by decide) ⟨by first | (rw [hfinL, hfinE]; done) | (rw [hfinL, hfinE]; rfl) | (rw [hfinL]; done) | (rw [hfinL]; rfl), by first | (rw [hfinL, hfinE]; done) | (rw [hfinL, hfinE]; rfl) | (rw [hfinL]; done) | (rw [hfinL]; rfl)⟩ ?_)
    exact aW
 ·have h1d := bsT h1
  have hz := trE_1 (px := px) (py := py) (vx := vx) (vy := vy) (vd := vd) (lo := lo) (hi := hi) (fun hh => by rw [h1d] at hh; exact absurd hh.1 (by decide))
  have hfinE := hz.1
  have hfinL := hz.2
  have g'27 := (jn @h1 @h1d)
  refine aa g'27 ?_
  refine hQ _ _ (aY (.inl rfl) hbel (x1 := .tup [.sl none 0 (some 0), .int .i64 1]) (l2 := [.cells false 2 []]) (.tup [.sl (some (H.length, 0)) 0 (some 0), .int .i64 1]) (ai Tryz.results160) [.cells false 2 []] rfl [2] (by decide) ⟨by first | (rw [hfinL, hfinE]; done) | (rw [hfinL, hfinE]; rfl) | (rw [hfinL]; done) | (rw [hfinL]; rfl), by first | (rw [hfinL, hfinE]; done) | (rw [hfinL, hfinE]; rfl) | (rw [hfinL]; done) | (rw [hfinL]; rfl)⟩ ?_)
  exact aW
theorem swept_c (H : ac) (x0 : Int) (y0 : Int) (x1 : Int) (y1 : Int) (vx : Int) (vy : Int) (vd : Int) (lo : Int) (hi : Int) : ACalls Tryz.prog 130 [.agg [.int .i64 x0, .int .i64 y0, .int .i64 x1, .int .i64 y1], .agg [.int .i64 vx, .int .i64 vy, .int .i64 vd], .int .i64 lo, .int .i64 hi] H (fun v H' => v = .tup [.sl (some (H.length, 0)) ((cB x0 y0 x1 y1 vx vy vd lo hi).length) (bb (cB x0 y0 x1 y1 vx vy vd lo hi).length), .int .i64 (eL x0 y0 x1 y1 vx vy vd lo hi)] ∧ H' = H ++ [.cells (aX (cB x0 y0 x1 y1 vx vy vd lo hi).length) 2 (prs (cB x0 y0 x1 y1 vx vy vd lo hi))]) := by
 refine AcT true Tryz.func130 ?_; intro hbel Q hQ
 refine aQ ?_
 refine af (by kernel_rfl) (pvrc_c _ x0 y0 x1 y1) ?_
 refine aQ ?_
 refine al (fun h1 => ?_) (fun h1 => ?_)
 ·have h1d := bsT h1
  have hp1 := h1d
  have hp2 := sX.1 hp1
  have g'28 := (jn @h1 @h1d)
  refine aa g'28 ?_
  refine af (by kernel_rfl) (pvv_c _ vx vy vd) ?_
  refine aa g'28 ?_
  refine ak (fun h2 => ?_) (fun h2 => ?_)
  ·have h2d := bsT h2
   have hz := sptE_1 (x0 := x0) (y0 := y0) (x1 := x1) (y1 := y1) (vx := vx) (vy := vy) (vd := vd) (lo := lo) (hi := hi) (fun hh => by rw [h2d] at hh; exact absurd hh.2 (by decide))
   have hfinE := hz.1
   have hfinL := hz.2
   have g'29 := (jn @h2 (jn @h2d g'28))
   refine aa g'29 ?_
   refine hQ _ _ (aY (.inl rfl) hbel (x1 := .tup [.sl none 0 (some 0), .int .i64 1]) (l2 := [.cells false 2 []]) (.tup [.sl (some (H.length, 0)) 0 (some 0), .int .i64 1]) (ai Tryz.results130) [.cells false 2 []] rfl [2] (by decide) ⟨by first | (rw [hfinL, hfinE]; done) | (rw [hfinL, hfinE]; rfl) | (rw [hfinL]; done) | (rw [hfinL]; rfl), by first | (rw [hfinL, hfinE]; done) | (rw [hfinL, hfinE]; rfl) | (rw [hfinL]; done) | (rw [hfinL]; rfl)⟩ ?_)
   exact aW
  ·have h2d := bsT h2
   have hv := h2d
   have g'30 := (jn @h2 (jn @h2d g'28))
   refine aa g'30 ?_
   refine al (fun h3 => ?_) (fun h3 => ?_)
   ·have h3d := bsT h3
    have g'31 := (jn @h3 (jn @h3d g'30))
    refine aa g'31 ?_
    refine al (fun h4 => ?_) (fun h4 => ?_)
    ·have h4d := bsT h4
     have g'32 := (jn @h4 (jn @h4d g'31))
     refine aa g'32 ?_
     refine ak (fun h5 => ?_) (fun h5 => ?_)
     ·have h5d := bsT h5
      have hz := sptE_2 (lo := lo) (hi := hi) hp1 hv (by omega)
      have hfinE := hz.1
      have hfinL := hz.2
      have g'33 := (jn @h5 (jn @h5d g'32))
      refine aa g'33 ?_
      refine hQ _ _ (aY (.inl rfl) hbel (x1 := .tup [.sl none 0 (some 0), .int .i64 2]) (l2 := [.cells false 2 []]) (.tup [.sl (some (H.length, 0)) 0 (some 0), .int .i64 2]) (ai Tryz.results130) [.cells false 2 []] rfl [2] (by decide) ⟨by first | (rw [hfinL, hfinE]; done) | (rw [hfinL, hfinE]; rfl) | (rw [hfinL]; done) | (rw [hfinL]; rfl), by first | (rw [hfinL, hfinE]; done) | (rw [hfinL, hfinE]; rfl) | (rw [hfinL]; done) | (rw [hfinL]; rfl)⟩ ?_)
      exact aW
     ·have h5d := bsT h5
      have hlh : 0 ≤ lo ∧ lo ≤ hi ∧ hi ≤ 2048 := by omega
      have g'34 := (jn @h5 (jn @h5d g'32))
      refine aa g'34 ?_
      refine al (fun h6 => ?_) (fun h6 => ?_)
      ·have h6d := bsT h6
       have g'35 := (jn @h6 (jn @h6d g'34))
       refine aa g'35 ?_
       refine ak (fun h7 => ?_) (fun h7 => ?_)
       ·have h7d := bsT h7
        have hz := sptE_6 hp1 hv hlh (.inr h7d)
        have hfinE := hz.1
        have hfinL := hz.2
        have g'36 := (jn @h7 (jn @h7d g'35))
        refine aa g'36 ?_
        refine hQ _ _ (aY (.inl rfl) hbel (x1 := .tup [.sl none 0 (some 0), .int .i64 6]) (l2 := [.cells false 2 []]) (.tup [.sl (some (H.length, 0)) 0 (some 0), .int .i64 6]) (ai Tryz.results130) [.cells false 2 []] rfl [2] (by decide) ⟨by first | (rw [hfinL, hfinE]; done) | (rw [hfinL, hfinE]; rfl) | (rw [hfinL]; done) | (rw [hfinL]; rfl), by first | (rw [hfinL, hfinE]; done) | (rw [hfinL, hfinE]; rfl) | (rw [hfinL]; done) | (rw [hfinL]; rfl)⟩ ?_)
        exact aW
       ·have h7d := bsT h7
        have hz := sptE_0 hp1 hv hlh (by omega)
        have hfinE := hz.1
        have hfinL := hz.2
        have g'37 := (jn @h7 (jn @h7d g'35))
        refine aa g'37 ?_
        refine af (by kernel_rfl) (te _ x0 y0 x1 y1 vx vy vd lo hi (by omega) (by omega) (by assumption) (by omega)) ?_
        refine aa g'37 ?_
        refine hQ _ _ (aY (.inl rfl) hbel (x1 := .tup [.sl (some (H.length + 2, 0)) ((dl x0 y0 x1 y1 vx vy vd lo hi).length) (bb (dl x0 y0 x1 y1 vx vy vd lo hi).length), .int .i64 0]) (l2 := [.cells (aX (dl x0 y0 x1 y1 vx vy vd lo hi).length) 2 (prs (dl x0 y0 x1 y1 vx vy vd lo hi))]) (.tup [.sl (some (H.length, 0)) ((dl x0 y0 x1 y1 vx vy vd lo hi).length) (bb (dl x0 y0 x1 y1 vx vy vd lo hi).length), .int .i64 0]) (ai Tryz.results130) [] rfl [2] (by decide) ⟨by first | (rw [hfinL, hfinE]; done) | (rw [hfinL, hfinE]; rfl) | (rw [hfinL]; done) | (rw [hfinL]; rfl), by first | (rw [hfinL, hfinE]; done) | (rw [hfinL, hfinE]; rfl) | (rw [hfinL]; done) | (rw [hfinL]; rfl)⟩ ?_)
        exact aW
      ·have h6d := bsT h6
       have hz := sptE_6 hp1 hv hlh (.inl h6d)
       have hfinE := hz.1
       have hfinL := hz.2
       have g'38 := (jn @h6 (jn @h6d g'34))
       refine aa g'38 ?_
       refine hQ _ _ (aY (.inl rfl) hbel (x1 := .tup [.sl none 0 (some 0), .int .i64 6]) (l2 := [.cells false 2 []]) (.tup [.sl (some (H.length, 0)) 0 (some 0), .int .i64 6]) (ai Tryz.results130) [.cells false 2 []] rfl [2] (by decide) ⟨by first | (rw [hfinL, hfinE]; done) | (rw [hfinL, hfinE]; rfl) | (rw [hfinL]; done) | (rw [hfinL]; rfl), by first | (rw [hfinL, hfinE]; done) | (rw [hfinL, hfinE]; rfl) | (rw [hfinL]; done) | (rw [hfinL]; rfl)⟩ ?_)
       exact aW
    ·have h4d := bsT h4
     have hz := sptE_2 (lo := lo) (hi := hi) hp1 hv (by omega)
     have hfinE := hz.1
     have hfinL := hz.2
     have g'39 := (jn @h4 (jn @h4d g'31))
     refine aa g'39 ?_
     refine hQ _ _ (aY (.inl rfl) hbel (x1 := .tup [.sl none 0 (some 0), .int .i64 2]) (l2 := [.cells false 2 []]) (.tup [.sl (some (H.length, 0)) 0 (some 0), .int .i64 2]) (ai Tryz.results130) [.cells false 2 []] rfl [2] (by decide) ⟨by first | (rw [hfinL, hfinE]; done) | (rw [hfinL, hfinE]; rfl) | (rw [hfinL]; done) | (rw [hfinL]; rfl), by first | (rw [hfinL, hfinE]; done) | (rw [hfinL, hfinE]; rfl) | (rw [hfinL]; done) | (rw [hfinL]; rfl)⟩ ?_)
     exact aW
   ·have h3d := bsT h3
    have hz := sptE_2 (lo := lo) (hi := hi) hp1 hv (by omega)
    have hfinE := hz.1
    have hfinL := hz.2
    have g'40 := (jn @h3 (jn @h3d g'30))
    refine aa g'40 ?_
    refine hQ _ _ (aY (.inl rfl) hbel (x1 := .tup [.sl none 0 (some 0), .int .i64 2]) (l2 := [.cells false 2 []]) (.tup [.sl (some (H.length, 0)) 0 (some 0), .int .i64 2]) (ai Tryz.results130) [.cells false 2 []] rfl [2] (by decide) ⟨by first | (rw [hfinL, hfinE]; done) | (rw [hfinL, hfinE]; rfl) | (rw [hfinL]; done) | (rw [hfinL]; rfl), by first | (rw [hfinL, hfinE]; done) | (rw [hfinL, hfinE]; rfl) | (rw [hfinL]; done) | (rw [hfinL]; rfl)⟩ ?_)
    exact aW
 ·have h1d := bsT h1
  have hz := sptE_1 (x0 := x0) (y0 := y0) (x1 := x1) (y1 := y1) (vx := vx) (vy := vy) (vd := vd) (lo := lo) (hi := hi) (fun hh => by rw [h1d] at hh; exact absurd hh.1 (by decide))
  have hfinE := hz.1
  have hfinL := hz.2
  have g'41 := (jn @h1 @h1d)
  refine aa g'41 ?_
  refine hQ _ _ (aY (.inl rfl) hbel (x1 := .tup [.sl none 0 (some 0), .int .i64 1]) (l2 := [.cells false 2 []]) (.tup [.sl (some (H.length, 0)) 0 (some 0), .int .i64 1]) (ai Tryz.results130) [.cells false 2 []] rfl [2] (by decide) ⟨by first | (rw [hfinL, hfinE]; done) | (rw [hfinL, hfinE]; rfl) | (rw [hfinL]; done) | (rw [hfinL]; rfl), by first | (rw [hfinL, hfinE]; done) | (rw [hfinL, hfinE]; rfl) | (rw [hfinL]; done) | (rw [hfinL]; rfl)⟩ ?_)
  exact aW
open Go.RowKit
def dirE (b : T6) (m h : Int) : T9 := (b.1, b.2.1, b.2.2.1, b.2.2.2.1, b.2.2.2.2.1, b.2.2.2.2.2, (bH h m).1, (bH h m).2.1, (bH h m).2.2)
def mkB (b : T6) : List Int := aJ b.2.2.2.2.1 b.2.2.2.2.2.toNat
def dirB (b : T6) (m : Int) : Nat → List T9
 | 0 => []
 | j + 1 => dirB b m j ++ [dirE b m (gi (mkB b) j)]
def dirS (l : List T6) (m : Int) : Nat → List T9
 | 0 => []
 | i + 1 => dirS l m i ++ dirB (g6 l i) m (mkB (g6 l i)).length
def ar (l : List T6) (m : Int) : List T9 := dirS l m l.length
theorem iu (b : T6) (m : Int) : ∀ j : Nat, (dirB b m j).length = j
 | 0 => rfl
 | j + 1 => by simp only [dirB, List.length_append, iu b m j]; rfl
theorem l7 {l : List T6} (h : bX l = true) {i : Nat} (hi : i < l.length) : 1 ≤ (mkB (g6 l i)).length ∧ (mkB (g6 l i)).length ≤ 256 ∧ (((mkB (g6 l i)).length : Nat) : Int) = g66 l i := by
 have := g66_bd h hi
 unfold mkB
 rw [c7]
 have e : (g6 l i).2.2.2.2.2 = g66 l i := rfl
 rw [e]; omega
theorem kx {l : List T6} (h : bX l = true) (m : Int) : ∀ i : Nat, i ≤ l.length → i ≤ (dirS l m i).length ∧ (dirS l m i).length ≤ 256 * i
 | 0, _ => by simp [dirS]
 | i + 1, hi => by
  have ih := kx h m i (by omega)
  have k := l7 h (show i < l.length by omega)
  simp only [dirS, List.length_append, iu]; omega
theorem ky {l : List T6} (h : bX l = true) (m : Int) : l.length ≤ (ar l m).length ∧ (ar l m).length ≤ 4096 := by
 have a := kx h m l.length (Nat.le_refl _)
 have b := gD h
 unfold ar; omega
theorem tf {b : T6} {m : Int} {e : T9} : ∀ {j : Nat}, j ≤ (mkB b).length → (e ∈ dirB b m j ↔ ∃ q : Nat, q < j ∧ e = dirE b m (gi (mkB b) q))
 | 0, _ => by simp [dirB]
 | j + 1, hj => by
  rw [dirB, List.mem_append, tf (by omega), List.mem_singleton]
  constructor
  ·rintro (⟨q, hq, rfl⟩ | rfl)
   ·exact ⟨q, by omega, rfl⟩
   ·exact ⟨j, by omega, rfl⟩
  ·rintro ⟨q, hq, rfl⟩
   rcases Nat.lt_or_ge q j with h | h
   ·exact .inl ⟨q, h, rfl⟩
   ·obtain rfl : q = j := by omega
    exact .inr rfl
theorem tg {l : List T6} {m : Int} {e : T9} : ∀ {i : Nat}, i ≤ l.length → (e ∈ dirS l m i ↔ ∃ j q : Nat, j < i ∧ q < (mkB (g6 l j)).length ∧ e = dirE (g6 l j) m (gi (mkB (g6 l j)) q))
 | 0, _ => by simp [dirS]
 | i + 1, hi => by
  rw [dirS, List.mem_append, tg (by omega), tf (Nat.le_refl _)]
  constructor
  ·rintro (⟨j, q, h1, h2, h3⟩ | ⟨q, h2, h3⟩)
   ·exact ⟨j, q, by omega, h2, h3⟩
   ·exact ⟨i, q, by omega, h2, h3⟩
  ·rintro ⟨j, q, h1, h2, h3⟩
   rcases Nat.lt_or_ge j i with h | h
   ·exact .inl ⟨j, q, h, h2, h3⟩
   ·obtain rfl : j = i := by omega
    exact .inr ⟨q, h2, h3⟩
def pairB (e : T9) : Bool := bxB e.1 e.2.1 e.2.2.1 e.2.2.2.1 e.2.2.2.2.1 e.2.2.2.2.2.1 && dc e.2.2.2.2.2.2.1 e.2.2.2.2.2.2.2.1 e.2.2.2.2.2.2.2.2
theorem dirA_ok {l : List T6} (h : bX l = true) {m : Int} {e : T9} (he : e ∈ ar l m) : pairB e = true := by
 obtain ⟨j, q, hj, hq, rfl⟩ := (tg (Nat.le_refl _)).1 he
 unfold pairB dirE
 rw [Bool.and_eq_true]
 exact ⟨(bY.1 h).2 (g6 l j) (cU hj), beam_ok _ _⟩
def psB (e : T9) (s0 t0 s1 t1 far : Int) : Bool := dF e.1 e.2.1 e.2.2.2.2.2.2.1 e.2.2.2.2.2.2.2.1 e.2.2.2.2.2.2.2.2 far s0 t0 s1 t1 && (dF e.2.2.1 e.2.1 e.2.2.2.2.2.2.1 e.2.2.2.2.2.2.2.1 e.2.2.2.2.2.2.2.2 far s0 t0 s1 t1 && (dF e.1 e.2.2.2.1 e.2.2.2.2.2.2.1 e.2.2.2.2.2.2.2.1 e.2.2.2.2.2.2.2.2 far s0 t0 s1 t1 && dF e.2.2.1 e.2.2.2.1 e.2.2.2.2.2.2.1 e.2.2.2.2.2.2.2.1 e.2.2.2.2.2.2.2.2 far s0 t0 s1 t1))
def psC (e : T9) (far : Int) (c : Int × Int) : Bool := psB e (c.1 * 64) (c.2 * 64) (c.1 * 64 + 64) (c.2 * 64 + 64) far
def prvB (l : List T6) (m far : Int) (c : Int × Int) : Bool := (ar l m).all fun e => psC e far c
def ax (r g : Int) : Int := if r = -1 then 1024 - g else r - g
def aH (l : List T6) (m far : Int) : List (Int × Int) := trL (g91 (ar l m) 0) (g92 (ar l m) 0) (g97 (ar l m) 0) (g98 (ar l m) 0) (g99 (ar l m) 0) 0 far
def bK (W Hh : Int) (l : List T6) (m far : Int) (c : Int × Int) : Bool := btw c.1 0 (W - 1) && (btw c.2 0 (Hh - 1) && prvB l m far c)
def ej (W Hh : Int) (l : List T6) (m r g : Int) : List (Int × Int) := if ax r g ≤ 0 then [] else (aH l m (ax r g)).filter (bK W Hh l m (ax r g))
theorem th {α : Type} {p : α → Bool} {l : List α} {j : Nat} (h : j < l.length) : (l.take (j + 1)).filter p = (l.take j).filter p ++ (if p l[j] = true then [l[j]] else []) := by
 rw [List.take_succ_eq_append_getElem h, List.filter_append]
 congr 1
 cases hp : p l[j] <;> simp [hp]
theorem flt_len {α : Type} {p : α → Bool} {l : List α} {j : Nat} : ((l.take j).filter p).length ≤ j := by
 have := List.length_filter_le p (l.take j)
 rw [List.length_take] at this; omega
theorem ti (W Hh : Int) (l : List T6) (m r g : Int) : (ej W Hh l m r g).length ≤ 7225 := by
 unfold ej; split
 ·simp
 ·exact Nat.le_trans (List.length_filter_le _ _) (jE _ _ _ _ _ _ _)
theorem trL_mem {px py vx vy vd lo hi : Int} {c : Int × Int} (h : c ∈ trL px py vx vy vd lo hi) : (-32768 ≤ c.1 ∧ c.1 ≤ 32768) ∧ -32768 ≤ c.2 ∧ c.2 ≤ 32768 := by
 unfold trL mkL at h
 split at h
 ·rename_i he
  obtain ⟨h1, h2, hr⟩ := trE_z he
  have hq := l6.1 h1
  exact swp_bd ((swpL_mem (by omega) (by omega) h2 hr).1 h)
 ·cases h
def sqO (x y : Int) : Bool := cF x 16384 && cF y 16384
end Go.Proofs.YtidlfjajjieepaaGreat
