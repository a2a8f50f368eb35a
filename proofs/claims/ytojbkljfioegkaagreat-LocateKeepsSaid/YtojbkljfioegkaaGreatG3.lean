/- Parts of the proof: walks and plain facts. Conditions: as each theorem states. -/
import Derived.Test.YtojbkljfioegkaaGreatG2
namespace Go.Proofs.YtojbkljfioegkaaGreat
set_option linter.unusedSimpArgs false
set_option linter.unusedVariables false
open Go.RowKit
def ext : Caller := fun f args _ =>
 match args with
 | [.int .u64 x] => bif Nat.beq f 173 && (decide (0 ≤ x) && decide (x ≤ 18446744073709551615)) then some (.int .i64 (Lib.bitLen x.toNat), none) else none
 | _ => none
theorem ext_ok : CallOk Tryz.prog ext := fun f args H x o h => by
 unfold ext at h
 split at h
 ·rename_i x'
  cases hb : Nat.beq f 173 && (decide (0 ≤ x') && decide (x' ≤ 18446744073709551615))
  ·rw [hb] at h; cases h
  ·rw [hb, cond_true] at h
   simp only [Option.some.injEq, Prod.mk.injEq] at h
   obtain ⟨rfl, rfl⟩ := h
   simp only [Bool.and_eq_true, decide_eq_true_eq] at hb
   obtain ⟨h1, h2, h3⟩ := hb
   have e := Nat.eq_of_beq_eq_true h1
   subst e
   refine ⟨by kernel_rfl, Nat.le_refl _, fun E w vs hE hv => ?_⟩
   obtain ⟨v1, l1, rfl, k1, hr⟩ := iN hv
   obtain rfl := qd hr
   obtain rfl := lP k1
   refine (Tryz.bits_Len x' w h2 h3).mono fun e w' ⟨he, hw⟩ => ?_
   subst hw
   exact ⟨E, _, H, _, he, ⟨rfl, rfl⟩, .refl E, .int _ _, hE⟩
 ·cases h
open Go.RowKit
section
variable (H : ac)
def cF (x m : Int) : Bool := decide (0 - m ≤ x) && decide (x ≤ m)
def absI (n : Int) : Int := if n < 0 then -n else n
end
set_option linter.unusedSimpArgs false
set_option linter.unusedVariables false
open Go.RowKit
theorem IsP.parts {H : ac} {s : AV} {l : List Pt} (h : IsP H s l) : ∃ a c, s = .sl a l.length c := by
 rcases h with ⟨rfl, rfl⟩ | ⟨b, own, cap, rfl, hb⟩
 ·exact ⟨_, _, rfl⟩
 ·exact ⟨_, _, rfl⟩
theorem IsP.pos {H : ac} {s : AV} {l : List Pt} (h : IsP H s l) (h0 : 0 < l.length) : ∃ b own cap, s = .sl (some (b, 0)) l.length cap ∧ H[b]? = some (.cells own 2 (prs l)) := by
 rcases h with ⟨rfl, rfl⟩ | ⟨b, own, cap, rfl, hb⟩
 ·simp at h0
 ·exact ⟨b, own, cap, rfl, hb⟩
section
variable (H : ac)
end
set_option linter.unusedSimpArgs false
set_option linter.unusedVariables false
open Go.RowKit
section
variable (H : ac)
end
set_option linter.unusedSimpArgs false
set_option linter.unusedVariables false
open Go.RowKit
open Go.RowKit
open Go.RowKit
open Go.RowKit
open Go.RowKit
theorem bC {x m : Int} : cF x m = true ↔ -m ≤ x ∧ x ≤ m := by unfold cF; simp
open Go.RowKit
def dotP (n g : Pt) : Int := n.1 * g.1 + n.2 * g.2
def spr (n : Pt) : List Pt → Int
 | [] => 0
 | g :: l => absI (dotP n g) + spr n l
open Go.RowKit
open Go.RowKit
open Go.RowKit
open Go.RowKit
open Go.RowKit
theorem absI_neg (x : Int) : absI (-x) = absI x := by unfold absI; split <;> split <;> omega
theorem absI_le {x M : Int} : absI x ≤ M ↔ -M ≤ x ∧ x ≤ M := by unfold absI; split <;> omega
theorem pE (n g : Pt) : dotP (-n.1, -n.2) g = -dotP n g := by unfold dotP; simp only [Int.neg_mul]; omega
theorem tz (n g : Pt) (l : List Pt) : spr n (g :: l) = absI (dotP n g) + spr n l := rfl
theorem tA (n : Pt) : ∀ l : List Pt, spr (-n.1, -n.2) l = spr n l
 | [] => rfl
 | g :: l => by rw [tz, tz, tA n l, pE, absI_neg]
def inZ (L : List Pt) (d : Pt) : Prop := ∀ n : Pt, dotP n d ≤ spr n L
theorem inZ.abs {L : List Pt} {d : Pt} (h : inZ L d) (n : Pt) : absI (dotP n d) ≤ spr n L := by
 rw [absI_le]
 have h1 := h n
 have h2 := h (-n.1, -n.2)
 rw [pE, tA] at h2
 omega
open Go.RowKit
open Go.RowKit
open Go.RowKit
open Go.RowKit
open Go.RowKit
open Go.RowKit
open Go.RowKit
open Go.RowKit
def mkL (e : Int) (L : List Pt) : List Pt := if e = 0 then L else []
open Go.RowKit
open Go.RowKit Go.Sort
open Go.RowKit
theorem jp {l : List Pt} : (prs l).take (l.length * 2) = prs l := by rw [qc, List.take_length]
open Go.RowKit
open Go.RowKit
open Go.RowKit
open Go.RowKit
theorem and255 (a : Int) : (BitVec.ofInt 64 a &&& BitVec.ofInt 64 255).toNat = (a % 256).toNat := by
 rw [BitVec.toNat_and, BitVec.toNat_ofInt, BitVec.toNat_ofInt]
 have e : ((255 : Int) % ((2 ^ 64 : Nat) : Int)).toNat = 2 ^ 8 - 1 := by decide
 rw [e, Nat.and_two_pow_sub_one_eq_mod]
 have : (((a % ((2 ^ 64 : Nat) : Int)).toNat : Nat) : Int) = a % 18446744073709551616 := by
  rw [Int.toNat_of_nonneg (Int.emod_nonneg _ (by decide))]; rfl
 omega
def dR (x y d : Int) : Nat := Nat.gcd (Nat.gcd d.natAbs x.natAbs) y.natAbs
abbrev Vec := Int × Int × Int
def eu (x y d : Int) : Vec := (x.tdiv (dR x y d), y.tdiv (dR x y d), d.tdiv (dR x y d))
theorem tC {x y d : Int} (h : d ≠ 0) : 0 < dR x y d := by
 unfold dR
 exact Nat.gcd_pos_of_pos_left _ (Nat.gcd_pos_of_pos_left _ (Int.natAbs_pos.2 h))
theorem gcd3_dvd (x y d : Int) : ((dR x y d : Nat) : Int) ∣ x ∧ ((dR x y d : Nat) : Int) ∣ y ∧ ((dR x y d : Nat) : Int) ∣ d := by
 unfold dR
 have h1 := Nat.gcd_dvd_left (Nat.gcd d.natAbs x.natAbs) y.natAbs
 have h2 := Nat.gcd_dvd_right (Nat.gcd d.natAbs x.natAbs) y.natAbs
 exact ⟨Int.ofNat_dvd_left.2 (Nat.dvd_trans h1 (Nat.gcd_dvd_right _ _)), Int.ofNat_dvd_left.2 h2, Int.ofNat_dvd_left.2 (Nat.dvd_trans h1 (Nat.gcd_dvd_left _ _))⟩
theorem lowV_mul {x y d : Int} (h : d ≠ 0) : ∃ g : Int, 0 < g ∧ x = (eu x y d).1 * g ∧ y = (eu x y d).2.1 * g ∧ d = (eu x y d).2.2 * g := by
 obtain ⟨a, b, c⟩ := gcd3_dvd x y d
 have hp := tC (x := x) (y := y) h
 refine ⟨dR x y d, by omega, ?_, ?_, ?_⟩ <;> (unfold eu; simp only; rw [Int.tdiv_mul_cancel (by assumption)])
def dir0 (k : Nat) : Vec := eu (4096 - (k : Int) * k) (128 * k) (4096 + (k : Int) * k)
def rotN (v : Vec) : Nat → Vec
 | 0 => v
 | n + 1 => (-(rotN v n).2.1, (rotN v n).1, (rotN v n).2.2)
def dirN (h : Nat) : Vec := rotN (dir0 (h % 64)) (h / 64)
def cS (h : Int) : Vec := dirN (h % 256).toNat
def ey (v : Vec) : Bool := decide (1 ≤ v.2.2) && decide (v.2.2 ≤ 8065) && decide (-v.2.2 ≤ v.1) && decide (v.1 ≤ v.2.2) && decide (-v.2.2 ≤ v.2.1) && decide (v.2.1 ≤ v.2.2) && decide (v.1 * v.1 + v.2.1 * v.2.1 = v.2.2 * v.2.2)
theorem dirs_ok : (List.range 256).all (fun h => ey (dirN h)) = true := by decide +kernel
theorem gh (h : Int) : ey (cS h) = true := by
 have := List.all_eq_true.1 dirs_ok (h % 256).toNat (by simp; omega)
 exact this
theorem di {v : Vec} : ey v = true ↔ (1 ≤ v.2.2 ∧ v.2.2 ≤ 8065) ∧ (-v.2.2 ≤ v.1 ∧ v.1 ≤ v.2.2) ∧ (-v.2.2 ≤ v.2.1 ∧ v.2.1 ≤ v.2.2) ∧ v.1 * v.1 + v.2.1 * v.2.1 = v.2.2 * v.2.2 := by
 unfold ey
 simp only [Bool.and_eq_true, decide_eq_true_eq]
 constructor
 ·rintro ⟨⟨⟨⟨⟨⟨a, b⟩, c⟩, d⟩, e⟩, f⟩, g⟩; exact ⟨⟨a, b⟩, ⟨c, d⟩, ⟨e, f⟩, g⟩
 ·rintro ⟨⟨a, b⟩, ⟨c, d⟩, ⟨e, f⟩, g⟩; exact ⟨⟨⟨⟨⟨⟨a, b⟩, c⟩, d⟩, e⟩, f⟩, g⟩
theorem gw {a b : Int} (h : 0 < b) : (if a.tmod b < 0 then a.tdiv b - 1 else a.tdiv b) = a / b := by
 rw [Int.tdiv_eq_ediv, Int.tmod_eq_emod]
 have h1 := Int.emod_nonneg a (by omega : b ≠ 0)
 have h2 := Int.emod_lt_of_pos a h
 have hs : b.sign = 1 := Int.sign_eq_one_of_pos h
 have hn : (b.natAbs : Int) = b := by omega
 split
 ·rw [if_neg (by omega)]; omega
 ·rw [if_pos (by omega), hs]; omega
open Go.RowKit
def cT (h m : Int) : Int := m * (cS h).1 / (cS h).2.2
def cU (h m : Int) : Int := m * (cS h).2.1 / (cS h).2.2
theorem div_bd {m a d : Int} (hd : 1 ≤ d) (ha : -d ≤ a ∧ a ≤ d) (hm : 0 ≤ m) : -m ≤ m * a / d ∧ m * a / d ≤ m := by
 constructor
 ·rw [Int.le_ediv_iff_mul_le (by omega)]
  have := Int.mul_le_mul_of_nonneg_left ha.1 hm
  rw [Int.mul_neg] at this
  rw [Int.neg_mul]; exact this
 ·have := Int.mul_le_mul_of_nonneg_left ha.2 hm
  have h2 : m * a / d ≤ m * d / d := Int.ediv_le_ediv (by omega) this
  rwa [Int.mul_ediv_cancel _ (by omega)] at h2
theorem lu (h : Int) {m : Int} (hm : 0 ≤ m) : (-m ≤ cT h m ∧ cT h m ≤ m) ∧ (-m ≤ cU h m ∧ cU h m ≤ m) := by
 have hv := di.1 (gh h)
 exact ⟨div_bd hv.1.1 hv.2.1 hm, div_bd hv.1.1 hv.2.2.1 hm⟩
def btw (n lo hi : Int) : Bool := decide (lo ≤ n) && decide (n ≤ hi)
theorem bM {n lo hi : Int} : btw n lo hi = true ↔ lo ≤ n ∧ n ≤ hi := by unfold btw; simp
def cJ (t f : Int) : Bool := cF t 32 && btw f 0 32
def cK (tu le sl ra : Int) : Bool := btw tu 0 8 && (btw le 0 16 && (btw sl 0 8 && btw ra 1 32))
open Go.RowKit
set_option maxHeartbeats 4000000
set_option maxRecDepth 100000
theorem gV {a b : Int} (hb : 0 < b) (hw : -4611686018427387904 ≤ a ∧ a ≤ 4611686018427387904) : -4611686018427387904 ≤ Int.tdiv a b ∧ Int.tdiv a b ≤ 4611686018427387904 := by
 have h := gw (a := a) hb
 have h1 : a / b ≤ 4611686018427387904 := Int.ediv_le_of_le_mul hb (by have := Int.mul_le_mul_of_nonneg_left (show (1 : Int) ≤ b by omega) (by decide : (0 : Int) ≤ 4611686018427387904); omega)
 have h2 : -4611686018427387904 ≤ a / b := by
  rw [Int.le_ediv_iff_mul_le hb]
  have := Int.mul_le_mul_of_nonneg_left (show (1 : Int) ≤ b by omega) (by decide : (0 : Int) ≤ 4611686018427387904)
  rw [Int.neg_mul]; omega
 rw [Int.tdiv_eq_ediv]
 have hs : b.sign = 1 := Int.sign_eq_one_of_pos hb
 split
 ·omega
 ·rename_i hh
  rw [hs]
  rcases (by omega : a / b ≤ 4611686018427387903 ∨ a / b = 4611686018427387904) with k | k
  ·omega
  ·exfalso
   have h3 : 4611686018427387904 * b ≤ a := by rw [← Int.le_ediv_iff_mul_le hb]; omega
   have := Int.mul_le_mul_of_nonneg_left (show (1 : Int) ≤ b by omega) (by decide : (0 : Int) ≤ 4611686018427387904)
   omega
theorem uw (a : Int) : IntKind.i64.wrap ((BitVec.ofInt IntKind.i64.bits a &&& BitVec.ofInt IntKind.i64.bits 255).toNat : Int) = (((a % 256).toNat : Nat) : Int) := by
 have h := and255 a
 show IntKind.i64.wrap (((BitVec.ofInt 64 a &&& BitVec.ofInt 64 255).toNat : Nat) : Int) = _
 rw [h]
 exact lO (by omega) (by omega)
theorem rem_n64 (a : Nat) : Int.tmod (a : Int) 64 = ((a % 64 : Nat) : Int) := rfl
theorem quo_n64 (a : Nat) : Int.tdiv (a : Int) 64 = ((a / 64 : Nat) : Int) := rfl
theorem mod_nn {a b : Int} (hb : 0 < b) : (if Int.tmod a b < 0 then Int.tmod a b + b else Int.tmod a b) = a % b := by
 rw [Int.tmod_eq_emod]
 have h1 := Int.emod_nonneg a (by omega : b ≠ 0)
 have h2 := Int.emod_lt_of_pos a hb
 have hn : (b.natAbs : Int) = b := by omega
 split
 ·rw [if_neg (by omega)]; omega
 ·rw [if_pos (by omega)]; omega
theorem dS (H : ac) (n : Int) (lo : Int) (hi : Int) : ACalls Tryz.prog 73 [.int .i64 n, .int .i64 lo, .int .i64 hi] H (fun v H' => v = .bool (btw n lo hi) ∧ H' = H) := by
 refine AcT true Tryz.func73 ?_; intro hbel Q hQ
 refine bi ?_
 refine az (fun h1 => ?_) (fun h1 => ?_)
 ·have h1d := bsT h1
  have g'1 := (jn @h1 @h1d)
  refine aa g'1 ?_
  exact hQ _ _ (aE (.inl rfl) hbel (x := .bool (decide (n ≤ hi))) (av Tryz.results73) rfl ⟨by simp [btw, h1d], rfl⟩)
 ·have h1d := bsT h1
  have g'2 := (jn @h1 @h1d)
  refine aa g'2 ?_
  exact hQ _ _ (aE (.inl rfl) hbel (x := .bool false) (av Tryz.results73) rfl ⟨by simp [btw, h1d], rfl⟩)
theorem dwithin_c (H : ac) (x : Int) (m : Int) (h : 0 ≤ m ∧ m ≤ 4611686018427387904) : ACalls Tryz.prog 47 [.int .i64 x, .int .i64 m] H (fun v H' => v = .bool (cF x m) ∧ H' = H) := by
 refine AcT true Tryz.func47 ?_; intro hbel Q hQ
 refine bi ?_
 refine aj (by kernel_rfl) (dS _ x (0 - m) m) ?_
 refine bi ?_
 exact hQ _ _ (aE (.inl rfl) hbel (x := .bool (btw x (0 - m) m)) (av Tryz.results47) rfl ⟨by simp [btw, cF, true_and], rfl⟩)
theorem fF (H : ac) (t : Int) (f : Int) : ACalls Tryz.prog 46 [.agg [.int .i64 t, .int .i64 f]] H (fun v H' => v = .bool (cJ t f) ∧ H' = H) := by
 refine AcT true Tryz.func46 ?_; intro hbel Q hQ
 refine bi ?_
 refine aj (by kernel_rfl) (dwithin_c _ t 32 (by decide)) ?_
 refine bi ?_
 refine az (fun h1 => ?_) (fun h1 => ?_)
 ·have h1d := bsT h1
  have g'3 := (jn @h1 @h1d)
  refine aa g'3 ?_
  refine aj (by kernel_rfl) (dS _ f 0 32) ?_
  refine aa g'3 ?_
  exact hQ _ _ (ai (.inl rfl) hbel (x := .bool (btw f 0 32)) (av Tryz.results46) rfl ⟨by simp [cJ, h1d], rfl⟩)
 ·have h1d := bsT h1
  have g'4 := (jn @h1 @h1d)
  refine aa g'4 ?_
  exact hQ _ _ (ai (.inl rfl) hbel (x := .bool false) (av Tryz.results46) rfl ⟨by simp [cJ, h1d], rfl⟩)
theorem gW (H : ac) (tu : Int) (le : Int) (sl : Int) (ra : Int) : ACalls Tryz.prog 42 [.agg [.int .i64 tu, .int .i64 le, .int .i64 sl, .int .i64 ra]] H (fun v H' => v = .bool (cK tu le sl ra) ∧ H' = H) := by
 refine AcT true Tryz.func42 ?_; intro hbel Q hQ
 refine bi ?_
 refine aj (by kernel_rfl) (dS _ tu 0 8) ?_
 refine bi ?_
 refine az (fun h1 => ?_) (fun h1 => ?_)
 ·have h1d := bsT h1
  have g'5 := (jn @h1 @h1d)
  refine aa g'5 ?_
  refine aj (by kernel_rfl) (dS _ le 0 16) ?_
  refine aa g'5 ?_
  refine az (fun h2 => ?_) (fun h2 => ?_)
  ·have h2d := bsT h2
   have g'6 := (jn @h2 (jn @h2d g'5))
   refine aa g'6 ?_
   refine aj (by kernel_rfl) (dS _ sl 0 8) ?_
   refine aa g'6 ?_
   refine az (fun h3 => ?_) (fun h3 => ?_)
   ·have h3d := bsT h3
    have g'7 := (jn @h3 (jn @h3d g'6))
    refine aa g'7 ?_
    refine aj (by kernel_rfl) (dS _ ra 1 32) ?_
    refine aa g'7 ?_
    exact hQ _ _ (ai (.inl rfl) hbel (x := .bool (btw ra 1 32)) (av Tryz.results42) rfl ⟨by simp [cK, h1d, h2d, h3d], rfl⟩)
   ·have h3d := bsT h3
    have g'8 := (jn @h3 (jn @h3d g'6))
    refine aa g'8 ?_
    exact hQ _ _ (ai (.inl rfl) hbel (x := .bool false) (av Tryz.results42) rfl ⟨by simp [cK, h1d, h2d, h3d], rfl⟩)
  ·have h2d := bsT h2
   have g'9 := (jn @h2 (jn @h2d g'5))
   refine aa g'9 ?_
   exact hQ _ _ (ai (.inl rfl) hbel (x := .bool false) (av Tryz.results42) rfl ⟨by simp [cK, h1d, h2d], rfl⟩)
 ·have h1d := bsT h1
  have g'10 := (jn @h1 @h1d)
  refine aa g'10 ?_
  exact hQ _ _ (ai (.inl rfl) hbel (x := .bool false) (av Tryz.results42) rfl ⟨by simp [cK, h1d], rfl⟩)
theorem jq (H : ac) (a : Int) (b : Int) (hb : 0 < b) (hw : -4611686018427387904 ≤ a ∧ a ≤ 4611686018427387904) : ACalls Tryz.prog 181 [.int .i64 a, .int .i64 b] H (fun v H' => v = .int .i64 (a / b) ∧ H' = H) := by
 have htd := gV (a := a) (b := b) hb hw
 refine AcT true Tryz.func181 ?_; intro hbel Q hQ
 refine bi ?_
 refine aq (fun h1 => ?_) (fun h1 => ?_)
 ·have h1d := bsT h1
  have hfinq : Int.tdiv a b - 1 = a / b := by rw [← gw hb, if_pos h1d]
  have g'25 := (jn @h1 @h1d)
  refine aa g'25 ?_
  exact hQ _ _ (aE (.inl rfl) hbel (x := .int .i64 ((Int.tdiv a b) - 1)) (av Tryz.results181) rfl ⟨congrArg (AV.int .i64) hfinq, rfl⟩)
 ·have h1d := bsT h1
  have hfinq : Int.tdiv a b = a / b := by rw [← gw hb, if_neg (by omega)]
  have g'26 := (jn @h1 @h1d)
  refine aa g'26 ?_
  exact hQ _ _ (aE (.inl rfl) hbel (x := .int .i64 (Int.tdiv a b)) (av Tryz.results181) rfl ⟨congrArg (AV.int .i64) hfinq, rfl⟩)
theorem bmod_c (H : ac) (a : Int) (b : Int) (hb : 0 < b) (hw : b ≤ 4611686018427387904) : ACalls Tryz.prog 63 [.int .i64 a, .int .i64 b] H (fun v H' => v = .int .i64 (((a % b).toNat : Nat) : Int) ∧ H' = H) := by
 have hmd := mod_nn (a := a) hb
 have hm1 := Int.emod_nonneg a (by omega : b ≠ 0)
 have hm2 := Int.emod_lt_of_pos a hb
 have hm3 : -b ≤ Int.tmod a b ∧ Int.tmod a b < b := by split at hmd <;> omega
 refine AcT true Tryz.func63 ?_; intro hbel Q hQ
 refine bi ?_
 refine aq (fun h1 => ?_) (fun h1 => ?_)
 ·have h1d := bsT h1
  have hfinq : Int.tmod a b + b = (((a % b).toNat : Nat) : Int) := by rw [if_pos h1d] at hmd; omega
  have g'27 := (jn @h1 @h1d)
  refine aa g'27 ?_
  exact hQ _ _ (aE (.inl rfl) hbel (x := .int .i64 ((Int.tmod a b) + b)) (av Tryz.results63) rfl ⟨congrArg (AV.int .i64) hfinq, rfl⟩)
 ·have h1d := bsT h1
  have hfinq : Int.tmod a b = (((a % b).toNat : Nat) : Int) := by rw [if_neg (by omega)] at hmd; omega
  have g'28 := (jn @h1 @h1d)
  refine aa g'28 ?_
  exact hQ _ _ (aE (.inl rfl) hbel (x := .int .i64 (Int.tmod a b)) (av Tryz.results63) rfl ⟨congrArg (AV.int .i64) hfinq, rfl⟩)
theorem iV (H : ac) (h : Int) : ACalls Tryz.prog 77 [.int .i64 h] H (fun v H' => v = .int .i64 (((h % 256).toNat : Nat) : Int) ∧ H' = H) := by
 refine AcT true Tryz.func77 ?_; intro hbel Q hQ
 have g'29 := @uw
 refine aa g'29 ?_
 exact hQ _ _ (aE (.inl rfl) hbel (x := .int .i64 (((h % 256).toNat : Nat) : Int)) (av Tryz.results77) rfl ⟨rfl, rfl⟩)
open Go.RowKit
def gst (x y d : Int) : Nat → Nat
 | 0 => d.natAbs
 | 1 => Nat.gcd d.natAbs x.natAbs
 | _ + 2 => dR x y d
def nst (x y : Int) : Nat → Nat
 | 0 => x.natAbs
 | _ + 1 => y.natAbs
theorem tD (a b : Nat) : Nat.gcd b (a % b) = Nat.gcd a b := by rw [Nat.gcd_comm b, ← Nat.gcd_rec, Nat.gcd_comm]
theorem rot_ok {v : Vec} (h : ey v = true) : ∀ n, ey (rotN v n) = true
 | 0 => h
 | n + 1 => by
  have ih := di.1 (rot_ok h n)
  rw [di]
  unfold rotN
  simp only
  refine ⟨ih.1, by omega, by omega, ?_⟩
  rw [Int.neg_mul_neg]; omega
theorem dir0_ok {k : Nat} (h : k < 64) : ey (dir0 k) = true := by
 have := List.all_eq_true.1 dirs_ok k (by simp; omega)
 unfold dirN at this
 rwa [Nat.mod_eq_of_lt h, Nat.div_eq_of_lt h] at this
theorem rotN_D (v : Vec) : ∀ n, (rotN v n).2.2 = v.2.2
 | 0 => rfl
 | n + 1 => rotN_D v n
theorem low_c (H : ac) (x : Int) (y : Int) (d : Int) (hd : 0 < d) (kbx : -1152921504606846976 ≤ x ∧ x ≤ 1152921504606846976) (kby : -1152921504606846976 ≤ y ∧ y ≤ 1152921504606846976) (kbd : -1152921504606846976 ≤ d ∧ d ≤ 1152921504606846976) : ACalls Tryz.prog 113 [.int .i64 x, .int .i64 y, .int .i64 d] H (fun v H' => v = .agg [.int .i64 ((eu x y d).1), .int .i64 ((eu x y d).2.1), .int .i64 ((eu x y d).2.2)] ∧ H' = H) := by
 have hmx : (if x < 0 - x then 0 - x else x) = ((x.natAbs : Nat) : Int) := by split <;> omega
 have hmy : (if y < 0 - y then 0 - y else y) = ((y.natAbs : Nat) : Int) := by split <;> omega
 have hg00 : ((gst x y d 0 : Nat) : Int) = d := by simp only [gst]; omega
 have hg2 : gst x y d 2 = dR x y d := rfl
 have hg0 : 0 < dR x y d := tC (by omega)
 have t1 := gV (a := x) (b := ((dR x y d : Nat) : Int)) (by omega) (by omega)
 have t2 := gV (a := y) (b := ((dR x y d : Nat) : Int)) (by omega) (by omega)
 have t3 := gV (a := d) (b := ((dR x y d : Nat) : Int)) (by omega) (by omega)
 refine AcT true Tryz.func113 ?_; intro hbel Q hQ
 have g'1 := (jn @hmx (jn @hmy (jn @hg2 @rem_nat)))
 refine aa g'1 ?_
 refine go_loop try_mixed (by kernel_rfl) (fun k F Hx => ∃ j : Nat, j + k = 2 ∧ F = [(0, .int .i64 x), (1, .int .i64 y), (2, .int .i64 d), (6, .ptr (some (H.length, 0))), (7, .int .i64 ((gst x y d j : Nat) : Int)), (13, .agg [.int .i64 x, .int .i64 y]), (14, .int .i64 ((j : Nat) : Int))] ∧ Hx = H ++ [.cells true 0 [.int .i64 0, .int .i64 0, .int .i64 0]]) (2) ?_ ?_
 ·refine ⟨_, _, _, ⟨0, by omega, rfl, rfl⟩, Abs.byG hbel [] rfl [0] (by decide) ?_⟩
  exact bl (jn @hg00 @Int.natCast_zero)
 ·rintro k0 F Hx ⟨j, hm0, rfl, rfl⟩ J0 hJ0
  refine aa g'1 ?_
  refine aq (fun h1 => ?_) (fun h1 => ?_)
  ·have h1d := bsT h1
   obtain rfl | rfl := (by omega : j = 0 ∨ j = 1)
   ·skip
    have g'2 := (jn @h1 (jn @h1d g'1))
    refine aa g'2 ?_
    refine go_loop try_mixed (by kernel_rfl) (fun k F Hx => ∃ a : Nat, ∃ b : Nat, b = k ∧ Nat.gcd a b = gst x y d (0 + 1) ∧ F = [(0, .int .i64 x), (1, .int .i64 y), (2, .int .i64 d), (6, .ptr (some (H.length, 0))), (7, .int .i64 ((a : Nat) : Int)), (9, .int .i64 ((b : Nat) : Int)), (13, .agg [.int .i64 x, .int .i64 y]), (14, .int .i64 0)] ∧ Hx = H ++ [.cells true 0 [.int .i64 0, .int .i64 0, .int .i64 0]]) (nst x y 0) ?_ ?_
    ·refine ⟨_, _, _, ⟨gst x y d 0, nst x y 0, by omega, rfl, rfl, rfl⟩, Abs.byG hbel [] rfl [0] (by decide) ?_⟩
     exact bl (jn @nst.eq_1 @nst.eq_2)
    ·rintro k1 F Hx ⟨a, b, hm1, hG, rfl, rfl⟩ J1 hJ1
     refine aa g'2 ?_
     refine aq (fun h2 => ?_) (fun h2 => ?_)
     ·have h2d := bsT h2
      have hlt : a % b < b := Nat.mod_lt _ (by omega)
      have g'3 := (jn @h2 (jn @h2d (jn @aT (jn @aS g'2))))
      refine aa g'3 ?_
      refine hJ1 _ _ ⟨a % b, by omega, _, _, _, ⟨b, a % b, by omega, by rw [← hG, tD], rfl, rfl⟩, Abs.byG hbel [] rfl [0] (by decide) ?_⟩
      exact bl @h2d
     ·have h2d := bsT h2
      obtain rfl : b = 0 := by omega
      rw [Nat.gcd_zero_right] at hG
      have g'4 := (jn @h2 (jn @h2d (jn @aT (jn @aS g'2))))
      refine aa g'4 ?_
      refine hJ0 _ _ ⟨k0 - 1, by omega, _, _, _, ⟨0 + 1, by omega, rfl, rfl⟩, Abs.byG hbel [] rfl [0] (by decide) ?_⟩
      exact bl (jn @hG @h2d)
   ·skip
    have g'5 := (jn @h1 (jn @h1d g'1))
    refine aa g'5 ?_
    refine go_loop try_mixed (by kernel_rfl) (fun k F Hx => ∃ a : Nat, ∃ b : Nat, b = k ∧ Nat.gcd a b = gst x y d (1 + 1) ∧ F = [(0, .int .i64 x), (1, .int .i64 y), (2, .int .i64 d), (6, .ptr (some (H.length, 0))), (7, .int .i64 ((a : Nat) : Int)), (9, .int .i64 ((b : Nat) : Int)), (13, .agg [.int .i64 x, .int .i64 y]), (14, .int .i64 1)] ∧ Hx = H ++ [.cells true 0 [.int .i64 0, .int .i64 0, .int .i64 0]]) (nst x y 1) ?_ ?_
    ·refine ⟨_, _, _, ⟨gst x y d 1, nst x y 1, by omega, rfl, rfl, rfl⟩, Abs.byG hbel [] rfl [0] (by decide) ?_⟩
     exact bl (jn @nst.eq_1 @nst.eq_2)
    ·rintro k1 F Hx ⟨a, b, hm1, hG, rfl, rfl⟩ J1 hJ1
     refine aa g'5 ?_
     refine aq (fun h3 => ?_) (fun h3 => ?_)
     ·have h3d := bsT h3
      have hlt : a % b < b := Nat.mod_lt _ (by omega)
      have g'6 := (jn @h3 (jn @h3d (jn @aT (jn @aS g'5))))
      refine aa g'6 ?_
      refine hJ1 _ _ ⟨a % b, by omega, _, _, _, ⟨b, a % b, by omega, by rw [← hG, tD], rfl, rfl⟩, Abs.byG hbel [] rfl [0] (by decide) ?_⟩
      exact bl @h3d
     ·have h3d := bsT h3
      obtain rfl : b = 0 := by omega
      rw [Nat.gcd_zero_right] at hG
      have g'7 := (jn @h3 (jn @h3d (jn @aT (jn @aS g'5))))
      refine aa g'7 ?_
      refine hJ0 _ _ ⟨k0 - 1, by omega, _, _, _, ⟨1 + 1, by omega, rfl, rfl⟩, Abs.byG hbel [] rfl [0] (by decide) ?_⟩
      exact bl (jn @hG @h3d)
  ·have h1d := bsT h1
   obtain rfl : j = 2 := by omega
   skip
   have g'8 := (jn @h1 (jn @h1d g'1))
   refine aa g'8 ?_
   exact hQ _ _ (ai (.inl rfl) hbel (x := .agg [.int .i64 (Int.tdiv x ((dR x y d : Nat) : Int)), .int .i64 (Int.tdiv y ((dR x y d : Nat) : Int)), .int .i64 (Int.tdiv d ((dR x y d : Nat) : Int))]) (av Tryz.results113) rfl ⟨rfl, rfl⟩)
theorem dir_c (H : ac) (h : Int) : ACalls Tryz.prog 78 [.int .i64 h] H (fun v H' => v = .agg [.int .i64 ((cS h).1), .int .i64 ((cS h).2.1), .int .i64 ((cS h).2.2)] ∧ H' = H) := by
 have hK : ((h % 256).toNat % 64) < 64 := Nat.mod_lt _ (by decide)
 have hN : ((h % 256).toNat / 64) ≤ 3 := by omega
 have hkk := bR (a := ((((h % 256).toNat % 64) : Nat) : Int)) (b := ((((h % 256).toNat % 64) : Nat) : Int)) (A := 63) (B := 63) (by omega) (by omega)
 refine AcT true Tryz.func78 ?_; intro hbel Q hQ
 have g'9 := (jn @rem_n64 @quo_n64)
 refine aa g'9 ?_
 refine aj (by kernel_rfl) (iV _ h) ?_
 refine aa g'9 ?_
 refine aj (by kernel_rfl) (low_c _ (4096 - (((((h % 256).toNat) % 64 : Nat) : Int) * ((((h % 256).toNat) % 64 : Nat) : Int))) (128 * ((((h % 256).toNat) % 64 : Nat) : Int)) (4096 + (((((h % 256).toNat) % 64 : Nat) : Int) * ((((h % 256).toNat) % 64 : Nat) : Int))) (by omega) (by omega) (by omega) (by omega)) ?_
 refine aa g'9 ?_
 refine go_loop try_mixed (by kernel_rfl) (fun k F Hx => ∃ n : Nat, n + k = ((h % 256).toNat / 64) ∧ F = [(2, .ptr (some (H.length, 0))), (4, .ptr (some (H.length + 1, 0))), (21, .int .i64 ((((h % 256).toNat) / 64 : Nat) : Int)), (22, .int .i64 ((n : Nat) : Int))] ∧ Hx = H ++ [.cells true 0 [.int .i64 0, .int .i64 0, .int .i64 0], .cells true 0 [.int .i64 ((rotN (dir0 ((h % 256).toNat % 64)) n).1), .int .i64 ((rotN (dir0 ((h % 256).toNat % 64)) n).2.1), .int .i64 ((eu (4096 - (((((h % 256).toNat) % 64 : Nat) : Int) * ((((h % 256).toNat) % 64 : Nat) : Int))) (128 * ((((h % 256).toNat) % 64 : Nat) : Int)) (4096 + (((((h % 256).toNat) % 64 : Nat) : Int) * ((((h % 256).toNat) % 64 : Nat) : Int)))).2.2)]]) (((h % 256).toNat / 64)) ?_ ?_
 ·refine ⟨_, _, _, ⟨0, by omega, rfl, rfl⟩, Abs.byG hbel [] rfl [0, 1] (by decide) ?_⟩
  exact bl (jn @rotN.eq_1 @dir0.eq_1)
 ·rintro k0 F Hx ⟨n, hm0, rfl, rfl⟩ J0 hJ0
  refine aa g'9 ?_
  refine aq (fun h1 => ?_) (fun h1 => ?_)
  ·have h1d := bsT h1
   have hro := di.1 (rot_ok (dir0_ok hK) n)
   have g'10 := (jn @h1 (jn @h1d g'9))
   refine aa g'10 ?_
   refine hJ0 _ _ ⟨k0 - 1, by omega, _, _, _, ⟨n + 1, by omega, rfl, rfl⟩, Abs.byG hbel [] rfl [0, 1] (by decide) ?_⟩
   exact bl (jn @rotN.eq_2 @Int.zero_sub)
  ·have h1d := bsT h1
   have hfinn : n = ((h % 256).toNat / 64) := by omega
   have g'11 := (jn @h1 (jn @h1d g'9))
   refine aa g'11 ?_
   exact hQ _ _ (ai (.inl rfl) hbel (x := .agg [.int .i64 ((rotN (dir0 ((h % 256).toNat % 64)) n).1), .int .i64 ((rotN (dir0 ((h % 256).toNat % 64)) n).2.1), .int .i64 ((eu (4096 - (((((h % 256).toNat) % 64 : Nat) : Int) * ((((h % 256).toNat) % 64 : Nat) : Int))) (128 * ((((h % 256).toNat) % 64 : Nat) : Int)) (4096 + (((((h % 256).toNat) % 64 : Nat) : Int) * ((((h % 256).toNat) % 64 : Nat) : Int)))).2.2)]) (av Tryz.results78) rfl ⟨by subst hfinn; rw [show cS h = rotN (dir0 ((h % 256).toNat % 64)) ((h % 256).toNat / 64) from rfl, rotN_D]; rfl, rfl⟩)
open Go.RowKit
def ptB (x y : Int) : Bool := cF x 1048576 && cF y 1048576
open Go.RowKit
def fi (x0 y0 x1 y1 : Int) : Bool := decide (x0 ≤ x1) && (decide (y0 ≤ y1) && (ptB x0 y0 && ptB x1 y1))
theorem tE {x0 y0 x1 y1 : Int} : fi x0 y0 x1 y1 = true ↔ (-1048576 ≤ x0 ∧ x0 ≤ x1 ∧ x1 ≤ 1048576) ∧ (-1048576 ≤ y0 ∧ y0 ≤ y1 ∧ y1 ≤ 1048576) := by
 unfold fi ptB; simp only [Bool.and_eq_true, decide_eq_true_eq, bC]; omega
def spl (a : Int) : Int := 0 - (0 - a) / 64 - 1
def sph (b : Int) : Int := b / 64
def ce (a b : Int) : Nat := (sph b - spl a + 1).toNat
theorem gridR_s {p : Int → Int → Bool} {x0 y0 : Int} {w n : Nat} : ct p x0 w y0 (n + 1) = ct p x0 w y0 n ++ rowR p x0 (y0 + n) w := rfl
theorem gridR_0 {p : Int → Int → Bool} {x0 y0 : Int} {w : Nat} : ct p x0 w y0 0 = [] := rfl
theorem rowR_0 {p : Int → Int → Bool} {x0 y : Int} : rowR p x0 y 0 = [] := rfl
open Go.RowKit
def ec {α : Type} (p : α → Bool) (l : List α) : Int := if l.any p = true then ((l.findIdx p : Nat) : Int) else -1
theorem gj {α : Type} {p : α → Bool} {l : List α} {i : Nat} (hi : i < l.length) (h0 : (l.take i).any p = false) (h1 : p l[i] = true) : ec p l = (i : Int) := by
 have ha : l.any p = true := List.any_eq_true.2 ⟨l[i], List.getElem_mem hi, h1⟩
 have hf : l.findIdx p = i := (List.findIdx_eq hi).2 ⟨h1, fun j hj => by
  have := List.any_eq_false.1 h0 l[j] (by rw [List.mem_take_iff_getElem]; exact ⟨j, by omega, rfl⟩)
  simpa using this⟩
 unfold ec; rw [if_pos ha, hf]
theorem ee {α : Type} {p : α → Bool} {l : List α} (h : l.any p = false) : ec p l = -1 := by
 unfold ec; rw [if_neg (by simp [h])]
theorem ik {α : Type} {p : α → Bool} {l : List α} : decide (0 ≤ ec p l) = l.any p := by
 cases h : l.any p
 ·rw [ee h]; rfl
 ·unfold ec; rw [if_pos h]; exact decide_eq_true (by omega)
theorem ux {α : Type} (p : α → Bool) (l : List α) : (ec p l = -1 ∧ l.any p = false) ∨ ∃ i : Nat, ∃ hi : i < l.length, ec p l = (i : Int) ∧ (l.take i).any p = false ∧ p l[i] = true := by
 cases h : l.any p
 ·exact .inl ⟨ee h, rfl⟩
 ·right
  have hl : l.findIdx p < l.length := List.findIdx_lt_length_of_exists (by simpa using h)
  have h1 : p l[l.findIdx p] = true := List.findIdx_getElem
  have h0 : (l.take (l.findIdx p)).any p = false := List.any_eq_false.2 fun x hx => by
   obtain ⟨j, hj, rfl⟩ := List.mem_take_iff_getElem.1 hx
   have := List.not_of_lt_findIdx (p := p) (xs := l) (i := j) (by omega)
   simpa using this
  exact ⟨_, hl, gj hl h0 h1, h0, h1⟩
theorem cu {l : List (Int × Int)} {j : Nat} (h : j < l.length) : (g1 l j, g2 l j) = l[j] := by
 simp [g1, g2, h, List.getD_eq_getElem?_getD]
theorem gi_eq {l : List Int} {j : Nat} (h : j < l.length) : (gi l j) = l[j] := by
 simp [gi, h, List.getD_eq_getElem?_getD]
theorem gx {α : Type} {l : List α} {p : α → Bool} {i : Nat} (h : i < l.length) : (l.take (i + 1)).any p = ((l.take i).any p || p l[i]) := by
 rw [List.take_succ_eq_append_getElem h, List.any_append]; simp
theorem fj {n m : Nat} {sel : List Nat} {caps : List AV} (h : AV.bels n caps = true) : AV.mvs (sig n m sel) caps = caps := gQ (fun b hb => gu hb) caps h
open Go.RowKit
set_option maxRecDepth 100000 in
theorem idx_cell (H : ac) (s : AV) (l : List (Int × Int)) (hs : Sl H 2 s l.length (prs l)) (hl : l.length ≤ 1000000000) (g : FuncId) (caps : List AV) (hok : dn Tryz.prog g = true) (hc : AV.bels H.length caps = true) (p : (Int × Int) → Bool) (hf : ∀ j, j < l.length → ACalls Tryz.prog g (.agg [.int .i64 (g1 l j), .int .i64 (g2 l j)] :: caps) H (fun v H' => v = .bool (p (g1 l j, g2 l j)) ∧ H' = H)) :
  ACalls Tryz.prog 135 [s, .fn g caps] H (fun v H' => v = .int .i64 (ec p l) ∧ H' = H) := by
 obtain ⟨b, own, cap, rfl, hb⟩ := hs
 have hbl := getElem?_lt hb
 have hmv := fun m sel => fj (n := H.length) (m := m) (sel := sel) hc
 (refine cl try_mixed Tryz.func135 true _ rfl (Nat.le_of_ble_eq_true (by kernel_rfl)) (by kernel_rfl) ?_; intro hbel Q hQ hQ' c hc; unfold Tryz.f135 at hc; simp only [Option.some.injEq] at hc; subst hc; clear hQ')
 simp -implicitDefEqProofs (disch := omega) only [simprocAttr, ax, ay, Function.comp_apply, one1, lenV, af, am, ap, aop, AV.ofValue, AV.ofCell, AV.cells, AV.flat, AV.one, arep, aB, aH, aw]
 refine go_loop try_mixed (by kernel_rfl) (fun k F Hx => ∃ i : Nat, i + k = l.length ∧ (l.take i).any p = false ∧ F = [(0, .sl (some (b, 0)) l.length none), (1, .fn g caps), (7, .int .i64 l.length), (8, .int .i64 (i : Nat))] ∧ Hx = H) l.length ?_ ?_
 ·refine ⟨_, _, _, ⟨0, by omega, rfl, rfl, rfl⟩, Abs.by0 hbel ?_⟩
  exact bl @hmv
 ·rintro k F Hx ⟨i, hik, ht, rfl, rfl⟩ J hJ
  by_cases hi : i < l.length
  ·have hii : (i : Int) < (l.length : Int) := by omega
   have q1 := cA hi
   have hg := cu hi
   simp -implicitDefEqProofs (disch := omega) only [hii, hb, q1, bE, cD, simprocAttr, ax, ay, Function.comp_apply, one1, lenV, af, am, ap, aop, AV.ofValue, AV.ofCell, AV.cells, AV.flat, AV.one, arep, aB, aH, aw]
   iterate 2 refine And.intro (by omega) ?_
   refine aj hok (hf i hi) ?_
   have hst := gx (p := p) hi
   rw [ht, Bool.false_or, ← hg] at hst
   cases h1 : p (g1 l i, g2 l i)
   ·rw [h1] at hst
    simp -implicitDefEqProofs (disch := omega) only [h1, simprocAttr, ax, ay, Function.comp_apply, one1, lenV, af, am, ap, aop, AV.ofValue, AV.ofCell, AV.cells, AV.flat, AV.one, arep, aB, aH, aw]
    refine hJ _ _ ⟨k - 1, by omega, _, _, _, ⟨i + 1, by omega, hst, rfl, rfl⟩, Abs.by0 hbel ?_⟩
    exact bl @hmv
   ·simp -implicitDefEqProofs (disch := omega) only [h1, simprocAttr, ax, ay, Function.comp_apply, one1, lenV, af, am, ap, aop, AV.ofValue, AV.ofCell, AV.cells, AV.flat, AV.one, arep, aB, aH, aw]
    exact hQ _ _ (aE (.inl rfl) hbel (x := .int .i64 (i : Nat)) (av Tryz.results135) rfl ⟨by rw [gj hi ht (by rw [← hg]; exact h1)], rfl⟩)
  ·have hnn : ¬ ((i : Int) < (l.length : Int)) := by omega
   simp -implicitDefEqProofs (disch := omega) only [hnn, simprocAttr, ax, ay, Function.comp_apply, one1, lenV, af, am, ap, aop, AV.ofValue, AV.ofCell, AV.cells, AV.flat, AV.one, arep, aB, aH, aw]
   rw [List.take_of_length_le (by omega)] at ht
   exact hQ _ _ (aE (.inl rfl) hbel (x := .int .i64 (-1)) (av Tryz.results135) rfl ⟨by rw [ee ht], rfl⟩)
open Go.RowKit
theorem tF {l : List (Int × Int)} {j : Nat} {a b : Int} (h : j < l.length) : ((prs l).set (j * 2) (.int .i64 a)).set (j * 2 + 1) (.int .i64 b) = prs (l.set j (a, b)) := by
 induction l generalizing j with
 | nil => simp at h
 | cons p l ih =>
  cases j with
  | zero => simp [cz]
  | succ j =>
   have e1 : (j + 1) * 2 = (j * 2).succ.succ := by omega
   have e2 : (j + 1) * 2 + 1 = (j * 2 + 1).succ.succ := by omega
   rw [cz, e2, e1]
   show _ :: _ :: ((prs l).set (j * 2) (.int .i64 a)).set (j * 2 + 1) (.int .i64 b) = _
   rw [ih (by simpa using h)]
   rfl
theorem prs_rep {m : Nat} : prs (List.replicate m (0, 0)) = (List.range (m * 2)).map fun j => ([.int .i64 0, .int .i64 0] : List AV).getD (j % 2) .any := by
 induction m with
 | zero => rfl
 | succ m ih =>
  have e : List.replicate (m + 1) ((0 : Int), (0 : Int)) = List.replicate m (0, 0) ++ [(0, 0)] := by rw [List.replicate_succ']
  rw [e, ag, ih, Nat.succ_mul, List.range_succ, List.range_succ, List.map_append, List.map_append]
  have e1 : m * 2 % 2 = 0 := by omega
  have e2 : (m * 2 + 1) % 2 = 1 := by omega
  simp [cz, gT, e1, e2]
theorem gN : ∀ (ys xs : List AV) (o : Nat), o + ys.length = xs.length → splice xs o ys = xs.take o ++ ys
 | [], xs, o, h => by
  rw [splice, List.append_nil, List.take_of_length_le]
  simp at h; omega
 | y :: ys, xs, o, h => by
  rw [splice, gN ys _ _ (by simp at h ⊢; omega)]
  simp only [List.length_cons] at h
  have ho : o < xs.length := by omega
  rw [List.take_succ_eq_append_getElem (by simpa using ho), List.getElem_set_self, List.take_set_of_le (Nat.le_refl _)]
  simp
theorem lw {l ys : List (Int × Int)} {i : Nat} (h : i + ys.length = l.length) : splice (prs l) (i * 2) (prs ys) = prs (l.take i ++ ys) := by
 rw [gN _ _ _ (by rw [bE, bE]; omega), qc, ag]
theorem iW {k : IntKind} {l : List Int} {j : Nat} {a : Int} : (ints k l).set j (.int k a) = ints k (l.set j a) := j0
open Go.RowKit
theorem eF {n : Nat} : ∀ {l : List (Int × Int)}, AV.bels n (prs l) = true
 | [] => rfl
 | p :: l => by rw [cz]; simp only [AV.bels, AV.bel, Bool.true_and]; exact eF
theorem HBel.put {n : Nat} {H : ac} (h : HBel n H) (b : Nat) {x : ABlk} (hx : x.bel n = true) : HBel n (H.set b x) := fun c y hy => by
 rw [List.getElem?_set] at hy
 split at hy
 ·split at hy
  ·simp at hy; subst hy; exact hx
  ·cases hy
 ·exact h c y hy
theorem Abs.byS0 {H0 : ac} {F1 F2 : Fr} {n : Nat} (hn : H0.length = n) (hsc : HBel n H0) (h : er n (sig n 0 []) F1 F2) : Abs n (sig n 0 []) F1 H0 F2 H0 := by
 subst hn; exact Abs.by0 hsc h
theorem Abs.byS1 {H0 l1 : ac} {F1 F2 : Fr} {n : Nat} (hn : H0.length = n) (hsc : HBel n H0) (h : er (n + l1.length) (sig n l1.length []) F1 F2) : Abs n (sig n l1.length []) F1 (H0 ++ l1) F2 H0 := by
 subst hn; exact Abs.byN hsc h
theorem Abs.by0e {H0 H2 : ac} {F1 F2 : Fr} (e : H2 = H0) (hsc : HBel H0.length H0) (h : er H0.length (sig H0.length 0 []) F1 F2) : Abs H0.length (sig H0.length 0 []) F1 H0 F2 H2 := by
 subst e; exact Abs.by0 hsc h
theorem end_byS {P : Program} {fn : Func} {H0 : ac} {R : AV → ac → Prop} {F : Fr} {e : Exit} {n : Nat} (hn : H0.length = n) (he : e = .ret ∨ e = .normal) (hbel : HBel n H0) {x1 : AV} (x2 : AV) (hx : cN P fn F H0 = some x1) (hR : R x2 H0) (h : W n x1 (x2.mv (sig n 0 []))) : dp P fn n R e F H0 := by
 subst hn
 exact ji (l2 := []) he hbel x2 hx [] rfl [] (by simp) (by rw [List.append_nil]; exact hR) ⟨h, trivial⟩
def bO {α : Type} (p : α → Bool) (l : List α) : List α := l.filter fun e => !p e
theorem iX {α : Type} {p : α → Bool} {l : List α} (h : l.any p = false) : bO p l = l := by
 unfold bO
 rw [List.filter_eq_self]
 intro a ha
 have := List.any_eq_false.1 h a ha
 simpa using this
theorem pF {α : Type} {p : α → Bool} {l : List α} {j : Nat} (h : j < l.length) : bO p (l.take (j + 1)) = bO p (l.take j) ++ (if p l[j] = true then [] else [l[j]]) := by
 unfold bO
 rw [List.take_succ_eq_append_getElem h, List.filter_append]
 congr 1
 cases hp : p l[j] <;> simp [hp]
theorem delL_le {α : Type} {p : α → Bool} {l : List α} : (bO p l).length ≤ l.length := List.length_filter_le _ _
def dq (n : Nat) (l : List (Int × Int)) : List (Int × Int) := l ++ List.replicate (n - l.length) (0, 0)
theorem gy {n : Nat} {l : List (Int × Int)} : prs (dq n l) = prs l ++ prs (List.replicate (n - l.length) (0, 0)) := ag
set_option maxRecDepth 100000 in
theorem del_cell (H : ac) (b : Nat) (cap : Option Nat) (l : List (Int × Int)) (hb : H[b]? = some (.cells (bm l.length) 2 (prs l))) (hl : l.length ≤ 1000000000) (g : FuncId) (caps : List AV) (hok : dn Tryz.prog g = true) (hc : AV.bels H.length caps = true) (p : (Int × Int) → Bool)
  (hf : ∀ (X : List (Int × Int)) (e : Int × Int) (L : ac), e ∈ l → ACalls Tryz.prog g (.agg [.int .i64 e.1, .int .i64 e.2] :: caps) (H.set b (.cells (bm l.length) 2 (prs X)) ++ L) (fun v H' => v = .bool (p e) ∧ H' = H.set b (.cells (bm l.length) 2 (prs X)) ++ L)) :
  ACalls Tryz.prog 97 [.sl (some (b, 0)) l.length cap, .fn g caps] H (fun v H' => v = .sl (some (b, 0)) (bO p l).length none ∧ H' = H.set b (.cells (bm l.length) 2 (prs (dq l.length (bO p l))))) := by
 have hbl := getElem?_lt hb
 have hset : ∀ X L, (H.set b X ++ L)[b]? = some X := fun X L => by rw [List.getElem?_append_left (by simpa using hbl), List.getElem?_set_self hbl]
 have hset0 : ∀ X, (H.set b X)[b]? = some X := fun X => List.getElem?_set_self hbl
 have hself : H.set b (.cells (bm l.length) 2 (prs l)) = H := by
  refine List.ext_getElem? fun i => ?_
  rw [List.getElem?_set]
  split
  ·rename_i e; subst e; first | exact hb.symm | (rw [if_pos hbl]; exact hb.symm)
  ·rfl
 have hmv := fun m sel => fj (n := H.length) (m := m) (sel := sel) hc
 have key := idx_cell H (.sl (some (b, 0)) l.length cap) l ⟨b, _, cap, rfl, hb⟩ hl g caps hok hc p (fun j hj => by
  have := hf l (g1 l j, g2 l j) [] (by rw [cu hj]; exact List.getElem_mem hj)
  rw [List.append_nil, hself] at this
  exact this)
 (refine cl try_mixed Tryz.func97 true _ rfl (Nat.le_of_ble_eq_true (by kernel_rfl)) (by kernel_rfl) ?_; intro hbel Q hQ hQ' c hc; unfold Tryz.f97 at hc; simp only [Option.some.injEq] at hc; subst hc; clear hQ')
 simp -implicitDefEqProofs (disch := omega) only [simprocAttr, ax, ay, Function.comp_apply, one1, lenV, af, am, ap, aop, AV.ofValue, AV.ofCell, AV.cells, AV.flat, AV.one, arep, aB, aH, aw]
 refine aj (by kernel_rfl) key ?_
 rcases ux p l with ⟨h1, h2⟩ | ⟨i, hi, h1, h2, h3⟩
 ·rw [h1]
  simp -implicitDefEqProofs (disch := omega) only [simprocAttr, ax, ay, Function.comp_apply, one1, lenV, af, am, ap, aop, AV.ofValue, AV.ofCell, AV.cells, AV.flat, AV.one, arep, aB, aH, aw]
  have e : H.set b (.cells (bm l.length) 2 (prs (dq l.length (bO p l)))) = H := by rw [iX h2]; simp [dq, hself]
  exact hQ _ _ (ji (.inl rfl) hbel (x1 := .sl (some (b, 0)) l.length cap) (l2 := []) (.sl (some (b, 0)) (bO p l).length none) (av Tryz.results97) [] rfl [] (by decide) ⟨rfl, by rw [List.append_nil, e]⟩ (by rw [iX h2]; exact bj))
 ·rw [h1]
  have hne : ((i : Int) == -1) = false := beq_eq_false_iff_ne.2 (by omega)
  have hown : bm l.length = true := dJ (by omega)
  rw [hown] at hb hf hself
  simp -implicitDefEqProofs (disch := omega) only [hne, simprocAttr, ax, ay, Function.comp_apply, one1, lenV, af, am, ap, aop, AV.ofValue, AV.ofCell, AV.cells, AV.flat, AV.one, arep, aB, aH, aw]
  have hd0 : bO p (l.take (i + 1)) = l.take i := by rw [pF hi, if_pos h3, List.append_nil, iX h2]
  have hdi : (bO p (l.take (i + 1))).length = i := by rw [hd0, List.length_take]; omega
  refine go_loop try_mixed (by kernel_rfl) (fun k F Hx => ∃ (j : Nat) (X : List (Int × Int)), j + k = l.length ∧ (bO p (l.take j)).length < j ∧ X.length = l.length ∧ X.take (bO p (l.take j)).length = bO p (l.take j) ∧ X.drop j = l.drop j ∧ F = [(0, .sl (some (b, 0)) l.length cap), (1, .fn g caps), (5, .int .i64 (((bO p (l.take j)).length : Nat) : Int)), (6, .int .i64 ((j : Nat) : Int))] ∧ Hx = H.set b (.cells true 2 (prs X))) (l.length - (i + 1)) ?_ ?_
  ·refine ⟨_, _, _, ⟨i + 1, l, by omega, by rw [hdi]; omega, rfl, by rw [hd0, List.length_take, Nat.min_eq_left (by omega)], rfl, rfl, rfl⟩, Abs.by0e hself hbel ?_⟩
   exact bl (jn @hdi @hmv)
  ·rintro k F Hx ⟨j, X, hjk, hij, hXl, hXt, hXd, rfl, rfl⟩ J hJ
   obtain ⟨G, hG⟩ : ∃ G, G = H.set b (.cells true 2 (prs X)) := ⟨_, rfl⟩
   have hGl : G.length = H.length := by rw [hG, List.length_set]
   have hG1 : ∀ L, (G ++ L)[b]? = some (.cells true 2 (prs X)) := fun L => by rw [hG]; exact hset _ _
   have hG0 : G[b]? = some (.cells true 2 (prs X)) := by rw [hG]; exact hset0 _
   have hbG : b < G.length := by omega
   have hGs : ∀ Y L, (G ++ L).set b Y = H.set b Y ++ L := fun Y L => by rw [List.set_append_left _ _ hbG, hG, List.set_set]
   have hcall := fun e L => hf X e L
   rw [← hG] at hcall ⊢
   have hbelG : HBel H.length G := by rw [hG]; exact HBel.put hbel b eF
   obtain ⟨n, hn⟩ : ∃ n, n = (bO p (l.take j)).length := ⟨_, rfl⟩
   have hnj : n < j := by rw [hn]; exact hij
   rw [← hn] at hXt ⊢
   by_cases hj : j < l.length
   ·have hjj : (j : Int) < (l.length : Int) := by omega
    have hXj : X[j]'(by omega) = l[j] := by
     have := congrArg (fun m => m[0]?) hXd
     simpa [hj, hXl] using this
    have q1 := cA (l := X) (j := j) (by omega)
    have hg := cu (l := X) (j := j) (by omega)
    simp -implicitDefEqProofs (disch := omega) only [hjj, hG1, hG0, q1, bE, cD, simprocAttr, ax, ay, Function.comp_apply, one1, lenV, af, am, ap, aop, AV.ofValue, AV.ofCell, AV.cells, AV.flat, AV.one, arep, aB, aH, aw]
    iterate 2 refine And.intro (by omega) ?_
    refine aj hok (hcall (g1 X j, g2 X j) _ (by rw [hg, hXj]; exact List.getElem_mem hj)) ?_
    have hst := pF (p := p) hj
    rw [← hXj, ← hg] at hst
    cases h5 : p (g1 X j, g2 X j)
    ·rw [h5, if_neg Bool.false_ne_true] at hst
     have hl5 : (bO p (l.take (j + 1))).length = n + 1 := by rw [hst, List.length_append, hn]; rfl
     have hnX : n < X.length := by omega
     have hp2 := tF (a := g1 X j) (b := g2 X j) hnX
     simp -implicitDefEqProofs (disch := omega) only [h5, hG1, hG0, hGs, hp2, bE, cD, simprocAttr, ax, ay, Function.comp_apply, one1, lenV, af, am, ap, aop, AV.ofValue, AV.ofCell, AV.cells, AV.flat, AV.one, arep, aB, aH, aw]
     iterate 2 refine And.intro (by omega) ?_
     refine hJ _ _ ⟨k - 1, by omega, _, _, _, ⟨j + 1, X.set n (g1 X j, g2 X j), by omega, by rw [hl5]; omega, by rw [List.length_set]; exact hXl, ?_, ?_, rfl, rfl⟩, Abs.byS1 (by rw [List.length_set]) (HBel.put hbel b eF) ?_⟩
     ·rw [hl5, hst, List.take_succ_eq_append_getElem (by rw [List.length_set]; exact hnX), List.getElem_set_self, List.take_set_of_le (Nat.le_refl _), hXt]
     ·rw [List.drop_set_of_lt (by omega), ← List.drop_drop, hXd, List.drop_drop]
     exact bl (jn @hl5 (jn @hmv (jn @Int.natCast_add @Int.natCast_one)))
    ·rw [h5, if_pos rfl, List.append_nil] at hst
     have hl5 : (bO p (l.take (j + 1))).length = n := by rw [hst, hn]
     simp -implicitDefEqProofs (disch := omega) only [h5, simprocAttr, ax, ay, Function.comp_apply, one1, lenV, af, am, ap, aop, AV.ofValue, AV.ofCell, AV.cells, AV.flat, AV.one, arep, aB, aH, aw]
     refine hJ _ _ ⟨k - 1, by omega, _, _, _, ⟨j + 1, X, by omega, by rw [hl5]; omega, hXl, by rw [hst, ← hn]; exact hXt, by rw [← List.drop_drop, hXd, List.drop_drop], rfl, hG⟩, Abs.byS1 hGl hbelG ?_⟩
     exact bl (jn @hl5 @hmv)
   ·have hjj : ¬ ((j : Int) < (l.length : Int)) := by omega
    have hrep := (prs_rep (m := l.length - n)).symm
    have hne0 : (l.length - n == 0) = false := beq_eq_false_iff_ne.2 (by omega)
    have hspl := lw (l := X) (ys := List.replicate (l.length - n) (0, 0)) (i := n) (by rw [List.length_replicate]; omega)
    have hGs0 : ∀ Y, G.set b Y = H.set b Y := fun Y => by rw [hG, List.set_set]
    rw [hXt] at hspl
    simp -implicitDefEqProofs (disch := omega) only [hjj, hG1, hG0, hrep, hne0, hspl, hGs0, bE, cD, List.length_replicate, hset0, simprocAttr, ax, ay, Function.comp_apply, one1, lenV, af, am, ap, aop, AV.ofValue, AV.ofCell, AV.cells, AV.flat, AV.one, arep, aB, aH, aw]
    refine ⟨by omega, ⟨by omega, .inl (Nat.le_refl _)⟩, by omega, by omega, ⟨by omega, .inl (by omega)⟩, ?_⟩
    obtain rfl : j = l.length := by omega
    rw [List.take_length] at hn ⊢
    refine hQ _ _ (end_byS (by rw [List.length_set]) (.inl rfl) (HBel.put hbel b eF) (x1 := .sl (some (b, 0)) (n - 0) (Option.map (fun x => x - 0) cap)) (.sl (some (b, 0)) (bO p l).length none) (av Tryz.results97) ⟨rfl, by rw [hown, hn]; rfl⟩ ?_)
    exact bl (jn @hn @Nat.sub_zero)
open Go.RowKit
open Go.RowKit
def cp (f c : Int) : Bool := decide (0 ≤ f) && (decide (f < 256) && (decide (1 ≤ c) && (decide (c ≤ 256) && (decide (f = 0) || decide (c < 256)))))
theorem bS {f c : Int} : cp f c = true ↔ (0 ≤ f ∧ f < 256) ∧ (1 ≤ c ∧ c ≤ 256) ∧ (f = 0 ∨ c < 256) := by
 unfold cp
 simp only [Bool.and_eq_true, Bool.or_eq_true, decide_eq_true_eq]
 omega
def arcF (f c : Int) : Int := if 256 ≤ c then 0 else f % 256
def cB (c : Int) : Int := if 256 ≤ c then 256 else c
theorem gX {f c : Int} (h : 1 ≤ c) : cp (arcF f c) (cB c) = true := by
 rw [bS]; unfold arcF cB; split <;> omega
def bk (f : Int) (n : Nat) : List Int := (List.range n).map fun (i : Nat) => (f + (i : Int)) % 256
theorem dT (f : Int) (n : Nat) : (bk f n).length = n := by simp [bk]
theorem mrkL_succ (f : Int) (n : Nat) : bk f (n + 1) = bk f n ++ [(f + (n : Int)) % 256] := by
 unfold bk; rw [List.range_succ, List.map_append]; rfl
theorem mrkL_bd {f : Int} {n : Nat} : ∀ e ∈ bk f n, 0 ≤ e ∧ e ≤ 255 := fun e he => by
 unfold bk at he
 obtain ⟨i, -, rfl⟩ := List.mem_map.1 he
 omega
def bD (s f c : Int) : Int := (f - s) % 256 + c
def jr (f c m : Int) : Prop := (m - f) % 256 < c
instance (f c m : Int) : Decidable (jr f c m) := by unfold jr; exact inferInstance
def il (s n bf bn : Int) : Int × Int := if n < bn ∨ (n = bn ∧ n < 256 ∧ s < bf) then (s, n) else (bf, bn)
def cw (f c f' c' : Int) : Int × Int :=
 let p := il f (max (bD f f c) (bD f f' c')) 0 256
 il f' (max (bD f' f c) (bD f' f' c')) p.1 p.2
open Go.RowKit
def offB (n : Int) : Bool := decide (n < -1048576) || decide (1048576 < n)
def bxB (x0 y0 x1 y1 f c : Int) : Bool := decide (x0 ≤ x1) && (decide (y0 ≤ y1) && ((!([x0, y0, x1, y1].any offB)) && cp f c))
theorem bY {x0 y0 x1 y1 f c : Int} : bxB x0 y0 x1 y1 f c = true ↔ (-1048576 ≤ x0 ∧ x0 ≤ x1 ∧ x1 ≤ 1048576) ∧ (-1048576 ≤ y0 ∧ y0 ≤ y1 ∧ y1 ≤ 1048576) ∧ cp f c = true := by
 unfold bxB offB
 simp only [Bool.and_eq_true, decide_eq_true_eq, List.any_cons, List.any_nil, Bool.or_false, Bool.not_eq_true', Bool.or_eq_false_iff, decide_eq_false_iff_not]
 constructor
 ·rintro ⟨a, b, c, d⟩; exact ⟨by omega, by omega, d⟩
 ·rintro ⟨a, b, d⟩; exact ⟨by omega, by omega, by omega, d⟩
def bG (b : T6) : Bool := bxB b.1 b.2.1 b.2.2.1 b.2.2.2.1 b.2.2.2.2.1 b.2.2.2.2.2
def bU (l : List T6) : Bool := decide (((l.length : Nat) : Int) ≤ 16) && !(l.any fun b => !bG b)
theorem bX {l : List T6} : bU l = true ↔ l.length ≤ 16 ∧ ∀ b ∈ l, bG b = true := by
 unfold bU
 rw [Bool.and_eq_true, decide_eq_true_eq, Bool.not_eq_true', List.any_eq_false]
 constructor
 ·rintro ⟨a, b⟩; exact ⟨by omega, fun x hx => by have := b x hx; simpa using this⟩
 ·rintro ⟨a, b⟩; exact ⟨by omega, fun x hx => by simp [b x hx]⟩
def mnI (a b : Int) : Int := if b < a then b else a
def mxI (a b : Int) : Int := if a < b then b else a
def dY (a b : T6) : T6 := (mnI a.1 b.1, mnI a.2.1 b.2.1, mxI a.2.2.1 b.2.2.1, mxI a.2.2.2.1 b.2.2.2.1, (cw a.2.2.2.2.1 a.2.2.2.2.2 b.2.2.2.2.1 b.2.2.2.2.2).1, (cw a.2.2.2.2.1 a.2.2.2.2.2 b.2.2.2.2.1 b.2.2.2.2.2).2)
theorem tG {s n bf bn : Int} (hs : 0 ≤ s ∧ s < 256) (hn : 1 ≤ n) (hb : cp bf bn = true) : cp (il s n bf bn).1 (il s n bf bn).2 = true := by
 rw [bS] at hb ⊢
 unfold il
 split <;> simp only <;> omega
theorem hullA_ok {f c f' c' : Int} (h : cp f c = true) (h' : cp f' c' = true) : cp (cw f c f' c').1 (cw f c f' c').2 = true := by
 have k := bS.1 h
 have k' := bS.1 h'
 unfold cw
 refine tG k'.1 (by unfold bD; omega) (tG k.1 (by unfold bD; omega) (by decide))
theorem hulB_ok {a b : T6} (ha : bG a = true) (hb : bG b = true) : bG (dY a b) = true := by
 unfold bG at *
 rw [bY] at *
 unfold dY mnI mxI
 simp only
 refine ⟨by omega, by omega, hullA_ok ha.2.2 hb.2.2⟩
def hlS (f c f2 c2 : Int) : Nat → Int × Int
 | 0 => (0, 256)
 | 1 => il f (max (bD f f c) (bD f f2 c2)) 0 256
 | _ + 2 => cw f c f2 c2
theorem dH (f c f2 c2 : Int) : hlS f c f2 c2 2 = il f2 (max (bD f2 f c) (bD f2 f2 c2)) (hlS f c f2 c2 1).1 (hlS f c f2 c2 1).2 := rfl
theorem max_i (a b : Int) : (if a < b then b else a) = max a b := by split <;> omega
theorem cG {l : List T6} {j : Nat} (h : j < l.length) : g6 l j ∈ l := by
 unfold g6; rw [List.getD_eq_getElem?_getD]; simp [h]
open Go.RowKit
def shF (bf bc t : Int) : Int := arcF (bf + (((t % 256).toNat : Nat) : Int)) bc
def grF (F C n : Int) : Int := arcF (F - n) (C + 2 * n)
def grC (C n : Int) : Int := cB (C + 2 * n)
def mrkA (bf bc t tu : Int) : List Int := bk (grF (shF bf bc t) (cB bc) tu) (grC (cB bc) tu).toNat
open Go.RowKit
def lnP (x y : Int) : Bool := cF x 2097152 && cF y 2097152
def lnR (x0 y0 x1 y1 : Int) : Bool := decide (-2097152 ≤ x0) && (decide (x0 ≤ x1) && (decide (x1 ≤ 2097152) && (decide (-2097152 ≤ y0) && (decide (y0 ≤ y1) && decide (y1 ≤ 2097152)))))
theorem lnP_iff {x y : Int} : lnP x y = true ↔ (-2097152 ≤ x ∧ x ≤ 2097152) ∧ -2097152 ≤ y ∧ y ≤ 2097152 := by unfold lnP; rw [Bool.and_eq_true, bC, bC]
theorem cX {x0 y0 x1 y1 : Int} : lnR x0 y0 x1 y1 = true ↔ (-2097152 ≤ x0 ∧ x0 ≤ x1 ∧ x1 ≤ 2097152) ∧ -2097152 ≤ y0 ∧ y0 ≤ y1 ∧ y1 ≤ 2097152 := by
 unfold lnR; simp only [Bool.and_eq_true, decide_eq_true_eq]; omega
open Go.RowKit
def fO (a b : Vec) : Vec := eu (a.1 * b.1 - a.2.1 * b.2.1) (a.1 * b.2.1 + a.2.1 * b.1) (a.2.2 * b.2.2)
def bN (h m : Int) : Vec := fO (cS h) (cS m)
def db (x y d : Int) : Bool := decide (1 ≤ d) && (decide (d ≤ 67108864) && (decide (-d ≤ x) && (decide (x ≤ d) && (decide (-d ≤ y) && (decide (y ≤ d) && decide (x * x + y * y = d * d))))))
theorem bb {x y d : Int} : db x y d = true ↔ (1 ≤ d ∧ d ≤ 67108864) ∧ (-d ≤ x ∧ x ≤ d) ∧ (-d ≤ y ∧ y ≤ d) ∧ x * x + y * y = d * d := by
 unfold db
 simp only [Bool.and_eq_true, decide_eq_true_eq]
 exact ⟨fun ⟨a, b, c, d, e, f, g⟩ => ⟨⟨a, b⟩, ⟨c, d⟩, ⟨e, f⟩, g⟩, fun ⟨⟨a, b⟩, ⟨c, d⟩, ⟨e, f⟩, g⟩ => ⟨a, b, c, d, e, f, g⟩⟩
theorem sq_le_of {x y d : Int} (hd : 0 ≤ d) (h : x * x + y * y = d * d) : (-d ≤ x ∧ x ≤ d) ∧ -d ≤ y ∧ y ≤ d := by
 have k : ∀ a b : Int, a * a + b * b = d * d → -d ≤ a ∧ a ≤ d := fun a b e => by
  have hb : 0 ≤ b * b := by
   rcases Int.le_total 0 b with q | q
   ·exact Int.mul_nonneg q q
   ·exact Int.mul_nonneg_of_nonpos_of_nonpos q q
  constructor
  ·rcases Int.lt_or_le a (-d) with q | q
   ·have t1 := Int.mul_le_mul_of_nonneg_left (show d ≤ -a by omega) hd
    have t2 := Int.mul_lt_mul_of_pos_right (show d < -a by omega) (show 0 < -a by omega)
    rw [Int.neg_mul_neg] at t2; omega
   ·exact q
  ·rcases Int.lt_or_le d a with q | q
   ·have t1 := Int.mul_le_mul_of_nonneg_left (show d ≤ a by omega) hd
    have t2 := Int.mul_lt_mul_of_pos_right (show d < a by omega) (show 0 < a by omega)
    omega
   ·exact q
 exact ⟨k x y h, k y x (by omega)⟩
theorem tur_ok {a b : Vec} (ha : ey a = true) (hb : ey b = true) : db (fO a b).1 (fO a b).2.1 (fO a b).2.2 = true := by
 obtain ⟨⟨a1, a2⟩, ⟨a3, a4⟩, ⟨a5, a6⟩, a7⟩ := di.1 ha
 obtain ⟨⟨b1, b2⟩, ⟨b3, b4⟩, ⟨b5, b6⟩, b7⟩ := di.1 hb
 unfold fO
 have hd : 0 < a.2.2 * b.2.2 := Int.mul_pos (by omega) (by omega)
 have hD : a.2.2 * b.2.2 ≤ 8065 * 8065 := Int.mul_le_mul a2 b2 (by omega) (by omega)
 obtain ⟨g, hg, e1, e2, e3⟩ := lowV_mul (x := a.1 * b.1 - a.2.1 * b.2.1) (y := a.1 * b.2.1 + a.2.1 * b.1) (show a.2.2 * b.2.2 ≠ 0 by omega)
 have q : (a.1 * b.1 - a.2.1 * b.2.1) * (a.1 * b.1 - a.2.1 * b.2.1) + (a.1 * b.2.1 + a.2.1 * b.1) * (a.1 * b.2.1 + a.2.1 * b.1) = (a.2.2 * b.2.2) * (a.2.2 * b.2.2) := by
  have z1 : (a.1 * b.1 - a.2.1 * b.2.1) * (a.1 * b.1 - a.2.1 * b.2.1) + (a.1 * b.2.1 + a.2.1 * b.1) * (a.1 * b.2.1 + a.2.1 * b.1) = (a.1 * a.1 + a.2.1 * a.2.1) * (b.1 * b.1 + b.2.1 * b.2.1) := by grind
  rw [z1, a7, b7]; grind
 generalize eu (a.1 * b.1 - a.2.1 * b.2.1) (a.1 * b.2.1 + a.2.1 * b.1) (a.2.2 * b.2.2) = v at *
 rw [e1, e2, e3] at q
 rw [e3] at hd hD
 have vp : 0 < v.2.2 := by
  rcases Int.lt_or_le 0 v.2.2 with k | k
  ·exact k
  ·have := Int.mul_nonpos_of_nonpos_of_nonneg k (show 0 ≤ g by omega)
   omega
 have vl : v.2.2 ≤ v.2.2 * g := by
  have := Int.mul_le_mul_of_nonneg_left (show 1 ≤ g by omega) (show 0 ≤ v.2.2 by omega)
  omega
 have s : v.1 * v.1 + v.2.1 * v.2.1 = v.2.2 * v.2.2 := by
  have z : (v.1 * v.1 + v.2.1 * v.2.1) * (g * g) = v.2.2 * v.2.2 * (g * g) := by grind
  exact Int.eq_of_mul_eq_mul_right (show g * g ≠ 0 by have := Int.mul_pos hg hg; omega) z
 have r := sq_le_of (show 0 ≤ v.2.2 by omega) s
 exact bb.2 ⟨⟨by omega, by omega⟩, r.1, r.2, s⟩
theorem beam_ok (h m : Int) : db (bN h m).1 (bN h m).2.1 (bN h m).2.2 = true := tur_ok (gh h) (gh m)
theorem vecOK_B {v : Vec} (h : ey v = true) : db v.1 v.2.1 v.2.2 = true := by
 obtain ⟨a, b, c, d⟩ := di.1 h
 exact bb.2 ⟨by omega, b, c, d⟩
theorem vec_nz {x y d : Int} (h : db x y d = true) : ¬ (x = 0 ∧ y = 0) := fun k => by
 obtain ⟨⟨h1, -⟩, -, -, h⟩ := bb.1 h
 rw [k.1, k.2] at h
 have := Int.mul_pos (show 0 < d by omega) (show 0 < d by omega)
 omega
open Go.RowKit
abbrev Fr2 := Int × Int
theorem eG {a b c d e f : Int} (hb : 0 < b) (hd : 0 < d) (hf : 0 < f) (h1 : a * d ≤ c * b) (h2 : c * f ≤ e * d) : a * f ≤ e * b := by
 have k1 := Int.mul_le_mul_of_nonneg_right h1 (show 0 ≤ f by omega)
 have k2 := Int.mul_le_mul_of_nonneg_right h2 (show 0 ≤ b by omega)
 have e1 : a * d * f = a * f * d := by grind
 have e2 : c * b * f = c * f * b := by grind
 have e3 : e * d * b = e * b * d := by grind
 rw [e1, e2] at k1
 rw [e3] at k2
 exact Int.le_of_mul_le_mul_right (Int.le_trans k1 k2) hd
def mxF (s l : Fr2) : Fr2 := if s.1 * l.2 < l.1 * s.2 then l else s
def mnF (s h : Fr2) : Fr2 := if h.1 * s.2 < s.1 * h.2 then h else s
theorem mxF_pos {s l : Fr2} (hs : 0 < s.2) (hl : 0 < l.2) : 0 < (mxF s l).2 := by unfold mxF; split <;> assumption
theorem mnF_pos {s h : Fr2} (hs : 0 < s.2) (hh : 0 < h.2) : 0 < (mnF s h).2 := by unfold mnF; split <;> assumption
theorem mxF_le {s l : Fr2} {n m : Int} (hs : 0 < s.2) (hl : 0 < l.2) (hm : 0 < m) : (mxF s l).1 * m ≤ n * (mxF s l).2 ↔ s.1 * m ≤ n * s.2 ∧ l.1 * m ≤ n * l.2 := by
 unfold mxF
 split
 ·rename_i h
  exact ⟨fun k => ⟨eG hs hl hm (by omega) k, k⟩, fun k => k.2⟩
 ·rename_i h
  exact ⟨fun k => ⟨k, eG hl hs hm (by omega) k⟩, fun k => k.1⟩
theorem mnF_le {s h : Fr2} {n m : Int} (hs : 0 < s.2) (hh : 0 < h.2) (hm : 0 < m) : n * (mnF s h).2 ≤ (mnF s h).1 * m ↔ n * s.2 ≤ s.1 * m ∧ n * h.2 ≤ h.1 * m := by
 unfold mnF
 split
 ·rename_i g
  exact ⟨fun k => ⟨eG hm hh hs k (by omega), k⟩, fun k => k.2⟩
 ·rename_i g
  exact ⟨fun k => ⟨k, eG hm hs hh k (by omega)⟩, fun k => k.1⟩
def sbL (p d a b : Int) : Fr2 := if d < 0 then (p - b, -d) else (a - p, d)
def sbH (p d a b : Int) : Fr2 := if d < 0 then (p - a, -d) else (b - p, d)
theorem lx {p d a b : Int} (hd : ¬ d = 0) : 0 < (sbL p d a b).2 ∧ 0 < (sbH p d a b).2 := by
 unfold sbL sbH; split <;> exact ⟨by simp only; omega, by simp only; omega⟩
theorem sb_in {p d a b n m : Int} : ((sbL p d a b).1 * m ≤ n * (sbL p d a b).2 ∧ n * (sbH p d a b).2 ≤ (sbH p d a b).1 * m) ↔ (m * a ≤ m * p + n * d ∧ m * p + n * d ≤ m * b) := by
 unfold sbL sbH
 split
 ·simp only
  have e1 : (p - b) * m = m * p - m * b := by grind
  have e2 : (p - a) * m = m * p - m * a := by grind
  have e3 : n * -d = -(n * d) := by grind
  omega
 ·simp only
  have e1 : (a - p) * m = m * a - m * p := by grind
  have e2 : (b - p) * m = m * b - m * p := by grind
  omega
def RayP (px py vx vy x0 y0 x1 y1 n m : Int) : Prop := (m * x0 ≤ m * px + n * vx ∧ m * px + n * vx ≤ m * x1) ∧ m * y0 ≤ m * py + n * vy ∧ m * py + n * vy ≤ m * y1
def bh (s : Fr2 × Fr2) (p d a b : Int) : Fr2 × Fr2 := if d = 0 then s else (mxF s.1 (sbL p d a b), mnF s.2 (sbH p d a b))
def bJ (s : Fr2 × Fr2) (p d a b : Int) : Bool := if d = 0 then decide (a ≤ p) && decide (p ≤ b) else !decide ((bh s p d a b).2.1 * (bh s p d a b).1.2 < (bh s p d a b).1.1 * (bh s p d a b).2.2)
def okS (s : Fr2 × Fr2) : Prop := 0 < s.1.2 ∧ 0 < s.2.2
def inS (s : Fr2 × Fr2) (n m : Int) : Prop := s.1.1 * m ≤ n * s.1.2 ∧ n * s.2.2 ≤ s.2.1 * m
theorem de {s : Fr2 × Fr2} {p d a b : Int} (h : okS s) : okS (bh s p d a b) := by
 unfold bh; split
 ·exact h
 ·rename_i hd
  exact ⟨mxF_pos h.1 (lx hd).1, mnF_pos h.2 (lx hd).2⟩
theorem js {s : Fr2 × Fr2} {p d a b n m : Int} (h : okS s) (hm : 0 < m) (hd0 : d = 0 → a ≤ p ∧ p ≤ b) : inS (bh s p d a b) n m ↔ inS s n m ∧ m * a ≤ m * p + n * d ∧ m * p + n * d ≤ m * b := by
 unfold bh; split
 ·rename_i hd
  have hh := hd0 hd
  have k1 := Int.mul_le_mul_of_nonneg_left hh.1 (show 0 ≤ m by omega)
  have k2 := Int.mul_le_mul_of_nonneg_left hh.2 (show 0 ≤ m by omega)
  rw [hd, Int.mul_zero, Int.add_zero]
  exact ⟨fun k => ⟨k, k1, k2⟩, fun k => k.1⟩
 ·rename_i hd
  unfold inS
  simp only
  rw [mxF_le h.1 (lx hd).1 hm, mnF_le h.2 (lx hd).2 hm, ← sb_in]
  exact ⟨fun k => ⟨⟨k.1.1, k.2.1⟩, k.1.2, k.2.2⟩, fun k => ⟨⟨k.1.1, k.2.1⟩, k.1.2, k.2.2⟩⟩
theorem inS_lo {s : Fr2 × Fr2} (h : okS s) : inS s s.1.1 s.1.2 ↔ ¬ s.2.1 * s.1.2 < s.1.1 * s.2.2 := by
 unfold inS
 exact ⟨fun k => by have := k.2; omega, fun k => ⟨by omega, by omega⟩⟩
theorem inS_ord {s : Fr2 × Fr2} {n m : Int} (h : okS s) (hm : 0 < m) (k : inS s n m) : ¬ s.2.1 * s.1.2 < s.1.1 * s.2.2 := by
 have := eG h.1 hm h.2 k.1 k.2; omega
def dZ : Fr2 × Fr2 := ((0, 1), (8388608, 1))
def thS (px py vx vy x0 y0 x1 y1 : Int) : Fr2 × Fr2 := bh (bh dZ px vx x0 x1) py vy y0 y1
def thB (px py vx vy x0 y0 x1 y1 : Int) : Bool := bJ dZ px vx x0 x1 && bJ (bh dZ px vx x0 x1) py vy y0 y1
theorem c8 : okS dZ := ⟨by decide, by decide⟩
theorem thS_ok {px py vx vy x0 y0 x1 y1 : Int} : okS (thS px py vx vy x0 y0 x1 y1) := de (de c8)
theorem thS0_in {n m : Int} : inS dZ n m ↔ 0 ≤ n ∧ n ≤ 8388608 * m := by
 unfold inS dZ; simp only; omega
theorem ray_far {px py vx vy x0 y0 x1 y1 n m : Int} (hv : ¬ (vx = 0 ∧ vy = 0)) (hx : px - x0 ≤ 8388608 ∧ x1 - px ≤ 8388608) (hy : py - y0 ≤ 8388608 ∧ y1 - py ≤ 8388608) (hn : 0 ≤ n) (hm : 0 < m) (h : RayP px py vx vy x0 y0 x1 y1 n m) : n ≤ 8388608 * m := by
 obtain ⟨⟨h1, h2⟩, h3, h4⟩ := h
 have one : ∀ {p v a b : Int}, ¬ v = 0 → p - a ≤ 8388608 → b - p ≤ 8388608 → m * a ≤ m * p + n * v → m * p + n * v ≤ m * b → n ≤ 8388608 * m := fun {p v a b} hv ha hb k1 k2 => by
  rcases (by omega : 1 ≤ v ∨ v ≤ -1) with h | h
  ·have a1 := Int.mul_le_mul_of_nonneg_left h hn
   have a2 := Int.mul_le_mul_of_nonneg_left hb (show 0 ≤ m by omega)
   have e : m * (b - p) = m * b - m * p := by grind
   omega
  ·have a1 := Int.mul_le_mul_of_nonneg_left h hn
   have a2 := Int.mul_le_mul_of_nonneg_left ha (show 0 ≤ m by omega)
   have e : m * (p - a) = m * p - m * a := by grind
   omega
 by_cases hx0 : vx = 0
 ·exact one (fun h0 => hv ⟨hx0, h0⟩) hy.1 hy.2 h3 h4
 ·exact one hx0 hx.1 hx.2 h1 h2
theorem eO {s : Fr2 × Fr2} {p d a b : Int} (h : okS s) : bJ s p d a b = true ↔ (d = 0 → a ≤ p ∧ p ≤ b) ∧ (¬ d = 0 → inS (bh s p d a b) (bh s p d a b).1.1 (bh s p d a b).1.2) := by
 unfold bJ
 split
 ·rename_i hd
  simp only [Bool.and_eq_true, decide_eq_true_eq]
  exact ⟨fun k => ⟨fun _ => k, fun h => absurd hd h⟩, fun k => k.1 hd⟩
 ·rename_i hd
  rw [inS_lo (de h)]
  simp only [Bool.not_eq_true', decide_eq_false_iff_not]
  exact ⟨fun k => ⟨fun h => absurd h hd, fun _ => k⟩, fun k => k.2 hd⟩
theorem th_in {px py vx vy x0 y0 x1 y1 n m : Int} (hm : 0 < m) (hb : thB px py vx vy x0 y0 x1 y1 = true) : inS (thS px py vx vy x0 y0 x1 y1) n m ↔ (0 ≤ n ∧ n ≤ 8388608 * m) ∧ RayP px py vx vy x0 y0 x1 y1 n m := by
 unfold thB at hb
 rw [Bool.and_eq_true, eO c8, eO (de c8)] at hb
 unfold thS RayP
 rw [js (de c8) hm hb.2.1, js c8 hm hb.1.1, thS0_in]
 exact ⟨fun k => ⟨k.1.1, k.1.2, k.2⟩, fun k => ⟨⟨k.1, k.2.1⟩, k.2.2⟩⟩
theorem th_lo {px py vx vy x0 y0 x1 y1 : Int} (hv : ¬ (vx = 0 ∧ vy = 0)) (hb : thB px py vx vy x0 y0 x1 y1 = true) : inS (thS px py vx vy x0 y0 x1 y1) (thS px py vx vy x0 y0 x1 y1).1.1 (thS px py vx vy x0 y0 x1 y1).1.2 := by
 have hb' := hb
 unfold thB at hb
 rw [Bool.and_eq_true, eO c8, eO (de c8)] at hb
 by_cases hy : vy = 0
 ·have hx : ¬ vx = 0 := fun h => hv ⟨h, hy⟩
  have e : thS px py vx vy x0 y0 x1 y1 = bh dZ px vx x0 x1 := if_pos hy
  rw [e]; exact hb.1.2 hx
 ·exact hb.2.2 hy
theorem th_none {px py vx vy x0 y0 x1 y1 n m : Int} (hm : 0 < m) (hb : thB px py vx vy x0 y0 x1 y1 = false) (hn : 0 ≤ n ∧ n ≤ 8388608 * m) : ¬ RayP px py vx vy x0 y0 x1 y1 n m := fun k => by
 have : thB px py vx vy x0 y0 x1 y1 = true := by
  have hx : vx = 0 → x0 ≤ px ∧ px ≤ x1 := fun h => by
   have k1 := k.1
   rw [h, Int.mul_zero, Int.add_zero] at k1
   exact ⟨Int.le_of_mul_le_mul_left k1.1 hm, Int.le_of_mul_le_mul_left k1.2 hm⟩
  have hy : vy = 0 → y0 ≤ py ∧ py ≤ y1 := fun h => by
   have k1 := k.2
   rw [h, Int.mul_zero, Int.add_zero] at k1
   exact ⟨Int.le_of_mul_le_mul_left k1.1 hm, Int.le_of_mul_le_mul_left k1.2 hm⟩
  have i1 : inS (bh dZ px vx x0 x1) n m := (js c8 hm hx).2 ⟨thS0_in.2 hn, k.1⟩
  have i2 : inS (bh (bh dZ px vx x0 x1) py vy y0 y1) n m := (js (de c8) hm hy).2 ⟨i1, k.2⟩
  unfold thB
  rw [Bool.and_eq_true, eO c8, eO (de c8)]
  exact ⟨⟨hx, fun _ => (inS_lo (de c8)).2 (inS_ord (de c8) hm i1)⟩, hy, fun _ => (inS_lo (de (de c8))).2 (inS_ord (de (de c8)) hm i2)⟩
 rw [hb] at this; cases this
def bfrB (px py vx vy vd hi x0 y0 x1 y1 : Int) : Bool := thB px py vx vy x0 y0 x1 y1 && decide ((thS px py vx vy x0 y0 x1 y1).1.1 * vd < hi * (thS px py vx vy x0 y0 x1 y1).1.2)
def meeB (px py vx vy vd lo hi x0 y0 x1 y1 : Int) : Bool := thB px py vx vy x0 y0 x1 y1 && (decide (lo * (thS px py vx vy x0 y0 x1 y1).2.2 ≤ (thS px py vx vy x0 y0 x1 y1).2.1 * vd) && decide ((thS px py vx vy x0 y0 x1 y1).1.1 * vd ≤ hi * (thS px py vx vy x0 y0 x1 y1).1.2))
theorem mee_iff {px py vx vy vd lo hi x0 y0 x1 y1 : Int} (hd : 0 < vd) (hv : ¬ (vx = 0 ∧ vy = 0)) (hx : px - x0 ≤ 8388608 ∧ x1 - px ≤ 8388608) (hy : py - y0 ≤ 8388608 ∧ y1 - py ≤ 8388608) (h0 : 0 ≤ lo) (hlh : lo ≤ hi) :
  meeB px py vx vy vd lo hi x0 y0 x1 y1 = true ↔ ∃ n m : Int, 0 ≤ n ∧ 0 < m ∧ lo * m ≤ n * vd ∧ n * vd ≤ hi * m ∧ RayP px py vx vy x0 y0 x1 y1 n m := by
 unfold meeB
 rw [Bool.and_eq_true, Bool.and_eq_true, decide_eq_true_eq, decide_eq_true_eq]
 constructor
 ·rintro ⟨hb, h1, h2⟩
  have hl := th_lo hv hb
  have hp : okS (thS px py vx vy x0 y0 x1 y1) := thS_ok
  have hin : ∀ n m : Int, 0 < m → inS (thS px py vx vy x0 y0 x1 y1) n m → (0 ≤ n ∧ n ≤ 8388608 * m) ∧ RayP px py vx vy x0 y0 x1 y1 n m := fun n m hm => (th_in hm hb).1
  generalize thS px py vx vy x0 y0 x1 y1 = s at *
  by_cases hc : lo * s.1.2 ≤ s.1.1 * vd
  ·have k := hin _ _ hp.1 hl
   exact ⟨_, _, k.1.1, hp.1, hc, h2, k.2⟩
  ·have i : inS s lo vd := by
    refine ⟨by omega, ?_⟩
    omega
   have k := hin _ _ hd i
   have m1 := Int.mul_le_mul_of_nonneg_right hlh (show 0 ≤ vd by omega)
   exact ⟨_, _, k.1.1, hd, by omega, by omega, k.2⟩
 ·rintro ⟨n, m, hn, hm, h1, h2, hr⟩
  have hf := ray_far hv hx hy hn hm hr
  have hb : thB px py vx vy x0 y0 x1 y1 = true := by
   cases hq : thB px py vx vy x0 y0 x1 y1
   ·exact absurd hr (th_none hm hq ⟨hn, hf⟩)
   ·rfl
  have hi' := (th_in hm hb).2 ⟨⟨hn, hf⟩, hr⟩
  have hp : okS (thS px py vx vy x0 y0 x1 y1) := thS_ok
  refine ⟨hb, ?_, ?_⟩
  ·generalize thS px py vx vy x0 y0 x1 y1 = s at *
   have k := eG (a := lo) (b := vd) (c := n) (d := m) (e := s.2.1) (f := s.2.2) hd hm hp.2 h1 hi'.2
   exact k
  ·generalize thS px py vx vy x0 y0 x1 y1 = s at *
   have k := eG (a := s.1.1) (b := s.1.2) (c := n) (d := m) (e := hi) (f := vd) hp.1 hm hd hi'.1 h2
   exact k
theorem reach_bd {v D lo hi n m mn mx : Int} (hD : 0 < D) (hm : 0 < m) (h1 : lo * m ≤ n * D) (h2 : n * D ≤ hi * m) (k1 : mn ≤ lo * v) (k2 : mn ≤ hi * v) (k3 : lo * v ≤ mx) (k4 : hi * v ≤ mx) : m * (mn / D) ≤ n * v ∧ n * v ≤ m * (mx / D + 1) := by
 have q1 : D * (mn / D) ≤ mn := Int.mul_ediv_self_le (by omega)
 have q2 : mx < D * (mx / D + 1) := by
  have := Int.lt_mul_ediv_self_add (x := mx) hD
  have e : D * (mx / D + 1) = D * (mx / D) + D := by grind
  omega
 have w1 : m * mn ≤ n * v * D ∧ n * v * D ≤ m * mx := by
  have a1 := Int.mul_le_mul_of_nonneg_left k1 (show 0 ≤ m by omega)
  have a2 := Int.mul_le_mul_of_nonneg_left k2 (show 0 ≤ m by omega)
  have a3 := Int.mul_le_mul_of_nonneg_left k3 (show 0 ≤ m by omega)
  have a4 := Int.mul_le_mul_of_nonneg_left k4 (show 0 ≤ m by omega)
  rcases Int.le_total 0 v with hv | hv
  ·have b1 := Int.mul_le_mul_of_nonneg_right h1 hv
   have b2 := Int.mul_le_mul_of_nonneg_right h2 hv
   have e1 : lo * m * v = m * (lo * v) := by grind
   have e2 : n * D * v = n * v * D := by grind
   have e3 : hi * m * v = m * (hi * v) := by grind
   omega
  ·have b1 := Int.mul_le_mul_of_nonpos_right h1 hv
   have b2 := Int.mul_le_mul_of_nonpos_right h2 hv
   have e1 : lo * m * v = m * (lo * v) := by grind
   have e2 : n * D * v = n * v * D := by grind
   have e3 : hi * m * v = m * (hi * v) := by grind
   omega
 constructor
 ·have a1 := Int.mul_le_mul_of_nonneg_left q1 (show 0 ≤ m by omega)
  have e : m * (D * (mn / D)) = m * (mn / D) * D := by grind
  exact Int.le_of_mul_le_mul_right (show m * (mn / D) * D ≤ n * v * D by omega) hD
 ·have a1 := Int.mul_le_mul_of_nonneg_left (show mx ≤ D * (mx / D + 1) by omega) (show 0 ≤ m by omega)
  have e : m * (D * (mx / D + 1)) = m * (mx / D + 1) * D := by grind
  exact Int.le_of_mul_le_mul_right (show n * v * D ≤ m * (mx / D + 1) * D by omega) hD
theorem met_in {v D lo hi n m mn mx c X0 X1 : Int} (hD : 0 < D) (hm : 0 < m) (h1 : lo * m ≤ n * D) (h2 : n * D ≤ hi * m) (k1 : mn ≤ lo * v) (k2 : mn ≤ hi * v) (k3 : lo * v ≤ mx) (k4 : hi * v ≤ mx)
  (hr : m * (c * 64 - X1) ≤ m * 0 + n * v ∧ m * 0 + n * v ≤ m * (c * 64 + 64 - X0)) : X0 + mn / D ≤ c * 64 + 64 ∧ c * 64 ≤ X1 + mx / D + 1 := by
 have q := reach_bd hD hm h1 h2 k1 k2 k3 k4
 rw [Int.mul_zero, Int.zero_add] at hr
 have a := Int.le_of_mul_le_mul_left (Int.le_trans q.1 hr.2) hm
 have b := Int.le_of_mul_le_mul_left (Int.le_trans hr.1 q.2) hm
 omega
theorem mee_range {X0 Y0 X1 Y1 vx vy vd lo hi cx cy mnx mxx mny mxy : Int} (hd : 0 < vd) (hv : ¬ (vx = 0 ∧ vy = 0)) (hX : -1048576 ≤ X0 ∧ X1 ≤ 1048576 ∧ X0 ≤ X1) (hY : -1048576 ≤ Y0 ∧ Y1 ≤ 1048576 ∧ Y0 ≤ Y1) (hcx : -32768 ≤ cx ∧ cx ≤ 32768) (hcy : -32768 ≤ cy ∧ cy ≤ 32768) (hlo : 0 ≤ lo) (hlh : lo ≤ hi)
  (x1 : mnx ≤ lo * vx) (x2 : mnx ≤ hi * vx) (x3 : lo * vx ≤ mxx) (x4 : hi * vx ≤ mxx) (y1 : mny ≤ lo * vy) (y2 : mny ≤ hi * vy) (y3 : lo * vy ≤ mxy) (y4 : hi * vy ≤ mxy)
  (h : meeB 0 0 vx vy vd lo hi (cx * 64 - X1) (cy * 64 - Y1) (cx * 64 + 64 - X0) (cy * 64 + 64 - Y0) = true) :
  (X0 + mnx / vd ≤ cx * 64 + 64 ∧ cx * 64 ≤ X1 + mxx / vd + 1) ∧ Y0 + mny / vd ≤ cy * 64 + 64 ∧ cy * 64 ≤ Y1 + mxy / vd + 1 := by
 obtain ⟨n, m, hn, hm, h1, h2, hr⟩ := (mee_iff hd hv (by omega) (by omega) hlo hlh).1 h
 exact ⟨met_in hd hm h1 h2 x1 x2 x3 x4 hr.1, met_in hd hm h1 h2 y1 y2 y3 y4 hr.2⟩
open Go.RowKit
def thG (px py vx vy vd x0 y0 x1 y1 : Int) : Bool := lnP px py && (db vx vy vd && lnR x0 y0 x1 y1)
def ef (px py vx vy vd lo hi x0 y0 x1 y1 : Int) : Bool := decide (0 ≤ lo) && (decide (lo ≤ hi) && (decide (hi ≤ 65536) && (thG px py vx vy vd x0 y0 x1 y1 && meeB px py vx vy vd lo hi x0 y0 x1 y1)))
def dF (px py vx vy vd hi x0 y0 x1 y1 : Int) : Bool := decide (0 ≤ hi) && (decide (hi ≤ 65536) && (thG px py vx vy vd x0 y0 x1 y1 && bfrB px py vx vy vd hi x0 y0 x1 y1))
theorem gY {px py vx vy vd x0 y0 x1 y1 : Int} : thG px py vx vy vd x0 y0 x1 y1 = true ↔ lnP px py = true ∧ db vx vy vd = true ∧ lnR x0 y0 x1 y1 = true := by
 unfold thG; simp only [Bool.and_eq_true]
theorem thG_vec {px py vx vy vd x0 y0 x1 y1 : Int} (h : thG px py vx vy vd x0 y0 x1 y1 = true) : 0 < vd ∧ ¬ (vx = 0 ∧ vy = 0) := by
 have h := (gY.1 h).2.1
 exact ⟨by have := (bb.1 h).1; omega, vec_nz h⟩
def bdSp (s : Fr2 × Fr2) : Prop := ((-8388608 ≤ s.1.1 ∧ s.1.1 ≤ 8388608) ∧ 1 ≤ s.1.2 ∧ s.1.2 ≤ 67108864) ∧ (-8388608 ≤ s.2.1 ∧ s.2.1 ≤ 8388608) ∧ 1 ≤ s.2.2 ∧ s.2.2 ≤ 67108864
def bdF (f : Fr2) : Prop := (-8388608 ≤ f.1 ∧ f.1 ≤ 8388608) ∧ 1 ≤ f.2 ∧ f.2 ≤ 67108864
theorem mxF_bd {s l : Fr2} (hs : bdF s) (hl : bdF l) : bdF (mxF s l) := by unfold mxF; split <;> assumption
theorem mnF_bd {s l : Fr2} (hs : bdF s) (hl : bdF l) : bdF (mnF s l) := by unfold mnF; split <;> assumption
theorem sb_bd {p d a b : Int} (hp : -2097152 ≤ p ∧ p ≤ 2097152) (ha : -2097152 ≤ a ∧ a ≤ 2097152) (hb : -2097152 ≤ b ∧ b ≤ 2097152) (hd : -67108864 ≤ d ∧ d ≤ 67108864) (h0 : ¬ d = 0) : bdF (sbL p d a b) ∧ bdF (sbH p d a b) := by
 unfold sbL sbH bdF; split <;> (simp only; omega)
theorem slab_bd {s : Fr2 × Fr2} {p d a b : Int} (h : bdSp s) (hp : -2097152 ≤ p ∧ p ≤ 2097152) (ha : -2097152 ≤ a ∧ a ≤ 2097152) (hb : -2097152 ≤ b ∧ b ≤ 2097152) (hd : -67108864 ≤ d ∧ d ≤ 67108864) : bdSp (bh s p d a b) := by
 unfold bh; split
 ·exact h
 ·rename_i h0
  have k := sb_bd hp ha hb hd h0
  exact ⟨mxF_bd h.1 k.1, mnF_bd h.2 k.2⟩
theorem thS0_bd : bdSp dZ := by unfold bdSp dZ; decide
theorem thS_bd {px py vx vy vd x0 y0 x1 y1 : Int} (h : thG px py vx vy vd x0 y0 x1 y1 = true) : bdSp (bh dZ px vx x0 x1) ∧ bdSp (thS px py vx vy x0 y0 x1 y1) := by
 obtain ⟨h1, h3, h2⟩ := gY.1 h
 have h1 := lnP_iff.1 h1
 have h2 := cX.1 h2
 have h3 := bb.1 h3
 have k := slab_bd (a := x0) (b := x1) (p := px) (d := vx) thS0_bd (by omega) (by omega) (by omega) (by omega)
 exact ⟨k, slab_bd k (by omega) (by omega) (by omega) (by omega)⟩
def eh (a0 b0 a1 b1 x0 y0 x1 y1 : Int) : Bool := lnR a0 b0 a1 b1 && (lnR x0 y0 x1 y1 && lnR (a0 - x1) (b0 - y1) (a1 - x0) (b1 - y0))
def aG (a n d lo hi : Int) : Int := a + (if hi * n < lo * n then hi * n else lo * n) / d
def bH (b n d lo hi : Int) : Int := b + (if lo * n < hi * n then hi * n else lo * n) / d + 1
def co (x0 y0 x1 y1 vx vy vd lo hi : Int) (cx cy : Int) : Bool := eh (cx * 64) (cy * 64) (cx * 64 + 64) (cy * 64 + 64) x0 y0 x1 y1 && ef 0 0 vx vy vd lo hi (cx * 64 - x1) (cy * 64 - y1) (cx * 64 + 64 - x0) (cy * 64 + 64 - y0)
def dh (x0 y0 x1 y1 vx vy vd lo hi : Int) : List (Int × Int) := ct (co x0 y0 x1 y1 vx vy vd lo hi) (spl (aG x0 vx vd lo hi)) (ce (aG x0 vx vd lo hi) (bH x1 vx vd lo hi)) (spl (aG y0 vy vd lo hi)) (ce (aG y0 vy vd lo hi) (bH y1 vy vd lo hi))
theorem gZ {a b n d lo hi : Int} (hd : 0 < d) (hn : -d ≤ n ∧ n ≤ d) (h0 : 0 ≤ lo) (hh : lo ≤ hi) (h1 : hi ≤ 2048) : (a - 2048 ≤ aG a n d lo hi ∧ aG a n d lo hi ≤ a + 2048) ∧ (b - 2047 ≤ bH b n d lo hi ∧ bH b n d lo hi ≤ b + 2049) ∧ (a ≤ b → aG a n d lo hi ≤ bH b n d lo hi) := by
 have k : ∀ m : Int, 0 ≤ m → m ≤ 2048 → -2048 * d ≤ m * n ∧ m * n ≤ 2048 * d := fun m m0 m1 => by
  have a1 := Int.mul_le_mul_of_nonneg_left hn.1 m0
  have a2 := Int.mul_le_mul_of_nonneg_left hn.2 m0
  have a3 := Int.mul_le_mul_of_nonneg_right m1 (show 0 ≤ d by omega)
  have e : m * -d = -(m * d) := Int.mul_neg _ _
  omega
 have q : ∀ m : Int, -2048 * d ≤ m → m ≤ 2048 * d → -2048 ≤ m / d ∧ m / d ≤ 2048 := fun m h h' => ⟨(Int.le_ediv_iff_mul_le hd).2 h, Int.ediv_le_of_le_mul hd h'⟩
 have k1 := k lo h0 (by omega)
 have k2 := k hi (by omega) h1
 have m1 : ∀ m : Int, m = (if hi * n < lo * n then hi * n else lo * n) → -2048 ≤ m / d ∧ m / d ≤ 2048 := fun m e => q m (by rw [e]; split <;> omega) (by rw [e]; split <;> omega)
 have m2 : ∀ m : Int, m = (if lo * n < hi * n then hi * n else lo * n) → -2048 ≤ m / d ∧ m / d ≤ 2048 := fun m e => q m (by rw [e]; split <;> omega) (by rw [e]; split <;> omega)
 have r1 := m1 _ rfl
 have r2 := m2 _ rfl
 have r3 : (if hi * n < lo * n then hi * n else lo * n) / d ≤ (if lo * n < hi * n then hi * n else lo * n) / d := Int.ediv_le_ediv hd (by split <;> split <;> omega)
 unfold aG bH
 omega
theorem jt {a b : Int} (h : -1050624 ≤ a ∧ a ≤ b ∧ b ≤ 1050625) : (-16418 ≤ spl a ∧ spl a ≤ 16416) ∧ (-16417 ≤ sph b ∧ sph b ≤ 16416) ∧ spl a ≤ sph b ∧ spl a + (ce a b : Int) = sph b + 1 ∧ 1 ≤ ce a b ∧ ce a b ≤ 32900 := by
 unfold ce spl sph; omega
theorem swp_range {x0 y0 x1 y1 vx vy vd lo hi cx cy : Int} (hx : -1048576 ≤ x0 ∧ x0 ≤ x1 ∧ x1 ≤ 1048576) (hy : -1048576 ≤ y0 ∧ y0 ≤ y1 ∧ y1 ≤ 1048576) (h : co x0 y0 x1 y1 vx vy vd lo hi cx cy = true) :
  (aG x0 vx vd lo hi ≤ cx * 64 + 64 ∧ cx * 64 ≤ bH x1 vx vd lo hi) ∧ aG y0 vy vd lo hi ≤ cy * 64 + 64 ∧ cy * 64 ≤ bH y1 vy vd lo hi := by
 unfold co ef at h
 simp only [Bool.and_eq_true, decide_eq_true_eq] at h
 obtain ⟨hm, h0, hl, h6, hg, hmee⟩ := h
 unfold eh at hm
 simp only [Bool.and_eq_true, cX] at hm
 have hv := thG_vec hg
 have k := mee_range (X0 := x0) (Y0 := y0) (X1 := x1) (Y1 := y1) hv.1 hv.2 (by omega) (by omega) (cx := cx) (cy := cy) (by omega) (by omega) h0 hl
  (mnx := if hi * vx < lo * vx then hi * vx else lo * vx) (mxx := if lo * vx < hi * vx then hi * vx else lo * vx) (mny := if hi * vy < lo * vy then hi * vy else lo * vy) (mxy := if lo * vy < hi * vy then hi * vy else lo * vy)
  (by split <;> omega) (by split <;> omega) (by split <;> omega) (by split <;> omega) (by split <;> omega) (by split <;> omega) (by split <;> omega) (by split <;> omega) hmee
 unfold aG bH
 omega
theorem spl_le {a c : Int} : spl a ≤ c ↔ a ≤ c * 64 + 64 := by unfold spl; omega
theorem le_sph {b c : Int} : c ≤ sph b ↔ c * 64 ≤ b := by unfold sph; omega
open Go.RowKit
theorem set_last {H : ac} {a b : ABlk} : (H ++ [a]).set H.length b = H ++ [b] := by
 rw [List.set_append_right _ _ (Nat.le_refl _), Nat.sub_self]; rfl
theorem dX {P : Program} {fn : Func} {H l1 : ac} {b0 b1 : ABlk} {R : AV → ac → Prop} {F : Fr} {e : Exit} (he : e = .ret ∨ e = .normal) (hbel : HBel (H ++ [b0]).length (H ++ [b0])) (hb : b1.bel (H ++ [b0]).length = true) {x : AV} (hx : cN P fn F (H ++ b1 :: l1) = some x) (hp : x.bel 0 = true) (hR : R x (H ++ [b1])) : dp P fn (H ++ [b0]).length R e F (H ++ b1 :: l1) := by
 have h := hbel.put H.length hb
 rw [set_last] at h
 have hl : (H ++ [b1]).length = (H ++ [b0]).length := by rw [List.length_append, List.length_append]; rfl
 have ha : (H ++ [b1]) ++ l1 = H ++ b1 :: l1 := by rw [List.append_assoc]; rfl
 have k : dp P fn (H ++ [b1]).length R e F ((H ++ [b1]) ++ l1) := ai he (by rw [hl]; exact h) (x := x) (by rw [ha]; exact hx) hp hR
 rw [hl, ha] at k; exact k
theorem jR {P : Program} {N n : Nat} {Q : Exit → Fr → ac → Prop} {ops : Array Oper} {id : Nat} {F : Fr} {H : ac} (q : Bool) (hm : P.follows .mixedOrders = true) (reps : List (List Nat)) (hok : iU q false N ops reps = true) (I : Fr → ac → Prop)
  (h1 : ∀ τ ∈ reps, ∀ J : Fr → ac → Prop, (∀ F' H', (∃ σ F2 H2, I F2 H2 ∧ Abs n σ F' H' F2 H2) → J F' H') → AGo P N n q Q [.opsD H.length (dx ops.toList τ), .inv J] F H) (h2 : ∀ F2 H2, I F2 H2 → Q .normal F2 H2) : AW P N n (.region id ops true) Q F H := by
 intro E w a k1 k2 k3 k4 k5
 have key := lR (id := id) (q := q) (Q := ej (fun F' H' => ∃ σ F2 H2, I F2 H2 ∧ Abs n σ F' H' F2 H2) Q) hm reps hok (.inl rfl) (fun τ hτ => h1 τ hτ (fun F' H' => ∃ σ F2 H2, I F2 H2 ∧ Abs n σ F' H' F2 H2) (fun _ _ h => h)) E w a k1 k2 k3 k4 k5
 refine wp_mono key fun e a w hh => ?_
 obtain ⟨E', F', H', hq, l, s, d, f, m⟩ := hh
 cases e with
 | normal =>
  obtain ⟨σ, F2, H2, hi, ab⟩ := hq
  obtain ⟨E2, l2, f2, m2⟩ := ab.emb l.n f m
  exact ⟨E2, F2, H2, h2 F2 H2 hi, l.trans l2, s, d, f2, m2⟩
 | _ => exact ⟨E', F', H', hq, l, s, d, f, m⟩
theorem AcN {P : Program} (q : Bool) {f : FuncId} {fn : Func} {args : List AV} {R : AV → ac → Prop} {H : ac} (hf : P.funcs[f]? = some fn) {c : Code} (h : HBel H.length H → ∀ Q : Exit → Fr → ac → Prop, (∀ F H', dp P fn H.length R .normal F H' → Q .normal F H') → AGo P fn.ntmps H.length q Q [.code c] (argF 0 args) H)
  (hb : fn.body = some c := by rfl) (hm : P.follows .mixedOrders = true := by exact try_mixed) (ha : args.length ≤ fn.ntmps := by exact Nat.le_of_ble_eq_true (by kernel_rfl)) (hc : cZ fn.ntmps q c = true := by kernel_rfl) : ACalls P f args H R :=
 cl hm hf q _ rfl ha (by rw [hb]; exact congrArg some hc) fun hbel Q _ hQ c' hc' => by
  rw [hb] at hc'
  injection hc' with hc'
  subst hc'
  exact h hbel Q hQ
open Go.RowKit
def mkV (b : Bool) (n : Int) : Int := if b = true then n else 0
def thO (px py vx vy vd x0 y0 x1 y1 : Int) : Bool := thG px py vx vy vd x0 y0 x1 y1 && thB px py vx vy x0 y0 x1 y1
def thV (px py vx vy vd x0 y0 x1 y1 : Int) : Fr2 × Fr2 := if thO px py vx vy vd x0 y0 x1 y1 = true then thS px py vx vy x0 y0 x1 y1 else ((0, 0), (0, 0))
theorem thO_t {px py vx vy vd x0 y0 x1 y1 : Int} (h : thO px py vx vy vd x0 y0 x1 y1 = true) : thG px py vx vy vd x0 y0 x1 y1 = true ∧ thB px py vx vy x0 y0 x1 y1 = true := by unfold thO at h; rwa [Bool.and_eq_true] at h
theorem thO_me {px py vx vy vd x0 y0 x1 y1 lo hi : Int} (h : thO px py vx vy vd x0 y0 x1 y1 = false) : ef px py vx vy vd lo hi x0 y0 x1 y1 = false ∧ dF px py vx vy vd hi x0 y0 x1 y1 = false := by
 unfold ef dF meeB bfrB
 unfold thO at h
 cases hg : thG px py vx vy vd x0 y0 x1 y1
 ·simp
 ·rw [hg, Bool.true_and] at h; rw [h]; simp
theorem gk (H : ac) (n : Int) : ACalls Tryz.prog 214 [.int .i64 n] H (fun v H' => v = .bool (cF n 2097152) ∧ H' = H) := by
 refine AcT true Tryz.func214 ?_; intro hbel Q hQ
 refine bi ?_
 refine az (fun h1 => ?_) (fun h1 => ?_)
 ·have h1d := bsT h1
  have g'1 := (jn @h1 @h1d)
  refine aa g'1 ?_
  exact hQ _ _ (aE (.inl rfl) hbel (x := .bool (decide (n ≤ 2097152))) (av Tryz.results214) rfl ⟨by simp [cF, h1d], rfl⟩)
 ·have h1d := bsT h1
  have g'2 := (jn @h1 @h1d)
  refine aa g'2 ?_
  exact hQ _ _ (aE (.inl rfl) hbel (x := .bool false) (av Tryz.results214) rfl ⟨by simp [cF, h1d], rfl⟩)
theorem svpt_c (H : ac) (x : Int) (y : Int) : ACalls Tryz.prog 184 [.agg [.int .i64 x, .int .i64 y]] H (fun v H' => v = .bool (lnP x y) ∧ H' = H) := by
 refine AcT true Tryz.func184 ?_; intro hbel Q hQ
 refine bi ?_
 refine aj (by kernel_rfl) (gk _ x) ?_
 refine bi ?_
 refine az (fun h1 => ?_) (fun h1 => ?_)
 ·have h1d := bsT h1
  have g'3 := (jn @h1 @h1d)
  refine aa g'3 ?_
  refine aj (by kernel_rfl) (gk _ y) ?_
  refine aa g'3 ?_
  exact hQ _ _ (ai (.inl rfl) hbel (x := .bool (cF y 2097152)) (av Tryz.results184) rfl ⟨by simp [lnP, h1d], rfl⟩)
 ·have h1d := bsT h1
  have g'4 := (jn @h1 @h1d)
  refine aa g'4 ?_
  exact hQ _ _ (ai (.inl rfl) hbel (x := .bool false) (av Tryz.results184) rfl ⟨by simp [lnP, h1d], rfl⟩)
theorem svv_c (H : ac) (x : Int) (y : Int) (d : Int) : ACalls Tryz.prog 221 [.agg [.int .i64 x, .int .i64 y, .int .i64 d]] H (fun v H' => v = .bool (db x y d) ∧ H' = H) := by
 refine AcT true Tryz.func221 ?_; intro hbel Q hQ
 refine bi ?_
 refine az (fun h1 => ?_) (fun h1 => ?_)
 ·have h1d := bsT h1
  have g'5 := (jn @h1 @h1d)
  refine aa g'5 ?_
  refine az (fun h2 => ?_) (fun h2 => ?_)
  ·have h2d := bsT h2
   have g'6 := (jn @h2 (jn @h2d g'5))
   refine aa g'6 ?_
   refine az (fun h3 => ?_) (fun h3 => ?_)
   ·have h3d := bsT h3
    have g'7 := (jn @h3 (jn @h3d g'6))
    refine aa g'7 ?_
    refine az (fun h4 => ?_) (fun h4 => ?_)
    ·have h4d := bsT h4
     have g'8 := (jn @h4 (jn @h4d g'7))
     refine aa g'8 ?_
     refine az (fun h5 => ?_) (fun h5 => ?_)
     ·have h5d := bsT h5
      have g'9 := (jn @h5 (jn @h5d g'8))
      refine aa g'9 ?_
      refine aq (fun h6 => ?_) (fun h6 => ?_)
      ·have h6d := bsT h6
       have g'10 := (jn @h6 (jn @h6d g'9))
       refine aa g'10 ?_
       exact hQ _ _ (ai (.inl rfl) hbel (x := .bool false) (av Tryz.results221) rfl ⟨by first | (refine congrArg AV.bool ?_; rw [Bool.eq_iff_iff, bb, beq_iff_eq]; exact ⟨fun e => ⟨⟨by omega, by omega⟩, ⟨by omega, by omega⟩, ⟨by omega, by omega⟩, e⟩, fun e => e.2.2.2⟩) | (refine congrArg AV.bool ?_; rw [Bool.eq_iff_iff, bb]; exact ⟨fun e => (by cases e), fun k => (by omega)⟩), rfl⟩)
      ·have h6d := bsT h6
       have hm1 := bR (a := x) (b := x) (A := 67108864) (B := 67108864) (by omega) (by omega)
       have hm2 := bR (a := y) (b := y) (A := 67108864) (B := 67108864) (by omega) (by omega)
       have hm3 := bR (a := d) (b := d) (A := 67108864) (B := 67108864) (by omega) (by omega)
       have g'11 := (jn @h6 (jn @h6d g'9))
       refine aa g'11 ?_
       exact hQ _ _ (ai (.inl rfl) hbel (x := .bool (((x * x) + (y * y)) == (d * d))) (av Tryz.results221) rfl ⟨by first | (refine congrArg AV.bool ?_; rw [Bool.eq_iff_iff, bb, beq_iff_eq]; exact ⟨fun e => ⟨⟨by omega, by omega⟩, ⟨by omega, by omega⟩, ⟨by omega, by omega⟩, e⟩, fun e => e.2.2.2⟩) | (refine congrArg AV.bool ?_; rw [Bool.eq_iff_iff, bb]; exact ⟨fun e => (by cases e), fun k => (by omega)⟩), rfl⟩)
     ·have h5d := bsT h5
      have g'12 := (jn @h5 (jn @h5d g'8))
      refine aa g'12 ?_
      exact hQ _ _ (ai (.inl rfl) hbel (x := .bool false) (av Tryz.results221) rfl ⟨by first | (refine congrArg AV.bool ?_; rw [Bool.eq_iff_iff, bb, beq_iff_eq]; exact ⟨fun e => ⟨⟨by omega, by omega⟩, ⟨by omega, by omega⟩, ⟨by omega, by omega⟩, e⟩, fun e => e.2.2.2⟩) | (refine congrArg AV.bool ?_; rw [Bool.eq_iff_iff, bb]; exact ⟨fun e => (by cases e), fun k => (by omega)⟩), rfl⟩)
    ·have h4d := bsT h4
     have g'13 := (jn @h4 (jn @h4d g'7))
     refine aa g'13 ?_
     exact hQ _ _ (ai (.inl rfl) hbel (x := .bool false) (av Tryz.results221) rfl ⟨by first | (refine congrArg AV.bool ?_; rw [Bool.eq_iff_iff, bb, beq_iff_eq]; exact ⟨fun e => ⟨⟨by omega, by omega⟩, ⟨by omega, by omega⟩, ⟨by omega, by omega⟩, e⟩, fun e => e.2.2.2⟩) | (refine congrArg AV.bool ?_; rw [Bool.eq_iff_iff, bb]; exact ⟨fun e => (by cases e), fun k => (by omega)⟩), rfl⟩)
   ·have h3d := bsT h3
    have g'14 := (jn @h3 (jn @h3d g'6))
    refine aa g'14 ?_
    exact hQ _ _ (ai (.inl rfl) hbel (x := .bool false) (av Tryz.results221) rfl ⟨by first | (refine congrArg AV.bool ?_; rw [Bool.eq_iff_iff, bb, beq_iff_eq]; exact ⟨fun e => ⟨⟨by omega, by omega⟩, ⟨by omega, by omega⟩, ⟨by omega, by omega⟩, e⟩, fun e => e.2.2.2⟩) | (refine congrArg AV.bool ?_; rw [Bool.eq_iff_iff, bb]; exact ⟨fun e => (by cases e), fun k => (by omega)⟩), rfl⟩)
  ·have h2d := bsT h2
   have g'15 := (jn @h2 (jn @h2d g'5))
   refine aa g'15 ?_
   exact hQ _ _ (ai (.inl rfl) hbel (x := .bool false) (av Tryz.results221) rfl ⟨by first | (refine congrArg AV.bool ?_; rw [Bool.eq_iff_iff, bb, beq_iff_eq]; exact ⟨fun e => ⟨⟨by omega, by omega⟩, ⟨by omega, by omega⟩, ⟨by omega, by omega⟩, e⟩, fun e => e.2.2.2⟩) | (refine congrArg AV.bool ?_; rw [Bool.eq_iff_iff, bb]; exact ⟨fun e => (by cases e), fun k => (by omega)⟩), rfl⟩)
 ·have h1d := bsT h1
  have g'16 := (jn @h1 @h1d)
  refine aa g'16 ?_
  exact hQ _ _ (ai (.inl rfl) hbel (x := .bool false) (av Tryz.results221) rfl ⟨by first | (refine congrArg AV.bool ?_; rw [Bool.eq_iff_iff, bb, beq_iff_eq]; exact ⟨fun e => ⟨⟨by omega, by omega⟩, ⟨by omega, by omega⟩, ⟨by omega, by omega⟩, e⟩, fun e => e.2.2.2⟩) | (refine congrArg AV.bool ?_; rw [Bool.eq_iff_iff, bb]; exact ⟨fun e => (by cases e), fun k => (by omega)⟩), rfl⟩)
theorem ly (H : ac) (x0 : Int) (y0 : Int) (x1 : Int) (y1 : Int) : ACalls Tryz.prog 185 [.agg [.int .i64 x0, .int .i64 y0, .int .i64 x1, .int .i64 y1]] H (fun v H' => v = .bool (lnR x0 y0 x1 y1) ∧ H' = H) := by
 refine AcT true Tryz.func185 ?_; intro hbel Q hQ
 refine bi ?_
 refine aj (by kernel_rfl) (gk _ x0) ?_
 refine bi ?_
 refine az (fun h1 => ?_) (fun h1 => ?_)
 ·have h1d := bsT h1
  have wx0 := bC.1 h1d
  have g'17 := (jn @h1 @h1d)
  refine aa g'17 ?_
  refine aj (by kernel_rfl) (gk _ y0) ?_
  refine aa g'17 ?_
  refine az (fun h2 => ?_) (fun h2 => ?_)
  ·have h2d := bsT h2
   have wy0 := bC.1 h2d
   have g'18 := (jn @h2 (jn @h2d g'17))
   refine aa g'18 ?_
   refine aj (by kernel_rfl) (gk _ x1) ?_
   refine aa g'18 ?_
   refine az (fun h3 => ?_) (fun h3 => ?_)
   ·have h3d := bsT h3
    have wx1 := bC.1 h3d
    have g'19 := (jn @h3 (jn @h3d g'18))
    refine aa g'19 ?_
    refine aj (by kernel_rfl) (gk _ y1) ?_
    refine aa g'19 ?_
    refine az (fun h4 => ?_) (fun h4 => ?_)
    ·have h4d := bsT h4
     have wy1 := bC.1 h4d
     have g'20 := (jn @h4 (jn @h4d g'19))
     refine aa g'20 ?_
     refine az (fun h5 => ?_) (fun h5 => ?_)
     ·have h5d := bsT h5
      have g'21 := (jn @h5 (jn @h5d g'20))
      refine aa g'21 ?_
      exact hQ _ _ (ai (.inl rfl) hbel (x := .bool (decide (y0 ≤ y1))) (av Tryz.results185) rfl ⟨by first | (refine congrArg AV.bool ?_; rw [Bool.eq_iff_iff, cX, decide_eq_true_eq]; omega) | (refine congrArg AV.bool ?_; rw [Bool.eq_iff_iff, cX]; exact ⟨fun e => (by cases e), fun k => (by omega)⟩), rfl⟩)
     ·have h5d := bsT h5
      have g'22 := (jn @h5 (jn @h5d g'20))
      refine aa g'22 ?_
      exact hQ _ _ (ai (.inl rfl) hbel (x := .bool false) (av Tryz.results185) rfl ⟨by first | (refine congrArg AV.bool ?_; rw [Bool.eq_iff_iff, cX, decide_eq_true_eq]; omega) | (refine congrArg AV.bool ?_; rw [Bool.eq_iff_iff, cX]; exact ⟨fun e => (by cases e), fun k => (by omega)⟩), rfl⟩)
    ·have h4d := bsT h4
     have wy1 : ¬ (-2097152 ≤ y1 ∧ y1 ≤ 2097152) := mt bC.2 (by rw [h4d]; decide)
     have g'23 := (jn @h4 (jn @h4d g'19))
     refine aa g'23 ?_
     exact hQ _ _ (ai (.inl rfl) hbel (x := .bool false) (av Tryz.results185) rfl ⟨by first | (refine congrArg AV.bool ?_; rw [Bool.eq_iff_iff, cX, decide_eq_true_eq]; omega) | (refine congrArg AV.bool ?_; rw [Bool.eq_iff_iff, cX]; exact ⟨fun e => (by cases e), fun k => (by omega)⟩), rfl⟩)
   ·have h3d := bsT h3
    have wx1 : ¬ (-2097152 ≤ x1 ∧ x1 ≤ 2097152) := mt bC.2 (by rw [h3d]; decide)
    have g'24 := (jn @h3 (jn @h3d g'18))
    refine aa g'24 ?_
    exact hQ _ _ (ai (.inl rfl) hbel (x := .bool false) (av Tryz.results185) rfl ⟨by first | (refine congrArg AV.bool ?_; rw [Bool.eq_iff_iff, cX, decide_eq_true_eq]; omega) | (refine congrArg AV.bool ?_; rw [Bool.eq_iff_iff, cX]; exact ⟨fun e => (by cases e), fun k => (by omega)⟩), rfl⟩)
  ·have h2d := bsT h2
   have wy0 : ¬ (-2097152 ≤ y0 ∧ y0 ≤ 2097152) := mt bC.2 (by rw [h2d]; decide)
   have g'25 := (jn @h2 (jn @h2d g'17))
   refine aa g'25 ?_
   exact hQ _ _ (ai (.inl rfl) hbel (x := .bool false) (av Tryz.results185) rfl ⟨by first | (refine congrArg AV.bool ?_; rw [Bool.eq_iff_iff, cX, decide_eq_true_eq]; omega) | (refine congrArg AV.bool ?_; rw [Bool.eq_iff_iff, cX]; exact ⟨fun e => (by cases e), fun k => (by omega)⟩), rfl⟩)
 ·have h1d := bsT h1
  have wx0 : ¬ (-2097152 ≤ x0 ∧ x0 ≤ 2097152) := mt bC.2 (by rw [h1d]; decide)
  have g'26 := (jn @h1 @h1d)
  refine aa g'26 ?_
  exact hQ _ _ (ai (.inl rfl) hbel (x := .bool false) (av Tryz.results185) rfl ⟨by first | (refine congrArg AV.bool ?_; rw [Bool.eq_iff_iff, cX, decide_eq_true_eq]; omega) | (refine congrArg AV.bool ?_; rw [Bool.eq_iff_iff, cX]; exact ⟨fun e => (by cases e), fun k => (by omega)⟩), rfl⟩)
theorem df (H : ac) (p1 : Int) (p2 : Int) (q1 : Int) (q2 : Int) (k1 : -8388608 ≤ p1 ∧ p1 ≤ 8388608) (k2 : 1 ≤ p2 ∧ p2 ≤ 67108864) (k3 : -8388608 ≤ q1 ∧ q1 ≤ 8388608) (k4 : 1 ≤ q2 ∧ q2 ≤ 67108864) : ACalls Tryz.prog 236 [.agg [.int .i64 p1, .int .i64 p2], .agg [.int .i64 q1, .int .i64 q2]] H (fun v H' => v = .bool (decide (p1 * q2 < q1 * p2)) ∧ H' = H) := by
 have hm1 := bR (a := p1) (b := q2) (A := 8388608) (B := 67108864) (by omega) (by omega)
 have hm2 := bR (a := q1) (b := p2) (A := 8388608) (B := 67108864) (by omega) (by omega)
 refine AcT true Tryz.func236 ?_; intro hbel Q hQ
 refine bi ?_
 exact hQ _ _ (ai (.inl rfl) hbel (x := .bool (decide ((p1 * q2) < (q1 * p2)))) (av Tryz.results236) rfl ⟨rfl, rfl⟩)
theorem slab_c (H : ac) (S : Fr2 × Fr2) (p : Int) (d : Int) (a : Int) (b : Int) (hS : bdSp S) (hp : -2097152 ≤ p ∧ p ≤ 2097152) (hd : -67108864 ≤ d ∧ d ≤ 67108864) (ha : -2097152 ≤ a ∧ a ≤ 2097152) (hb : -2097152 ≤ b ∧ b ≤ 2097152) : ACalls Tryz.prog 222 [.ptr (some (H.length, 0)), .int .i64 p, .int .i64 d, .int .i64 a, .int .i64 b] (H ++ [.cells true 0 [.int .i64 S.1.1, .int .i64 S.1.2, .int .i64 S.2.1, .int .i64 S.2.2]]) (fun v H' => v = .bool (bJ S p d a b) ∧ H' = H ++ [.cells true 0 [.int .i64 ((bh S p d a b).1.1), .int .i64 ((bh S p d a b).1.2), .int .i64 ((bh S p d a b).2.1), .int .i64 ((bh S p d a b).2.2)]]) := by
 obtain ⟨⟨hS1, hS2⟩, hS3, hS4⟩ := id hS
 refine AcT true Tryz.func222 ?_; intro hbel Q hQ
 refine bi ?_
 refine aq (fun h1 => ?_) (fun h1 => ?_)
 ·have h1d := bsT h1
  have h1n := bnT h1
  have hd0 : d = 0 := by simpa using h1d
  have g'27 := (jn @h1 (jn @h1n (jn @aT @aS)))
  refine aa g'27 ?_
  refine az (fun h2 => ?_) (fun h2 => ?_)
  ·have h2d := bsT h2
   have g'28 := (jn @h2 (jn @h2d g'27))
   refine aa g'28 ?_
   exact hQ _ _ (dX (b1 := .cells true 0 [.int .i64 S.1.1, .int .i64 S.1.2, .int .i64 S.2.1, .int .i64 S.2.2]) (.inl rfl) hbel (by simp only [ABlk.bel, AV.bels, AV.bel, Bool.true_and]) (x := .bool (decide (p ≤ b))) (av Tryz.results222) rfl ⟨by (try simp only [Int.zero_sub] at *); first | (simp [bJ, bh, hd0, h2d, h1d]; done) | (simp [bJ, bh, mxF, mnF, sbL, sbH, hd0, h2d, h1d]; done) | skip, by (try simp only [Int.zero_sub] at *); first | (simp [bJ, bh, hd0, h2d, h1d]; done) | (simp [bJ, bh, mxF, mnF, sbL, sbH, hd0, h2d, h1d]; done) | skip⟩)
  ·have h2d := bsT h2
   have g'29 := (jn @h2 (jn @h2d g'27))
   refine aa g'29 ?_
   exact hQ _ _ (dX (b1 := .cells true 0 [.int .i64 S.1.1, .int .i64 S.1.2, .int .i64 S.2.1, .int .i64 S.2.2]) (.inl rfl) hbel (by simp only [ABlk.bel, AV.bels, AV.bel, Bool.true_and]) (x := .bool false) (av Tryz.results222) rfl ⟨by (try simp only [Int.zero_sub] at *); first | (simp [bJ, bh, hd0, h2d, h1d]; done) | (simp [bJ, bh, mxF, mnF, sbL, sbH, hd0, h2d, h1d]; done) | skip, by (try simp only [Int.zero_sub] at *); first | (simp [bJ, bh, hd0, h2d, h1d]; done) | (simp [bJ, bh, mxF, mnF, sbL, sbH, hd0, h2d, h1d]; done) | skip⟩)
 ·have h1d := bsT h1
  have h1n := bnT h1
  have hd0 : ¬ d = 0 := by simpa using h1d
  have g'30 := (jn @h1 (jn @h1n (jn @aT @aS)))
  refine aa g'30 ?_
  refine aq (fun h3 => ?_) (fun h3 => ?_)
  ·have h3d := bsT h3
   have g'31 := (jn @h3 (jn @h3d g'30))
   refine aa g'31 ?_
   refine aP (by kernel_rfl) (df _ S.1.1 S.1.2 (p - b) (0 - d) (by omega) (by omega) (by omega) (by omega)) ?_
   refine aa g'31 ?_
   refine aq (fun h4 => ?_) (fun h4 => ?_)
   ·have h4d := bsT h4
    have g'32 := (jn @h4 (jn @h4d g'31))
    refine aa g'32 ?_
    refine aP (by kernel_rfl) (df _ (p - a) (0 - d) S.2.1 S.2.2 (by omega) (by omega) (by omega) (by omega)) ?_
    refine aa g'32 ?_
    refine aq (fun h5 => ?_) (fun h5 => ?_)
    ·have h5d := bsT h5
     have g'33 := (jn @h5 (jn @h5d g'32))
     refine aa g'33 ?_
     refine aP (by kernel_rfl) (df _ (p - a) (0 - d) (p - b) (0 - d) (by omega) (by omega) (by omega) (by omega)) ?_
     refine aa g'33 ?_
     exact hQ _ _ (dX (b1 := .cells true 0 [.int .i64 (p - b), .int .i64 (0 - d), .int .i64 (p - a), .int .i64 (0 - d)]) (.inl rfl) hbel (by simp only [ABlk.bel, AV.bels, AV.bel, Bool.true_and]) (x := .bool (!(decide ((p - a) * (0 - d) < (p - b) * (0 - d))))) (av Tryz.results222) rfl ⟨by (try simp only [Int.zero_sub] at *); first | (simp [bJ, bh, hd0, h3d, h4d, h5d, h1d]; done) | (simp [bJ, bh, mxF, mnF, sbL, sbH, hd0, h3d, h4d, h5d, h1d]; done) | skip, by (try simp only [Int.zero_sub] at *); first | (simp [bJ, bh, hd0, h3d, h4d, h5d, h1d]; done) | (simp [bJ, bh, mxF, mnF, sbL, sbH, hd0, h3d, h4d, h5d, h1d]; done) | skip⟩)
    ·have h5d := bsT h5
     have g'34 := (jn @h5 (jn @h5d g'32))
     refine aa g'34 ?_
     refine aP (by kernel_rfl) (df _ S.2.1 S.2.2 (p - b) (0 - d) (by omega) (by omega) (by omega) (by omega)) ?_
     refine aa g'34 ?_
     exact hQ _ _ (dX (b1 := .cells true 0 [.int .i64 (p - b), .int .i64 (0 - d), .int .i64 S.2.1, .int .i64 S.2.2]) (.inl rfl) hbel (by simp only [ABlk.bel, AV.bels, AV.bel, Bool.true_and]) (x := .bool (!(decide (S.2.1 * (0 - d) < (p - b) * S.2.2)))) (av Tryz.results222) rfl ⟨by (try simp only [Int.zero_sub] at *); first | (simp [bJ, bh, hd0, h3d, h4d, h5d, h1d]; done) | (simp [bJ, bh, mxF, mnF, sbL, sbH, hd0, h3d, h4d, h5d, h1d]; done) | skip, by (try simp only [Int.zero_sub] at *); first | (simp [bJ, bh, hd0, h3d, h4d, h5d, h1d]; done) | (simp [bJ, bh, mxF, mnF, sbL, sbH, hd0, h3d, h4d, h5d, h1d]; done) | skip⟩)
   ·have h4d := bsT h4
    have g'35 := (jn @h4 (jn @h4d g'31))
    refine aa g'35 ?_
    refine aP (by kernel_rfl) (df _ (p - a) (0 - d) S.2.1 S.2.2 (by omega) (by omega) (by omega) (by omega)) ?_
    refine aa g'35 ?_
    refine aq (fun h6 => ?_) (fun h6 => ?_)
    ·have h6d := bsT h6
     have g'36 := (jn @h6 (jn @h6d g'35))
     refine aa g'36 ?_
     refine aP (by kernel_rfl) (df _ (p - a) (0 - d) S.1.1 S.1.2 (by omega) (by omega) (by omega) (by omega)) ?_
     refine aa g'36 ?_
     exact hQ _ _ (dX (b1 := .cells true 0 [.int .i64 S.1.1, .int .i64 S.1.2, .int .i64 (p - a), .int .i64 (0 - d)]) (.inl rfl) hbel (by simp only [ABlk.bel, AV.bels, AV.bel, Bool.true_and]) (x := .bool (!(decide ((p - a) * S.1.2 < S.1.1 * (0 - d))))) (av Tryz.results222) rfl ⟨by (try simp only [Int.zero_sub] at *); first | (simp [bJ, bh, hd0, h3d, h4d, h6d, h1d]; done) | (simp [bJ, bh, mxF, mnF, sbL, sbH, hd0, h3d, h4d, h6d, h1d]; done) | skip, by (try simp only [Int.zero_sub] at *); first | (simp [bJ, bh, hd0, h3d, h4d, h6d, h1d]; done) | (simp [bJ, bh, mxF, mnF, sbL, sbH, hd0, h3d, h4d, h6d, h1d]; done) | skip⟩)
    ·have h6d := bsT h6
     have g'37 := (jn @h6 (jn @h6d g'35))
     refine aa g'37 ?_
     refine aP (by kernel_rfl) (df _ S.2.1 S.2.2 S.1.1 S.1.2 (by omega) (by omega) (by omega) (by omega)) ?_
     refine aa g'37 ?_
     exact hQ _ _ (dX (b1 := .cells true 0 [.int .i64 S.1.1, .int .i64 S.1.2, .int .i64 S.2.1, .int .i64 S.2.2]) (.inl rfl) hbel (by simp only [ABlk.bel, AV.bels, AV.bel, Bool.true_and]) (x := .bool (!(decide (S.2.1 * S.1.2 < S.1.1 * S.2.2)))) (av Tryz.results222) rfl ⟨by (try simp only [Int.zero_sub] at *); first | (simp [bJ, bh, hd0, h3d, h4d, h6d, h1d]; done) | (simp [bJ, bh, mxF, mnF, sbL, sbH, hd0, h3d, h4d, h6d, h1d]; done) | skip, by (try simp only [Int.zero_sub] at *); first | (simp [bJ, bh, hd0, h3d, h4d, h6d, h1d]; done) | (simp [bJ, bh, mxF, mnF, sbL, sbH, hd0, h3d, h4d, h6d, h1d]; done) | skip⟩)
  ·have h3d := bsT h3
   have g'38 := (jn @h3 (jn @h3d g'30))
   refine aa g'38 ?_
   refine aP (by kernel_rfl) (df _ S.1.1 S.1.2 (a - p) d (by omega) (by omega) (by omega) (by omega)) ?_
   refine aa g'38 ?_
   refine aq (fun h7 => ?_) (fun h7 => ?_)
   ·have h7d := bsT h7
    have g'39 := (jn @h7 (jn @h7d g'38))
    refine aa g'39 ?_
    refine aP (by kernel_rfl) (df _ (b - p) d S.2.1 S.2.2 (by omega) (by omega) (by omega) (by omega)) ?_
    refine aa g'39 ?_
    refine aq (fun h8 => ?_) (fun h8 => ?_)
    ·have h8d := bsT h8
     have g'40 := (jn @h8 (jn @h8d g'39))
     refine aa g'40 ?_
     refine aP (by kernel_rfl) (df _ (b - p) d (a - p) d (by omega) (by omega) (by omega) (by omega)) ?_
     refine aa g'40 ?_
     exact hQ _ _ (dX (b1 := .cells true 0 [.int .i64 (a - p), .int .i64 d, .int .i64 (b - p), .int .i64 d]) (.inl rfl) hbel (by simp only [ABlk.bel, AV.bels, AV.bel, Bool.true_and]) (x := .bool (!(decide ((b - p) * d < (a - p) * d)))) (av Tryz.results222) rfl ⟨by (try simp only [Int.zero_sub] at *); first | (simp [bJ, bh, hd0, h3d, h7d, h8d, h1d]; done) | (simp [bJ, bh, mxF, mnF, sbL, sbH, hd0, h3d, h7d, h8d, h1d]; done) | skip, by (try simp only [Int.zero_sub] at *); first | (simp [bJ, bh, hd0, h3d, h7d, h8d, h1d]; done) | (simp [bJ, bh, mxF, mnF, sbL, sbH, hd0, h3d, h7d, h8d, h1d]; done) | skip⟩)
    ·have h8d := bsT h8
     have g'41 := (jn @h8 (jn @h8d g'39))
     refine aa g'41 ?_
     refine aP (by kernel_rfl) (df _ S.2.1 S.2.2 (a - p) d (by omega) (by omega) (by omega) (by omega)) ?_
     refine aa g'41 ?_
     exact hQ _ _ (dX (b1 := .cells true 0 [.int .i64 (a - p), .int .i64 d, .int .i64 S.2.1, .int .i64 S.2.2]) (.inl rfl) hbel (by simp only [ABlk.bel, AV.bels, AV.bel, Bool.true_and]) (x := .bool (!(decide (S.2.1 * d < (a - p) * S.2.2)))) (av Tryz.results222) rfl ⟨by (try simp only [Int.zero_sub] at *); first | (simp [bJ, bh, hd0, h3d, h7d, h8d, h1d]; done) | (simp [bJ, bh, mxF, mnF, sbL, sbH, hd0, h3d, h7d, h8d, h1d]; done) | skip, by (try simp only [Int.zero_sub] at *); first | (simp [bJ, bh, hd0, h3d, h7d, h8d, h1d]; done) | (simp [bJ, bh, mxF, mnF, sbL, sbH, hd0, h3d, h7d, h8d, h1d]; done) | skip⟩)
   ·have h7d := bsT h7
    have g'42 := (jn @h7 (jn @h7d g'38))
    refine aa g'42 ?_
    refine aP (by kernel_rfl) (df _ (b - p) d S.2.1 S.2.2 (by omega) (by omega) (by omega) (by omega)) ?_
    refine aa g'42 ?_
    refine aq (fun h9 => ?_) (fun h9 => ?_)
    ·have h9d := bsT h9
     have g'43 := (jn @h9 (jn @h9d g'42))
     refine aa g'43 ?_
     refine aP (by kernel_rfl) (df _ (b - p) d S.1.1 S.1.2 (by omega) (by omega) (by omega) (by omega)) ?_
     refine aa g'43 ?_
     exact hQ _ _ (dX (b1 := .cells true 0 [.int .i64 S.1.1, .int .i64 S.1.2, .int .i64 (b - p), .int .i64 d]) (.inl rfl) hbel (by simp only [ABlk.bel, AV.bels, AV.bel, Bool.true_and]) (x := .bool (!(decide ((b - p) * S.1.2 < S.1.1 * d)))) (av Tryz.results222) rfl ⟨by (try simp only [Int.zero_sub] at *); first | (simp [bJ, bh, hd0, h3d, h7d, h9d, h1d]; done) | (simp [bJ, bh, mxF, mnF, sbL, sbH, hd0, h3d, h7d, h9d, h1d]; done) | skip, by (try simp only [Int.zero_sub] at *); first | (simp [bJ, bh, hd0, h3d, h7d, h9d, h1d]; done) | (simp [bJ, bh, mxF, mnF, sbL, sbH, hd0, h3d, h7d, h9d, h1d]; done) | skip⟩)
    ·have h9d := bsT h9
     have g'44 := (jn @h9 (jn @h9d g'42))
     refine aa g'44 ?_
     refine aP (by kernel_rfl) (df _ S.2.1 S.2.2 S.1.1 S.1.2 (by omega) (by omega) (by omega) (by omega)) ?_
     refine aa g'44 ?_
     exact hQ _ _ (dX (b1 := .cells true 0 [.int .i64 S.1.1, .int .i64 S.1.2, .int .i64 S.2.1, .int .i64 S.2.2]) (.inl rfl) hbel (by simp only [ABlk.bel, AV.bels, AV.bel, Bool.true_and]) (x := .bool (!(decide (S.2.1 * S.1.2 < S.1.1 * S.2.2)))) (av Tryz.results222) rfl ⟨by (try simp only [Int.zero_sub] at *); first | (simp [bJ, bh, hd0, h3d, h7d, h9d, h1d]; done) | (simp [bJ, bh, mxF, mnF, sbL, sbH, hd0, h3d, h7d, h9d, h1d]; done) | skip, by (try simp only [Int.zero_sub] at *); first | (simp [bJ, bh, hd0, h3d, h7d, h9d, h1d]; done) | (simp [bJ, bh, mxF, mnF, sbL, sbH, hd0, h3d, h7d, h9d, h1d]; done) | skip⟩)
theorem slab4_c (H : ac) (A B C D : ABlk) (S : Fr2 × Fr2) (p d a b : Int) (hS : bdSp S) (hp : -2097152 ≤ p ∧ p ≤ 2097152) (hd : -67108864 ≤ d ∧ d ≤ 67108864) (ha : -2097152 ≤ a ∧ a ≤ 2097152) (hb : -2097152 ≤ b ∧ b ≤ 2097152) :
  ACalls Tryz.prog 222 [.ptr (some (H.length + 4, 0)), .int .i64 p, .int .i64 d, .int .i64 a, .int .i64 b] (H ++ [A, B, C, D, .cells true 0 [.int .i64 S.1.1, .int .i64 S.1.2, .int .i64 S.2.1, .int .i64 S.2.2]]) (fun v H' => v = .bool (bJ S p d a b) ∧ H' = H ++ [A, B, C, D, .cells true 0 [.int .i64 (bh S p d a b).1.1, .int .i64 (bh S p d a b).1.2, .int .i64 (bh S p d a b).2.1, .int .i64 (bh S p d a b).2.2]]) := by
 have h := slab_c (H ++ [A, B, C, D]) S p d a b hS hp hd ha hb
 simpa only [List.append_assoc, List.cons_append, List.nil_append, List.length_append, List.length_cons, List.length_nil, Nat.zero_add, Nat.reduceAdd] using h
theorem pG (H : ac) (px : Int) (py : Int) (vx : Int) (vy : Int) (vd : Int) (x0 : Int) (y0 : Int) (x1 : Int) (y1 : Int) : ACalls Tryz.prog 190 [.agg [.int .i64 px, .int .i64 py], .agg [.int .i64 vx, .int .i64 vy, .int .i64 vd], .agg [.int .i64 x0, .int .i64 y0, .int .i64 x1, .int .i64 y1]] H (fun v H' => v = .tup [.agg [.int .i64 ((thV px py vx vy vd x0 y0 x1 y1).1.1), .int .i64 ((thV px py vx vy vd x0 y0 x1 y1).1.2), .int .i64 ((thV px py vx vy vd x0 y0 x1 y1).2.1), .int .i64 ((thV px py vx vy vd x0 y0 x1 y1).2.2)], .bool (thO px py vx vy vd x0 y0 x1 y1)] ∧ H' = H) := by
 refine AcT true Tryz.func190 ?_; intro hbel Q hQ
 refine bi ?_
 refine aj (by kernel_rfl) (svpt_c _ px py) ?_
 refine bi ?_
 refine az (fun h1 => ?_) (fun h1 => ?_)
 ·have h1d := bsT h1
  have hvP := h1d
  have hvp := lnP_iff.1 h1d
  have g'45 := (jn @h1 @h1d)
  refine aa g'45 ?_
  refine aj (by kernel_rfl) (svv_c _ vx vy vd) ?_
  refine aa g'45 ?_
  refine az (fun h2 => ?_) (fun h2 => ?_)
  ·have h2d := bsT h2
   have hvV := h2d
   have hvv := bb.1 h2d
   have g'46 := (jn @h2 (jn @h2d g'45))
   refine aa g'46 ?_
   refine aj (by kernel_rfl) (ly _ x0 y0 x1 y1) ?_
   refine aa g'46 ?_
   refine aq (fun h3 => ?_) (fun h3 => ?_)
   ·have h3d := bsT h3
    have hfinO : thO px py vx vy vd x0 y0 x1 y1 = false := by simp [thO, thG, h3d]
    have g'47 := (jn @h3 (jn @h3d g'46))
    refine aa g'47 ?_
    exact hQ _ _ (ai (.inl rfl) hbel (x := .tup [.agg [.int .i64 0, .int .i64 0, .int .i64 0, .int .i64 0], .bool false]) (av Tryz.results190) rfl ⟨by unfold thV; rw [hfinO]; rfl, rfl⟩)
   ·have h3d := bsT h3
    have hvr := cX.1 h3d
    have hgT : thG px py vx vy vd x0 y0 x1 y1 = true := gY.2 ⟨hvP, hvV, h3d⟩
    have hb0 := thS0_bd
    have hb1 := (thS_bd hgT).1
    have g'48 := (jn @h3 (jn @h3d g'46))
    refine aa g'48 ?_
    refine aj (by kernel_rfl) (slab4_c _ _ _ _ _ dZ px vx x0 x1 (by assumption) (by omega) (by omega) (by omega) (by omega)) ?_
    refine aa g'48 ?_
    refine az (fun h4 => ?_) (fun h4 => ?_)
    ·have h4d := bsT h4
     have hs1 := h4d
     have g'49 := (jn @h4 (jn @h4d g'48))
     refine aa g'49 ?_
     refine aj (by kernel_rfl) (slab4_c _ _ _ _ _ (bh dZ px vx x0 x1) py vy y0 y1 (by assumption) (by omega) (by omega) (by omega) (by omega)) ?_
     refine aa g'49 ?_
     refine aq (fun h5 => ?_) (fun h5 => ?_)
     ·have h5d := bsT h5
      have hfinO : thO px py vx vy vd x0 y0 x1 y1 = false := by simp [thO, thB, h5d]
      have g'50 := (jn @h5 (jn @h5d g'49))
      refine aa g'50 ?_
      exact hQ _ _ (ai (.inl rfl) hbel (x := .tup [.agg [.int .i64 0, .int .i64 0, .int .i64 0, .int .i64 0], .bool false]) (av Tryz.results190) rfl ⟨by unfold thV; rw [hfinO]; rfl, rfl⟩)
     ·have h5d := bsT h5
      have hfinO : thO px py vx vy vd x0 y0 x1 y1 = true := by unfold thO thB; rw [hgT, hs1, h5d]; rfl
      have g'51 := (jn @h5 (jn @h5d g'49))
      refine aa g'51 ?_
      exact hQ _ _ (ai (.inl rfl) hbel (x := .tup [.agg [.int .i64 ((bh (bh dZ px vx x0 x1) py vy y0 y1).1.1), .int .i64 ((bh (bh dZ px vx x0 x1) py vy y0 y1).1.2), .int .i64 ((bh (bh dZ px vx x0 x1) py vy y0 y1).2.1), .int .i64 ((bh (bh dZ px vx x0 x1) py vy y0 y1).2.2)], .bool true]) (av Tryz.results190) rfl ⟨by unfold thV; rw [hfinO]; rfl, rfl⟩)
    ·have h4d := bsT h4
     have hfinO : thO px py vx vy vd x0 y0 x1 y1 = false := by simp [thO, thB, h4d]
     have g'52 := (jn @h4 (jn @h4d g'48))
     refine aa g'52 ?_
     exact hQ _ _ (ai (.inl rfl) hbel (x := .tup [.agg [.int .i64 0, .int .i64 0, .int .i64 0, .int .i64 0], .bool false]) (av Tryz.results190) rfl ⟨by unfold thV; rw [hfinO]; rfl, rfl⟩)
  ·have h2d := bsT h2
   have hfinO : thO px py vx vy vd x0 y0 x1 y1 = false := by simp [thO, thG, h2d]
   have g'53 := (jn @h2 (jn @h2d g'45))
   refine aa g'53 ?_
   exact hQ _ _ (ai (.inl rfl) hbel (x := .tup [.agg [.int .i64 0, .int .i64 0, .int .i64 0, .int .i64 0], .bool false]) (av Tryz.results190) rfl ⟨by unfold thV; rw [hfinO]; rfl, rfl⟩)
 ·have h1d := bsT h1
  have hfinO : thO px py vx vy vd x0 y0 x1 y1 = false := by simp [thO, thG, h1d]
  have g'54 := (jn @h1 @h1d)
  refine aa g'54 ?_
  exact hQ _ _ (ai (.inl rfl) hbel (x := .tup [.agg [.int .i64 0, .int .i64 0, .int .i64 0, .int .i64 0], .bool false]) (av Tryz.results190) rfl ⟨by unfold thV; rw [hfinO]; rfl, rfl⟩)
theorem pH (H : ac) (px py vx vy vd x0 y0 x1 y1 : Int) (h : thO px py vx vy vd x0 y0 x1 y1 = true) : ACalls Tryz.prog 190 [.agg [.int .i64 px, .int .i64 py], .agg [.int .i64 vx, .int .i64 vy, .int .i64 vd], .agg [.int .i64 x0, .int .i64 y0, .int .i64 x1, .int .i64 y1]] H (fun v H' => v = .tup [.agg [.int .i64 (thS px py vx vy x0 y0 x1 y1).1.1, .int .i64 (thS px py vx vy x0 y0 x1 y1).1.2, .int .i64 (thS px py vx vy x0 y0 x1 y1).2.1, .int .i64 (thS px py vx vy x0 y0 x1 y1).2.2], .bool true] ∧ H' = H) := by
 have q := pG H px py vx vy vd x0 y0 x1 y1
 simp only [thV, h, if_true] at q; exact q
theorem pI (H : ac) (px py vx vy vd x0 y0 x1 y1 : Int) (h : thO px py vx vy vd x0 y0 x1 y1 = false) : ACalls Tryz.prog 190 [.agg [.int .i64 px, .int .i64 py], .agg [.int .i64 vx, .int .i64 vy, .int .i64 vd], .agg [.int .i64 x0, .int .i64 y0, .int .i64 x1, .int .i64 y1]] H (fun v H' => v = .tup [.agg [.int .i64 0, .int .i64 0, .int .i64 0, .int .i64 0], .bool false] ∧ H' = H) := by
 have q := pG H px py vx vy vd x0 y0 x1 y1
 simp only [thV, h, if_false, Bool.false_eq_true] at q; exact q
theorem gz (H : ac) (px : Int) (py : Int) (vx : Int) (vy : Int) (vd : Int) (lo : Int) (hi : Int) (x0 : Int) (y0 : Int) (x1 : Int) (y1 : Int) : ACalls Tryz.prog 213 [.agg [.int .i64 px, .int .i64 py], .agg [.int .i64 vx, .int .i64 vy, .int .i64 vd], .int .i64 lo, .int .i64 hi, .agg [.int .i64 x0, .int .i64 y0, .int .i64 x1, .int .i64 y1]] H (fun v H' => v = .bool (ef px py vx vy vd lo hi x0 y0 x1 y1) ∧ H' = H) := by
 refine AcT true Tryz.func213 ?_; intro hbel Q hQ
 refine bi ?_
 refine az (fun h1 => ?_) (fun h1 => ?_)
 ·have h1d := bsT h1
  have g'55 := (jn @h1 @h1d)
  refine aa g'55 ?_
  refine az (fun h2 => ?_) (fun h2 => ?_)
  ·have h2d := bsT h2
   have g'56 := (jn @h2 (jn @h2d g'55))
   refine aa g'56 ?_
   refine aq (fun h3 => ?_) (fun h3 => ?_)
   ·have h3d := bsT h3
    have g'57 := (jn @h3 (jn @h3d g'56))
    refine aa g'57 ?_
    exact hQ _ _ (ai (.inl rfl) hbel (x := .bool false) (av Tryz.results213) rfl ⟨by first | (rw [hfinN]; done) | (refine congrArg AV.bool ?_; rw [Bool.eq_iff_iff]; unfold ef meeB; simp only [Bool.and_eq_true, decide_eq_true_eq]; first | (simp only [hfinG, hfinB, true_and]; omega) | exact ⟨fun e => (by cases e), fun e => (by omega)⟩), rfl⟩)
   ·have h3d := bsT h3
    have g'58 := (jn @h3 (jn @h3d g'56))
    refine aa g'58 ?_
    rcases Bool.eq_false_or_eq_true (thO px py vx vy vd x0 y0 x1 y1) with h4 | h4
    ·have h4d := h4
     have hgT := thO_t h4d
     have hbS := (thS_bd hgT.1).2
     obtain ⟨⟨hb1, hb2⟩, hb3, hb4⟩ := hbS
     have hvT := bb.1 (gY.1 hgT.1).2.1
     have hm1 := bR (a := lo) (b := (thS px py vx vy x0 y0 x1 y1).2.2) (A := 65536) (B := 67108864) (by omega) (by omega)
     have hm2 := bR (a := (thS px py vx vy x0 y0 x1 y1).2.1) (b := vd) (A := 8388608) (B := 67108864) (by omega) (by omega)
     have hm3 := bR (a := (thS px py vx vy x0 y0 x1 y1).1.1) (b := vd) (A := 8388608) (B := 67108864) (by omega) (by omega)
     have hm4 := bR (a := hi) (b := (thS px py vx vy x0 y0 x1 y1).1.2) (A := 65536) (B := 67108864) (by omega) (by omega)
     have hfinG := hgT.1
     have hfinB := hgT.2
     refine aj (by kernel_rfl) (pH _ px py vx vy vd x0 y0 x1 y1 (by assumption)) ?_
     have g'59 := (jn @h4 (jn @h4d g'58))
     refine aa g'59 ?_
     refine az (fun h5 => ?_) (fun h5 => ?_)
     ·have h5d := bsT h5
      have g'60 := (jn @h5 (jn @h5d g'59))
      refine aa g'60 ?_
      exact hQ _ _ (ai (.inl rfl) hbel (x := .bool (decide ((((thS px py vx vy x0 y0 x1 y1).1.1) * vd) ≤ (hi * ((thS px py vx vy x0 y0 x1 y1).1.2))))) (av Tryz.results213) rfl ⟨by first | (rw [hfinN]; done) | (refine congrArg AV.bool ?_; rw [Bool.eq_iff_iff]; unfold ef meeB; simp only [Bool.and_eq_true, decide_eq_true_eq]; first | (simp only [hfinG, hfinB, true_and]; omega) | exact ⟨fun e => (by cases e), fun e => (by omega)⟩), rfl⟩)
     ·have h5d := bsT h5
      have g'61 := (jn @h5 (jn @h5d g'59))
      refine aa g'61 ?_
      exact hQ _ _ (ai (.inl rfl) hbel (x := .bool false) (av Tryz.results213) rfl ⟨by first | (rw [hfinN]; done) | (refine congrArg AV.bool ?_; rw [Bool.eq_iff_iff]; unfold ef meeB; simp only [Bool.and_eq_true, decide_eq_true_eq]; first | (simp only [hfinG, hfinB, true_and]; omega) | exact ⟨fun e => (by cases e), fun e => (by omega)⟩), rfl⟩)
    ·have h4d := h4
     have hfinN := (thO_me (lo := lo) (hi := hi) h4d).1
     refine aj (by kernel_rfl) (pI _ px py vx vy vd x0 y0 x1 y1 (by assumption)) ?_
     have g'62 := (jn @h4 (jn @h4d g'58))
     refine aa g'62 ?_
     exact hQ _ _ (ai (.inl rfl) hbel (x := .bool false) (av Tryz.results213) rfl ⟨by first | (rw [hfinN]; done) | (refine congrArg AV.bool ?_; rw [Bool.eq_iff_iff]; unfold ef meeB; simp only [Bool.and_eq_true, decide_eq_true_eq]; first | (simp only [hfinG, hfinB, true_and]; omega) | exact ⟨fun e => (by cases e), fun e => (by omega)⟩), rfl⟩)
  ·have h2d := bsT h2
   have g'63 := (jn @h2 (jn @h2d g'55))
   refine aa g'63 ?_
   exact hQ _ _ (ai (.inl rfl) hbel (x := .bool false) (av Tryz.results213) rfl ⟨by first | (rw [hfinN]; done) | (refine congrArg AV.bool ?_; rw [Bool.eq_iff_iff]; unfold ef meeB; simp only [Bool.and_eq_true, decide_eq_true_eq]; first | (simp only [hfinG, hfinB, true_and]; omega) | exact ⟨fun e => (by cases e), fun e => (by omega)⟩), rfl⟩)
 ·have h1d := bsT h1
  have g'64 := (jn @h1 @h1d)
  refine aa g'64 ?_
  exact hQ _ _ (ai (.inl rfl) hbel (x := .bool false) (av Tryz.results213) rfl ⟨by first | (rw [hfinN]; done) | (refine congrArg AV.bool ?_; rw [Bool.eq_iff_iff]; unfold ef meeB; simp only [Bool.and_eq_true, decide_eq_true_eq]; first | (simp only [hfinG, hfinB, true_and]; omega) | exact ⟨fun e => (by cases e), fun e => (by omega)⟩), rfl⟩)
theorem dN (H : ac) (px : Int) (py : Int) (vx : Int) (vy : Int) (vd : Int) (hi : Int) (x0 : Int) (y0 : Int) (x1 : Int) (y1 : Int) : ACalls Tryz.prog 197 [.agg [.int .i64 px, .int .i64 py], .agg [.int .i64 vx, .int .i64 vy, .int .i64 vd], .int .i64 hi, .agg [.int .i64 x0, .int .i64 y0, .int .i64 x1, .int .i64 y1]] H (fun v H' => v = .bool (dF px py vx vy vd hi x0 y0 x1 y1) ∧ H' = H) := by
 refine AcT true Tryz.func197 ?_; intro hbel Q hQ
 refine bi ?_
 refine az (fun h1 => ?_) (fun h1 => ?_)
 ·have h1d := bsT h1
  have g'65 := (jn @h1 @h1d)
  refine aa g'65 ?_
  refine aq (fun h2 => ?_) (fun h2 => ?_)
  ·have h2d := bsT h2
   have g'66 := (jn @h2 (jn @h2d g'65))
   refine aa g'66 ?_
   exact hQ _ _ (ai (.inl rfl) hbel (x := .bool false) (av Tryz.results197) rfl ⟨by first | (rw [hfinN]; done) | (refine congrArg AV.bool ?_; rw [Bool.eq_iff_iff]; unfold dF bfrB; simp only [Bool.and_eq_true, decide_eq_true_eq]; first | (simp only [hfinG, hfinB, true_and]; omega) | exact ⟨fun e => (by cases e), fun e => (by omega)⟩), rfl⟩)
  ·have h2d := bsT h2
   have g'67 := (jn @h2 (jn @h2d g'65))
   refine aa g'67 ?_
   rcases Bool.eq_false_or_eq_true (thO px py vx vy vd x0 y0 x1 y1) with h3 | h3
   ·have h3d := h3
    have hgT := thO_t h3d
    have hbS := (thS_bd hgT.1).2
    obtain ⟨⟨hb1, hb2⟩, hb3, hb4⟩ := hbS
    have hvT := bb.1 (gY.1 hgT.1).2.1
    have hm3 := bR (a := (thS px py vx vy x0 y0 x1 y1).1.1) (b := vd) (A := 8388608) (B := 67108864) (by omega) (by omega)
    have hm4 := bR (a := hi) (b := (thS px py vx vy x0 y0 x1 y1).1.2) (A := 65536) (B := 67108864) (by omega) (by omega)
    have hfinG := hgT.1
    have hfinB := hgT.2
    refine aj (by kernel_rfl) (pH _ px py vx vy vd x0 y0 x1 y1 (by assumption)) ?_
    have g'68 := (jn @h3 (jn @h3d g'67))
    refine aa g'68 ?_
    exact hQ _ _ (ai (.inl rfl) hbel (x := .bool (decide ((((thS px py vx vy x0 y0 x1 y1).1.1) * vd) < (hi * ((thS px py vx vy x0 y0 x1 y1).1.2))))) (av Tryz.results197) rfl ⟨by first | (rw [hfinN]; done) | (refine congrArg AV.bool ?_; rw [Bool.eq_iff_iff]; unfold dF bfrB; simp only [Bool.and_eq_true, decide_eq_true_eq]; first | (simp only [hfinG, hfinB, true_and]; omega) | exact ⟨fun e => (by cases e), fun e => (by omega)⟩), rfl⟩)
   ·have h3d := h3
    have hfinN := (thO_me (lo := 0) (hi := hi) h3d).2
    refine aj (by kernel_rfl) (pI _ px py vx vy vd x0 y0 x1 y1 (by assumption)) ?_
    have g'69 := (jn @h3 (jn @h3d g'67))
    refine aa g'69 ?_
    exact hQ _ _ (ai (.inl rfl) hbel (x := .bool false) (av Tryz.results197) rfl ⟨by first | (rw [hfinN]; done) | (refine congrArg AV.bool ?_; rw [Bool.eq_iff_iff]; unfold dF bfrB; simp only [Bool.and_eq_true, decide_eq_true_eq]; first | (simp only [hfinG, hfinB, true_and]; omega) | exact ⟨fun e => (by cases e), fun e => (by omega)⟩), rfl⟩)
 ·have h1d := bsT h1
  have g'70 := (jn @h1 @h1d)
  refine aa g'70 ?_
  exact hQ _ _ (ai (.inl rfl) hbel (x := .bool false) (av Tryz.results197) rfl ⟨by first | (rw [hfinN]; done) | (refine congrArg AV.bool ?_; rw [Bool.eq_iff_iff]; unfold dF bfrB; simp only [Bool.and_eq_true, decide_eq_true_eq]; first | (simp only [hfinG, hfinB, true_and]; omega) | exact ⟨fun e => (by cases e), fun e => (by omega)⟩), rfl⟩)
theorem kf (H : ac) (a0 : Int) (b0 : Int) (a1 : Int) (b1 : Int) (x0 : Int) (y0 : Int) (x1 : Int) (y1 : Int) (kba0 : -1099511627776 ≤ a0 ∧ a0 ≤ 1099511627776) (kbb0 : -1099511627776 ≤ b0 ∧ b0 ≤ 1099511627776) (kba1 : -1099511627776 ≤ a1 ∧ a1 ≤ 1099511627776) (kbb1 : -1099511627776 ≤ b1 ∧ b1 ≤ 1099511627776) (kbx0 : -1099511627776 ≤ x0 ∧ x0 ≤ 1099511627776) (kby0 : -1099511627776 ≤ y0 ∧ y0 ≤ 1099511627776) (kbx1 : -1099511627776 ≤ x1 ∧ x1 ≤ 1099511627776) (kby1 : -1099511627776 ≤ y1 ∧ y1 ≤ 1099511627776) : ACalls Tryz.prog 212 [.agg [.int .i64 a0, .int .i64 b0, .int .i64 a1, .int .i64 b1], .agg [.int .i64 x0, .int .i64 y0, .int .i64 x1, .int .i64 y1]] H (fun v H' => v = .tup [.agg [.int .i64 (mkV (eh a0 b0 a1 b1 x0 y0 x1 y1) (a0 - x1)), .int .i64 (mkV (eh a0 b0 a1 b1 x0 y0 x1 y1) (b0 - y1)), .int .i64 (mkV (eh a0 b0 a1 b1 x0 y0 x1 y1) (a1 - x0)), .int .i64 (mkV (eh a0 b0 a1 b1 x0 y0 x1 y1) (b1 - y0))], .bool (eh a0 b0 a1 b1 x0 y0 x1 y1)] ∧ H' = H) := by
 refine AcT true Tryz.func212 ?_; intro hbel Q hQ
 refine bi ?_
 refine aj (by kernel_rfl) (ly _ a0 b0 a1 b1) ?_
 refine bi ?_
 refine az (fun h1 => ?_) (fun h1 => ?_)
 ·have h1d := bsT h1
  have g'71 := (jn @h1 @h1d)
  refine aa g'71 ?_
  refine aj (by kernel_rfl) (ly _ x0 y0 x1 y1) ?_
  refine aa g'71 ?_
  refine az (fun h2 => ?_) (fun h2 => ?_)
  ·have h2d := bsT h2
   have g'72 := (jn @h2 (jn @h2d g'71))
   refine aa g'72 ?_
   refine aj (by kernel_rfl) (ly _ (a0 - x1) (b0 - y1) (a1 - x0) (b1 - y0)) ?_
   refine aa g'72 ?_
   refine aq (fun h3 => ?_) (fun h3 => ?_)
   ·have h3d := bsT h3
    have g'73 := (jn @h3 (jn @h3d g'72))
    refine aa g'73 ?_
    exact hQ _ _ (ai (.inl rfl) hbel (x := .tup [.agg [.int .i64 0, .int .i64 0, .int .i64 0, .int .i64 0], .bool false]) (av Tryz.results212) rfl ⟨by simp [eh, mkV, h1d, h2d, h3d], rfl⟩)
   ·have h3d := bsT h3
    have g'74 := (jn @h3 (jn @h3d g'72))
    refine aa g'74 ?_
    exact hQ _ _ (ai (.inl rfl) hbel (x := .tup [.agg [.int .i64 (a0 - x1), .int .i64 (b0 - y1), .int .i64 (a1 - x0), .int .i64 (b1 - y0)], .bool true]) (av Tryz.results212) rfl ⟨by simp [eh, mkV, h1d, h2d, h3d], rfl⟩)
  ·have h2d := bsT h2
   have g'75 := (jn @h2 (jn @h2d g'71))
   refine aa g'75 ?_
   exact hQ _ _ (ai (.inl rfl) hbel (x := .tup [.agg [.int .i64 0, .int .i64 0, .int .i64 0, .int .i64 0], .bool false]) (av Tryz.results212) rfl ⟨by simp [eh, mkV, h1d, h2d], rfl⟩)
 ·have h1d := bsT h1
  have g'76 := (jn @h1 @h1d)
  refine aa g'76 ?_
  exact hQ _ _ (ai (.inl rfl) hbel (x := .tup [.agg [.int .i64 0, .int .i64 0, .int .i64 0, .int .i64 0], .bool false]) (av Tryz.results212) rfl ⟨by simp [eh, mkV, h1d], rfl⟩)
open Go.RowKit
theorem hvv_c (H : ac) (vx : Int) (vy : Int) (vd : Int) : ACalls Tryz.prog 192 [.agg [.int .i64 vx, .int .i64 vy, .int .i64 vd]] H (fun v H' => v = .bool (db vx vy vd) ∧ H' = H) := by
 refine AcT true Tryz.func192 ?_; intro hbel Q hQ
 refine bi ?_
 refine az (fun h1 => ?_) (fun h1 => ?_)
 ·have h1d := bsT h1
  have g'1 := (jn @h1 @h1d)
  refine aa g'1 ?_
  refine az (fun h2 => ?_) (fun h2 => ?_)
  ·have h2d := bsT h2
   have g'2 := (jn @h2 (jn @h2d g'1))
   refine aa g'2 ?_
   refine az (fun h3 => ?_) (fun h3 => ?_)
   ·have h3d := bsT h3
    have g'3 := (jn @h3 (jn @h3d g'2))
    refine aa g'3 ?_
    refine az (fun h4 => ?_) (fun h4 => ?_)
    ·have h4d := bsT h4
     have g'4 := (jn @h4 (jn @h4d g'3))
     refine aa g'4 ?_
     refine az (fun h5 => ?_) (fun h5 => ?_)
     ·have h5d := bsT h5
      have g'5 := (jn @h5 (jn @h5d g'4))
      refine aa g'5 ?_
      refine aq (fun h6 => ?_) (fun h6 => ?_)
      ·have h6d := bsT h6
       have g'6 := (jn @h6 (jn @h6d g'5))
       refine aa g'6 ?_
       exact hQ _ _ (ai (.inl rfl) hbel (x := .bool false) (av Tryz.results192) rfl ⟨by first | (refine congrArg AV.bool ?_; rw [Bool.eq_iff_iff, bb, beq_iff_eq]; exact ⟨fun e => ⟨⟨by omega, by omega⟩, ⟨by omega, by omega⟩, ⟨by omega, by omega⟩, e⟩, fun e => e.2.2.2⟩) | (refine congrArg AV.bool ?_; rw [Bool.eq_iff_iff, bb]; exact ⟨fun e => (by cases e), fun k => (by omega)⟩), rfl⟩)
      ·have h6d := bsT h6
       have hm1 := bR (a := vx) (b := vx) (A := 67108864) (B := 67108864) (by omega) (by omega)
       have hm2 := bR (a := vy) (b := vy) (A := 67108864) (B := 67108864) (by omega) (by omega)
       have hm3 := bR (a := vd) (b := vd) (A := 67108864) (B := 67108864) (by omega) (by omega)
       have g'7 := (jn @h6 (jn @h6d g'5))
       refine aa g'7 ?_
       exact hQ _ _ (ai (.inl rfl) hbel (x := .bool (((vx * vx) + (vy * vy)) == (vd * vd))) (av Tryz.results192) rfl ⟨by first | (refine congrArg AV.bool ?_; rw [Bool.eq_iff_iff, bb, beq_iff_eq]; exact ⟨fun e => ⟨⟨by omega, by omega⟩, ⟨by omega, by omega⟩, ⟨by omega, by omega⟩, e⟩, fun e => e.2.2.2⟩) | (refine congrArg AV.bool ?_; rw [Bool.eq_iff_iff, bb]; exact ⟨fun e => (by cases e), fun k => (by omega)⟩), rfl⟩)
     ·have h5d := bsT h5
      have g'8 := (jn @h5 (jn @h5d g'4))
      refine aa g'8 ?_
      exact hQ _ _ (ai (.inl rfl) hbel (x := .bool false) (av Tryz.results192) rfl ⟨by first | (refine congrArg AV.bool ?_; rw [Bool.eq_iff_iff, bb, beq_iff_eq]; exact ⟨fun e => ⟨⟨by omega, by omega⟩, ⟨by omega, by omega⟩, ⟨by omega, by omega⟩, e⟩, fun e => e.2.2.2⟩) | (refine congrArg AV.bool ?_; rw [Bool.eq_iff_iff, bb]; exact ⟨fun e => (by cases e), fun k => (by omega)⟩), rfl⟩)
    ·have h4d := bsT h4
     have g'9 := (jn @h4 (jn @h4d g'3))
     refine aa g'9 ?_
     exact hQ _ _ (ai (.inl rfl) hbel (x := .bool false) (av Tryz.results192) rfl ⟨by first | (refine congrArg AV.bool ?_; rw [Bool.eq_iff_iff, bb, beq_iff_eq]; exact ⟨fun e => ⟨⟨by omega, by omega⟩, ⟨by omega, by omega⟩, ⟨by omega, by omega⟩, e⟩, fun e => e.2.2.2⟩) | (refine congrArg AV.bool ?_; rw [Bool.eq_iff_iff, bb]; exact ⟨fun e => (by cases e), fun k => (by omega)⟩), rfl⟩)
   ·have h3d := bsT h3
    have g'10 := (jn @h3 (jn @h3d g'2))
    refine aa g'10 ?_
    exact hQ _ _ (ai (.inl rfl) hbel (x := .bool false) (av Tryz.results192) rfl ⟨by first | (refine congrArg AV.bool ?_; rw [Bool.eq_iff_iff, bb, beq_iff_eq]; exact ⟨fun e => ⟨⟨by omega, by omega⟩, ⟨by omega, by omega⟩, ⟨by omega, by omega⟩, e⟩, fun e => e.2.2.2⟩) | (refine congrArg AV.bool ?_; rw [Bool.eq_iff_iff, bb]; exact ⟨fun e => (by cases e), fun k => (by omega)⟩), rfl⟩)
  ·have h2d := bsT h2
   have g'11 := (jn @h2 (jn @h2d g'1))
   refine aa g'11 ?_
   exact hQ _ _ (ai (.inl rfl) hbel (x := .bool false) (av Tryz.results192) rfl ⟨by first | (refine congrArg AV.bool ?_; rw [Bool.eq_iff_iff, bb, beq_iff_eq]; exact ⟨fun e => ⟨⟨by omega, by omega⟩, ⟨by omega, by omega⟩, ⟨by omega, by omega⟩, e⟩, fun e => e.2.2.2⟩) | (refine congrArg AV.bool ?_; rw [Bool.eq_iff_iff, bb]; exact ⟨fun e => (by cases e), fun k => (by omega)⟩), rfl⟩)
 ·have h1d := bsT h1
  have g'12 := (jn @h1 @h1d)
  refine aa g'12 ?_
  exact hQ _ _ (ai (.inl rfl) hbel (x := .bool false) (av Tryz.results192) rfl ⟨by first | (refine congrArg AV.bool ?_; rw [Bool.eq_iff_iff, bb, beq_iff_eq]; exact ⟨fun e => ⟨⟨by omega, by omega⟩, ⟨by omega, by omega⟩, ⟨by omega, by omega⟩, e⟩, fun e => e.2.2.2⟩) | (refine congrArg AV.bool ?_; rw [Bool.eq_iff_iff, bb]; exact ⟨fun e => (by cases e), fun k => (by omega)⟩), rfl⟩)
theorem hturn_c (H : ac) (a : Vec) (b : Vec) (ha : ey a = true) (hb : ey b = true) : ACalls Tryz.prog 158 [.agg [.int .i64 a.1, .int .i64 a.2.1, .int .i64 a.2.2], .agg [.int .i64 b.1, .int .i64 b.2.1, .int .i64 b.2.2]] H (fun v H' => v = .tup [.agg [.int .i64 ((fO a b).1), .int .i64 ((fO a b).2.1), .int .i64 ((fO a b).2.2)], .int .i64 0] ∧ H' = H) := by
 have hka := di.1 ha
 have hkb := di.1 hb
 have hBa := vecOK_B ha
 have hBb := vecOK_B hb
 have hT := (bb.1 (tur_ok ha hb)).1
 unfold fO at hT
 have hm0 := bR (a := a.1) (b := b.1) (A := 8065) (B := 8065) (by omega) (by omega)
 have hm1 := bR (a := a.2.1) (b := b.2.1) (A := 8065) (B := 8065) (by omega) (by omega)
 have hm2 := bR (a := a.1) (b := b.2.1) (A := 8065) (B := 8065) (by omega) (by omega)
 have hm3 := bR (a := a.2.1) (b := b.1) (A := 8065) (B := 8065) (by omega) (by omega)
 have hm4 := bR (a := a.2.2) (b := b.2.2) (A := 8065) (B := 8065) (by omega) (by omega)
 have hpd : 0 < a.2.2 * b.2.2 := Int.mul_pos (by omega) (by omega)
 have hnr : decide (67108864 < (eu (a.1 * b.1 - a.2.1 * b.2.1) (a.1 * b.2.1 + a.2.1 * b.1) (a.2.2 * b.2.2)).2.2) = false := decide_eq_false (by omega)
 refine AcT true Tryz.func158 ?_; intro hbel Q hQ
 have g'15 := (jn @hBa (jn @hBb @hnr))
 refine aa g'15 ?_
 refine aj (by kernel_rfl) (hvv_c _ a.1 a.2.1 a.2.2) ?_
 refine aa g'15 ?_
 refine aj (by kernel_rfl) (hvv_c _ b.1 b.2.1 b.2.2) ?_
 refine aa g'15 ?_
 refine aj (by kernel_rfl) (low_c _ ((a.1 * b.1) - (a.2.1 * b.2.1)) ((a.1 * b.2.1) + (a.2.1 * b.1)) (a.2.2 * b.2.2) (by omega) (by omega) (by omega) (by omega)) ?_
 refine aa g'15 ?_
 exact hQ _ _ (ai (.inl rfl) hbel (x := .tup [.agg [.int .i64 ((eu ((a.1 * b.1) - (a.2.1 * b.2.1)) ((a.1 * b.2.1) + (a.2.1 * b.1)) (a.2.2 * b.2.2)).1), .int .i64 ((eu ((a.1 * b.1) - (a.2.1 * b.2.1)) ((a.1 * b.2.1) + (a.2.1 * b.1)) (a.2.2 * b.2.2)).2.1), .int .i64 ((eu ((a.1 * b.1) - (a.2.1 * b.2.1)) ((a.1 * b.2.1) + (a.2.1 * b.1)) (a.2.2 * b.2.2)).2.2)], .int .i64 0]) (av Tryz.results158) rfl ⟨rfl, rfl⟩)
theorem hbeam_c (H : ac) (h : Int) (m : Int) : ACalls Tryz.prog 116 [.int .i64 h, .int .i64 m] H (fun v H' => v = .agg [.int .i64 ((bN h m).1), .int .i64 ((bN h m).2.1), .int .i64 ((bN h m).2.2)] ∧ H' = H) := by
 refine AcT true Tryz.func116 ?_; intro hbel Q hQ
 refine bi ?_
 refine aj (by kernel_rfl) (dir_c _ h) ?_
 refine bi ?_
 refine aj (by kernel_rfl) (dir_c _ m) ?_
 refine bi ?_
 refine aj (by kernel_rfl) (hturn_c _ (cS h) (cS m) (gh _) (gh _)) ?_
 refine bi ?_
 exact hQ _ _ (ai (.inl rfl) hbel (x := .agg [.int .i64 ((fO (cS h) (cS m)).1), .int .i64 ((fO (cS h) (cS m)).2.1), .int .i64 ((fO (cS h) (cS m)).2.2)]) (av Tryz.results116) rfl ⟨rfl, rfl⟩)
open Go.RowKit
open Go.RowKit
open Go.RowKit
open Go.RowKit
open Go.RowKit
open Go.RowKit
section
variable (H : ac)
theorem psize_c (x : Int) : ACalls Tryz.prog 70 [.int .i64 x] H (fun v H' => v = .bool (decide (1 ≤ x) && decide (x ≤ 64)) ∧ H' = H) := by
 (refine cl try_mixed Tryz.func70 true _ rfl (Nat.le_of_ble_eq_true (by kernel_rfl)) (by kernel_rfl) ?_; intro hbel Q hQ hQ' c hc; unfold Tryz.f70 at hc; simp only [Option.some.injEq] at hc; subst hc; clear hQ')
 by_cases h1 : 1 ≤ x
 ·simp -implicitDefEqProofs (disch := omega) only [h1, simprocAttr, ax, ay, Function.comp_apply, one1, lenV, af, am, ap, aop, AV.ofValue, AV.ofCell, AV.cells, AV.flat, AV.one, arep, aB, aH, aw]
  exact hQ _ _ (aE (.inl rfl) hbel (x := .bool (decide (x ≤ 64))) (av Tryz.results70) rfl ⟨by simp only [h1, decide_true, Bool.true_and], rfl⟩)
 ·simp -implicitDefEqProofs (disch := omega) only [h1, simprocAttr, ax, ay, Function.comp_apply, one1, lenV, af, am, ap, aop, AV.ofValue, AV.ofCell, AV.cells, AV.flat, AV.one, arep, aB, aH, aw]
  exact hQ _ _ (aE (.inl rfl) hbel (x := .bool false) (av Tryz.results70) rfl ⟨by simp only [h1, decide_false, Bool.false_and], rfl⟩)
set_option maxRecDepth 100000 in
theorem max_c (xs : List Int) (b : Nat) (own : Bool) (cap : Option Nat) (hb : H[b]? = some (.cells own 1 (ints .u8 xs))) (h0 : 0 < xs.length) (hn : xs.length ≤ 1000000) : ACalls Tryz.prog 71 [.sl (some (b, 0)) xs.length cap] H (fun v H' => ∃ m, v = .int .u8 m ∧ m ∈ xs ∧ (∀ x ∈ xs, x ≤ m) ∧ H' = H) := by
 have hbl := getElem?_lt hb
 have hg0 := c7 (k := .u8) (xs := xs) (j := 0) h0
 (refine cl try_mixed Tryz.func71 true _ rfl (Nat.le_of_ble_eq_true (by kernel_rfl)) (by kernel_rfl) ?_; intro hbel Q hQ hQ' c hc; unfold Tryz.f71 at hc; simp only [Option.some.injEq] at hc; subst hc; clear hQ')
 have h1 : ¬ (xs.length : Int) < 1 := by omega
 simp -implicitDefEqProofs (disch := omega) only [h1, hb, hg0, simprocAttr, ax, ay, Function.comp_apply, one1, lenV, af, am, ap, aop, AV.ofValue, AV.ofCell, AV.cells, AV.flat, AV.one, arep, aB, aH, aw]
 repeat refine And.intro (by omega) ?_
 refine go_loop try_mixed (by kernel_rfl) (fun k F Hx => ∃ (i : Nat) (m : Int), i + k = xs.length ∧ 1 ≤ i ∧ m ∈ xs ∧ (∀ j, j < i → gi xs j ≤ m) ∧ F = [(0, .sl (some (b, 0)) xs.length none), (3, .int .u8 m), (4, .int .i64 (i : Nat))] ∧ Hx = H) (xs.length - 1) ?_ ?_
 ·refine ⟨_, _, _, ⟨1, gi xs 0, by omega, by omega, gi_mem h0, fun j hj => by obtain rfl : j = 0 := by omega
                                                                              exact Int.le_refl _, rfl, rfl⟩, Abs.by0 hbel ?_⟩
  exact absT
 ·rintro k F Hx ⟨i, m, hik, hi1, hm, hle, rfl, rfl⟩ J hJ
  by_cases hi : i < xs.length
  ·have hii : (i : Int) < (xs.length : Int) := by omega
   have hg := c7 (k := .u8) (xs := xs) (j := i) hi
   simp -implicitDefEqProofs (disch := omega) only [hii, hb, hg, simprocAttr, ax, ay, Function.comp_apply, one1, lenV, af, am, ap, aop, AV.ofValue, AV.ofCell, AV.cells, AV.flat, AV.one, arep, aB, aH, aw]
   repeat refine And.intro (by omega) ?_
   refine hJ _ _ ⟨k - 1, by omega, _, _, _, ⟨i + 1, if m < gi xs i then gi xs i else m, by omega, by omega, by split; exact gi_mem hi; exact hm, fun j hj => ?_, rfl, rfl⟩, Abs.by0 hbel ?_⟩
   ·by_cases hji : j = i
    ·subst hji; split <;> omega
    ·have := hle j (by omega); split <;> omega
   ·exact absT
  ·have hnn : ¬ ((i : Int) < (xs.length : Int)) := by omega
   simp -implicitDefEqProofs (disch := omega) only [hnn, simprocAttr, ax, ay, Function.comp_apply, one1, lenV, af, am, ap, aop, AV.ofValue, AV.ofCell, AV.cells, AV.flat, AV.one, arep, aB, aH, aw]
   exact hQ _ _ (aE (.inl rfl) hbel (x := .int .u8 m) (av Tryz.results71) rfl ⟨m, rfl, hm, fun x hx => by
    obtain ⟨j, hj, rfl⟩ := List.getElem_of_mem hx
    rw [← gi_lt hj]; exact hle j (by omega), rfl⟩)
theorem kg {W Hh : Int} {xs : List Int} (h : ¬ (1 ≤ W ∧ W ≤ 64 ∧ 1 ≤ Hh ∧ Hh ≤ 64 ∧ (xs.length : Int) = W * Hh)) : b9 W Hh xs = false := vld_false.2 fun v => h ⟨v.w0, v.w1, v.h0, v.h1, v.len⟩
set_option maxRecDepth 100000 in
theorem g3 (W Hh : Int) (s : AV) (xs : List Int) (hs : IsI H .u8 s xs) : ACalls Tryz.prog 40 [.agg [.int .i64 W, .int .i64 Hh, s]] H (fun v H' => v = .bool (b9 W Hh xs) ∧ H' = H) := by
 have hs1 : ∃ a c, s = .sl a xs.length c := by
  rcases hs with ⟨rfl, rfl⟩ | ⟨b, own, cap, rfl, hb⟩
  ·exact ⟨_, _, rfl⟩
  ·exact ⟨_, _, rfl⟩
 obtain ⟨a1, c1, rfl⟩ := hs1
 (refine cl try_mixed Tryz.func40 true _ rfl (Nat.le_of_ble_eq_true (by kernel_rfl)) (by kernel_rfl) ?_; intro hbel Q hQ hQ' c hc; unfold Tryz.f40 at hc; simp only [Option.some.injEq] at hc; subst hc; clear hQ')
 simp -implicitDefEqProofs (disch := omega) only [simprocAttr, ax, ay, Function.comp_apply, one1, lenV, af, am, ap, aop, AV.ofValue, AV.ofCell, AV.cells, AV.flat, AV.one, arep, aB, aH, aw]
 refine aj (by kernel_rfl) (psize_c _ _) ?_
 cases h1 : (decide (1 ≤ W) && decide (W ≤ 64))
 ·simp only [Bool.and_eq_false_iff, decide_eq_false_iff_not] at h1
  simp -implicitDefEqProofs (disch := omega) only [simprocAttr, ax, ay, Function.comp_apply, one1, lenV, af, am, ap, aop, AV.ofValue, AV.ofCell, AV.cells, AV.flat, AV.one, arep, aB, aH, aw]
  exact hQ _ _ (ai (.inl rfl) hbel (x := .bool false) (av Tryz.results40) rfl ⟨by rw [kg (by omega)], rfl⟩)
 simp only [Bool.and_eq_true, decide_eq_true_eq] at h1
 simp -implicitDefEqProofs (disch := omega) only [simprocAttr, ax, ay, Function.comp_apply, one1, lenV, af, am, ap, aop, AV.ofValue, AV.ofCell, AV.cells, AV.flat, AV.one, arep, aB, aH, aw]
 refine aj (by kernel_rfl) (psize_c _ _) ?_
 cases h2 : (decide (1 ≤ Hh) && decide (Hh ≤ 64))
 ·simp only [Bool.and_eq_false_iff, decide_eq_false_iff_not] at h2
  simp -implicitDefEqProofs (disch := omega) only [simprocAttr, ax, ay, Function.comp_apply, one1, lenV, af, am, ap, aop, AV.ofValue, AV.ofCell, AV.cells, AV.flat, AV.one, arep, aB, aH, aw]
  exact hQ _ _ (ai (.inl rfl) hbel (x := .bool false) (av Tryz.results40) rfl ⟨by rw [kg (by omega)], rfl⟩)
 simp only [Bool.and_eq_true, decide_eq_true_eq] at h2
 have hm := gH (a := W) (b := Hh) (by omega) (by omega) (by omega) (by omega)
 have hm1 := Int.mul_le_mul (a := 1) (b := 1) (c := W) (d := Hh) h1.1 h2.1 (by omega) (by omega)
 by_cases h3 : (xs.length : Int) = W * Hh
 ·have h3' : ((xs.length : Int) != W * Hh) = false := by simp [h3]
  have h4 : ((xs.length : Int) == 0) = false := beq_eq_false_iff_ne.2 (by omega)
  obtain ⟨b, own, cap, e1, hb⟩ := hs.resolve_left (fun h => by rw [h.1] at h3; simp at h3; omega)
  injection e1 with e1 _ e1'; subst e1 e1'
  have hb0 := fun l => aD (l := l) hb
  have hbl := getElem?_lt hb
  simp -implicitDefEqProofs (disch := omega) only [h3', h4, simprocAttr, ax, ay, Function.comp_apply, one1, lenV, af, am, ap, aop, AV.ofValue, AV.ofCell, AV.cells, AV.flat, AV.one, arep, aB, aH, aw]
  refine call_of (by kernel_rfl) (max_c _ xs b own c1 (hb0 _) (by omega) (by omega)) ?_
  rintro x H' ⟨m, rfl, hm, hle, rfl⟩
  simp -implicitDefEqProofs (disch := omega) only [simprocAttr, ax, ay, Function.comp_apply, one1, lenV, af, am, ap, aop, AV.ofValue, AV.ofCell, AV.cells, AV.flat, AV.one, arep, aB, aH, aw]
  exact hQ _ _ (ai (.inl rfl) hbel (x := .bool (decide (m ≤ 2))) (av Tryz.results40) rfl ⟨by
   congr 1
   rw [Bool.eq_iff_iff, cg, decide_eq_true_eq]
   exact ⟨fun h => ⟨h1.1, h1.2, h2.1, h2.2, h3, fun v hv => Int.le_trans (hle v hv) h⟩, fun h => h.le m hm⟩, rfl⟩)
 ·have h3' : ((xs.length : Int) != W * Hh) = true := by simp [h3]
  simp -implicitDefEqProofs (disch := omega) only [h3', simprocAttr, ax, ay, Function.comp_apply, one1, lenV, af, am, ap, aop, AV.ofValue, AV.ofCell, AV.cells, AV.flat, AV.one, arep, aB, aH, aw]
  exact hQ _ _ (ai (.inl rfl) hbel (x := .bool false) (av Tryz.results40) rfl ⟨by rw [kg (by omega)], rfl⟩)
end
set_option linter.unusedSimpArgs false
set_option linter.unusedVariables false
open Go.RowKit
section
variable {H : ac} {W Hh x y : Int} {s : AV} {xs : List Int} {g : Nat} {own : Bool} {cap : Option Nat} {n : Nat}
end
set_option linter.unusedSimpArgs false
set_option linter.unusedVariables false
open Go.RowKit
set_option maxRecDepth 100000 in
theorem idx_int (H : ac) (s : AV) (l : List Int) (hs : Sl H 1 s l.length (ints .i64 l)) (hl : l.length ≤ 1000000000) (g : FuncId) (caps : List AV) (hok : dn Tryz.prog g = true) (hc : AV.bels H.length caps = true) (p : Int → Bool) (hf : ∀ j, j < l.length → ACalls Tryz.prog g (.int .i64 (gi l j) :: caps) H (fun v H' => v = .bool (p (gi l j)) ∧ H' = H)) :
  ACalls Tryz.prog 147 [s, .fn g caps] H (fun v H' => v = .int .i64 (ec p l) ∧ H' = H) := by
 obtain ⟨b, own, cap, rfl, hb⟩ := hs
 have hbl := getElem?_lt hb
 have hmv := fun m sel => fj (n := H.length) (m := m) (sel := sel) hc
 (refine cl try_mixed Tryz.func147 true _ rfl (Nat.le_of_ble_eq_true (by kernel_rfl)) (by kernel_rfl) ?_; intro hbel Q hQ hQ' c hc; unfold Tryz.f147 at hc; simp only [Option.some.injEq] at hc; subst hc; clear hQ')
 simp -implicitDefEqProofs (disch := omega) only [simprocAttr, ax, ay, Function.comp_apply, one1, lenV, af, am, ap, aop, AV.ofValue, AV.ofCell, AV.cells, AV.flat, AV.one, arep, aB, aH, aw]
 refine go_loop try_mixed (by kernel_rfl) (fun k F Hx => ∃ i : Nat, i + k = l.length ∧ (l.take i).any p = false ∧ F = [(0, .sl (some (b, 0)) l.length none), (1, .fn g caps), (7, .int .i64 l.length), (8, .int .i64 (i : Nat))] ∧ Hx = H) l.length ?_ ?_
 ·refine ⟨_, _, _, ⟨0, by omega, rfl, rfl, rfl⟩, Abs.by0 hbel ?_⟩
  exact bl @hmv
 ·rintro k F Hx ⟨i, hik, ht, rfl, rfl⟩ J hJ
  by_cases hi : i < l.length
  ·have hii : (i : Int) < (l.length : Int) := by omega
   have q1 := c7 (k := .i64) hi
   have hg := gi_eq hi
   simp -implicitDefEqProofs (disch := omega) only [hii, hb, q1, aK, aJ, simprocAttr, ax, ay, Function.comp_apply, one1, lenV, af, am, ap, aop, AV.ofValue, AV.ofCell, AV.cells, AV.flat, AV.one, arep, aB, aH, aw]
   refine And.intro (by omega) ?_
   refine aj hok (hf i hi) ?_
   have hst := gx (p := p) hi
   rw [ht, Bool.false_or, ← hg] at hst
   cases h1 : p (gi l i)
   ·rw [h1] at hst
    simp -implicitDefEqProofs (disch := omega) only [h1, simprocAttr, ax, ay, Function.comp_apply, one1, lenV, af, am, ap, aop, AV.ofValue, AV.ofCell, AV.cells, AV.flat, AV.one, arep, aB, aH, aw]
    refine hJ _ _ ⟨k - 1, by omega, _, _, _, ⟨i + 1, by omega, hst, rfl, rfl⟩, Abs.by0 hbel ?_⟩
    exact bl @hmv
   ·simp -implicitDefEqProofs (disch := omega) only [h1, simprocAttr, ax, ay, Function.comp_apply, one1, lenV, af, am, ap, aop, AV.ofValue, AV.ofCell, AV.cells, AV.flat, AV.one, arep, aB, aH, aw]
    exact hQ _ _ (aE (.inl rfl) hbel (x := .int .i64 (i : Nat)) (av Tryz.results147) rfl ⟨by rw [gj hi ht (by rw [← hg]; exact h1)], rfl⟩)
  ·have hnn : ¬ ((i : Int) < (l.length : Int)) := by omega
   simp -implicitDefEqProofs (disch := omega) only [hnn, simprocAttr, ax, ay, Function.comp_apply, one1, lenV, af, am, ap, aop, AV.ofValue, AV.ofCell, AV.cells, AV.flat, AV.one, arep, aB, aH, aw]
   rw [List.take_of_length_le (by omega)] at ht
   exact hQ _ _ (aE (.inl rfl) hbel (x := .int .i64 (-1)) (av Tryz.results147) rfl ⟨by rw [ee ht], rfl⟩)
theorem has_int (H : ac) (s : AV) (l : List Int) (hs : Sl H 1 s l.length (ints .i64 l)) (hl : l.length ≤ 1000000000) (g : FuncId) (caps : List AV) (hok : dn Tryz.prog g = true) (hc : AV.bels H.length caps = true) (p : Int → Bool) (hf : ∀ j, j < l.length → ACalls Tryz.prog g (.int .i64 (gi l j) :: caps) H (fun v H' => v = .bool (p (gi l j)) ∧ H' = H)) :
  ACalls Tryz.prog 105 [s, .fn g caps] H (fun v H' => v = .bool (l.any p) ∧ H' = H) := by
 have key := idx_int H s l hs hl g caps hok hc p hf
 obtain ⟨b, own, cap, rfl, hb⟩ := hs
 have hbl := getElem?_lt hb
 (refine cl try_mixed Tryz.func105 true _ rfl (Nat.le_of_ble_eq_true (by kernel_rfl)) (by kernel_rfl) ?_; intro hbel Q hQ hQ' c hc; unfold Tryz.f105 at hc; simp only [Option.some.injEq] at hc; subst hc; clear hQ')
 simp -implicitDefEqProofs (disch := omega) only [simprocAttr, ax, ay, Function.comp_apply, one1, lenV, af, am, ap, aop, AV.ofValue, AV.ofCell, AV.cells, AV.flat, AV.one, arep, aB, aH, aw]
 refine aj (by kernel_rfl) key ?_
 simp -implicitDefEqProofs (disch := omega) only [simprocAttr, ax, ay, Function.comp_apply, one1, lenV, af, am, ap, aop, AV.ofValue, AV.ofCell, AV.cells, AV.flat, AV.one, arep, aB, aH, aw]
 exact hQ _ _ (aE (.inl rfl) hbel (x := .bool (decide (0 ≤ ec p l))) (av Tryz.results105) rfl ⟨by rw [ik], rfl⟩)
open Go.RowKit
set_option maxRecDepth 100000 in
theorem idx_box (H : ac) (s : AV) (l : List T6) (hs : Sl H 6 s l.length (r6 l)) (hl : l.length ≤ 1000000000) (g : FuncId) (caps : List AV) (hok : dn Tryz.prog g = true) (hc : AV.bels H.length caps = true) (p : T6 → Bool) (hf : ∀ j, j < l.length → ACalls Tryz.prog g (.agg [.int .i64 (g61 l j), .int .i64 (g62 l j), .int .i64 (g63 l j), .int .i64 (g64 l j), .int .i64 (g65 l j), .int .i64 (g66 l j)] :: caps) H (fun v H' => v = .bool (p (g61 l j, g62 l j, g63 l j, g64 l j, g65 l j, g66 l j)) ∧ H' = H)) :
  ACalls Tryz.prog 66 [s, .fn g caps] H (fun v H' => v = .int .i64 (ec p l) ∧ H' = H) := by
 obtain ⟨b, own, cap, rfl, hb⟩ := hs
 have hbl := getElem?_lt hb
 have hmv := fun m sel => fj (n := H.length) (m := m) (sel := sel) hc
 (refine cl try_mixed Tryz.func66 true _ rfl (Nat.le_of_ble_eq_true (by kernel_rfl)) (by kernel_rfl) ?_; intro hbel Q hQ hQ' c hc; unfold Tryz.f66 at hc; simp only [Option.some.injEq] at hc; subst hc; clear hQ')
 simp -implicitDefEqProofs (disch := omega) only [simprocAttr, ax, ay, Function.comp_apply, one1, lenV, af, am, ap, aop, AV.ofValue, AV.ofCell, AV.cells, AV.flat, AV.one, arep, aB, aH, aw]
 refine go_loop try_mixed (by kernel_rfl) (fun k F Hx => ∃ i : Nat, i + k = l.length ∧ (l.take i).any p = false ∧ F = [(0, .sl (some (b, 0)) l.length none), (1, .fn g caps), (7, .int .i64 l.length), (8, .int .i64 (i : Nat))] ∧ Hx = H) l.length ?_ ?_
 ·refine ⟨_, _, _, ⟨0, by omega, rfl, rfl, rfl⟩, Abs.by0 hbel ?_⟩
  exact bl @hmv
 ·rintro k F Hx ⟨i, hik, ht, rfl, rfl⟩ J hJ
  by_cases hi : i < l.length
  ·have hii : (i : Int) < (l.length : Int) := by omega
   have q1 := cE hi
   have hg := jm hi
   simp -implicitDefEqProofs (disch := omega) only [hii, hb, q1, aL, aY, simprocAttr, ax, ay, Function.comp_apply, one1, lenV, af, am, ap, aop, AV.ofValue, AV.ofCell, AV.cells, AV.flat, AV.one, arep, aB, aH, aw]
   iterate 2 refine And.intro (by omega) ?_
   refine aj hok (hf i hi) ?_
   have hst := gx (p := p) hi
   rw [ht, Bool.false_or, ← hg] at hst
   cases h1 : p (g61 l i, g62 l i, g63 l i, g64 l i, g65 l i, g66 l i)
   ·rw [h1] at hst
    simp -implicitDefEqProofs (disch := omega) only [h1, simprocAttr, ax, ay, Function.comp_apply, one1, lenV, af, am, ap, aop, AV.ofValue, AV.ofCell, AV.cells, AV.flat, AV.one, arep, aB, aH, aw]
    refine hJ _ _ ⟨k - 1, by omega, _, _, _, ⟨i + 1, by omega, hst, rfl, rfl⟩, Abs.by0 hbel ?_⟩
    exact bl @hmv
   ·simp -implicitDefEqProofs (disch := omega) only [h1, simprocAttr, ax, ay, Function.comp_apply, one1, lenV, af, am, ap, aop, AV.ofValue, AV.ofCell, AV.cells, AV.flat, AV.one, arep, aB, aH, aw]
    exact hQ _ _ (aE (.inl rfl) hbel (x := .int .i64 (i : Nat)) (av Tryz.results66) rfl ⟨by rw [gj hi ht (by rw [← hg]; exact h1)], rfl⟩)
  ·have hnn : ¬ ((i : Int) < (l.length : Int)) := by omega
   simp -implicitDefEqProofs (disch := omega) only [hnn, simprocAttr, ax, ay, Function.comp_apply, one1, lenV, af, am, ap, aop, AV.ofValue, AV.ofCell, AV.cells, AV.flat, AV.one, arep, aB, aH, aw]
   rw [List.take_of_length_le (by omega)] at ht
   exact hQ _ _ (aE (.inl rfl) hbel (x := .int .i64 (-1)) (av Tryz.results66) rfl ⟨by rw [ee ht], rfl⟩)
theorem ju (H : ac) (s : AV) (l : List T6) (hs : Sl H 6 s l.length (r6 l)) (hl : l.length ≤ 1000000000) (g : FuncId) (caps : List AV) (hok : dn Tryz.prog g = true) (hc : AV.bels H.length caps = true) (p : T6 → Bool) (hf : ∀ j, j < l.length → ACalls Tryz.prog g (.agg [.int .i64 (g61 l j), .int .i64 (g62 l j), .int .i64 (g63 l j), .int .i64 (g64 l j), .int .i64 (g65 l j), .int .i64 (g66 l j)] :: caps) H (fun v H' => v = .bool (p (g61 l j, g62 l j, g63 l j, g64 l j, g65 l j, g66 l j)) ∧ H' = H)) :
  ACalls Tryz.prog 36 [s, .fn g caps] H (fun v H' => v = .bool (l.any p) ∧ H' = H) := by
 have key := idx_box H s l hs hl g caps hok hc p hf
 obtain ⟨b, own, cap, rfl, hb⟩ := hs
 have hbl := getElem?_lt hb
 (refine cl try_mixed Tryz.func36 true _ rfl (Nat.le_of_ble_eq_true (by kernel_rfl)) (by kernel_rfl) ?_; intro hbel Q hQ hQ' c hc; unfold Tryz.f36 at hc; simp only [Option.some.injEq] at hc; subst hc; clear hQ')
 simp -implicitDefEqProofs (disch := omega) only [simprocAttr, ax, ay, Function.comp_apply, one1, lenV, af, am, ap, aop, AV.ofValue, AV.ofCell, AV.cells, AV.flat, AV.one, arep, aB, aH, aw]
 refine aj (by kernel_rfl) key ?_
 simp -implicitDefEqProofs (disch := omega) only [simprocAttr, ax, ay, Function.comp_apply, one1, lenV, af, am, ap, aop, AV.ofValue, AV.ofCell, AV.cells, AV.flat, AV.one, arep, aB, aH, aw]
 exact hQ _ _ (aE (.inl rfl) hbel (x := .bool (decide (0 ≤ ec p l))) (av Tryz.results36) rfl ⟨by rw [ik], rfl⟩)
open Go.RowKit
set_option maxHeartbeats 4000000
set_option maxRecDepth 100000
theorem small1_c (H : ac) (n : Int) : ACalls Tryz.prog 155 [.int .i64 n] H (fun v H' => v = .bool (offB n) ∧ H' = H) := by
 refine AcT true Tryz.func155 ?_; intro hbel Q hQ
 refine bi ?_
 refine az (fun h1 => ?_) (fun h1 => ?_)
 ·have h1d := bsT h1
  have g'1 := (jn @h1 @h1d)
  refine aa g'1 ?_
  exact hQ _ _ (aE (.inl rfl) hbel (x := .bool (decide (1048576 < n))) (av Tryz.results155) rfl ⟨by simp [offB, h1d], rfl⟩)
 ·have h1d := bsT h1
  have g'2 := (jn @h1 @h1d)
  refine aa g'2 ?_
  exact hQ _ _ (aE (.inl rfl) hbel (x := .bool true) (av Tryz.results155) rfl ⟨by simp [offB, h1d], rfl⟩)
theorem small_c (H : ac) (s : AV) (l : List Int) (hs : Sl H 1 s l.length (ints .i64 l)) (hl : l.length ≤ 1000000) : ACalls Tryz.prog 111 [s] H (fun v H' => v = .bool (!(l.any offB)) ∧ H' = H) := by
 obtain ⟨bs, os, cs, rfl, hbs⟩ := hs
 have hbls := getElem?_lt hbs
 have hb0s := fun l => aD (l := l) hbs
 refine AcT true Tryz.func111 ?_; intro hbel Q hQ
 have g'3 := (jn @hbs @hb0s)
 refine aa g'3 ?_
 refine aj (by kernel_rfl) (has_int _ _ l ⟨_, _, _, rfl, by first | exact hb0s _ | exact hbs⟩ (by omega) _ [] (by kernel_rfl) rfl offB (fun j hj => small1_c _ _)) ?_
 refine aa g'3 ?_
 exact hQ _ _ (aE (.inl rfl) hbel (x := .bool (!(l.any offB))) (av Tryz.results111) rfl ⟨rfl, rfl⟩)
theorem g4 (H : ac) (f : Int) (c : Int) : ACalls Tryz.prog 112 [.agg [.int .i64 f, .int .i64 c]] H (fun v H' => v = .bool (cp f c) ∧ H' = H) := by
 refine AcT true Tryz.func112 ?_; intro hbel Q hQ
 refine bi ?_
 refine az (fun h1 => ?_) (fun h1 => ?_)
 ·have h1d := bsT h1
  have g'4 := (jn @h1 @h1d)
  refine aa g'4 ?_
  refine az (fun h2 => ?_) (fun h2 => ?_)
  ·have h2d := bsT h2
   have g'5 := (jn @h2 (jn @h2d g'4))
   refine aa g'5 ?_
   refine az (fun h3 => ?_) (fun h3 => ?_)
   ·have h3d := bsT h3
    have g'6 := (jn @h3 (jn @h3d g'5))
    refine aa g'6 ?_
    refine az (fun h4 => ?_) (fun h4 => ?_)
    ·have h4d := bsT h4
     have g'7 := (jn @h4 (jn @h4d g'6))
     refine aa g'7 ?_
     refine az (fun h5 => ?_) (fun h5 => ?_)
     ·have h5d := bsT h5
      have h5n := bnT h5
      have g'8 := (jn @h5 (jn @h5n (jn @aT (jn @aS g'7))))
      refine aa g'8 ?_
      exact hQ _ _ (ai (.inl rfl) hbel (x := .bool (decide (c < 256))) (av Tryz.results112) rfl ⟨by first | (simp [cp, h1d, h2d, h3d, h4d, h5d]; done) | (simp [cp, h1d, h2d, h3d, h4d, h5d]; omega), rfl⟩)
     ·have h5d := bsT h5
      have h5n := bnT h5
      have g'9 := (jn @h5 (jn @h5n (jn @aT (jn @aS g'7))))
      refine aa g'9 ?_
      exact hQ _ _ (ai (.inl rfl) hbel (x := .bool true) (av Tryz.results112) rfl ⟨by first | (simp [cp, h1d, h2d, h3d, h4d, h5d]; done) | (simp [cp, h1d, h2d, h3d, h4d, h5d]; omega), rfl⟩)
    ·have h4d := bsT h4
     have g'10 := (jn @h4 (jn @h4d g'6))
     refine aa g'10 ?_
     exact hQ _ _ (ai (.inl rfl) hbel (x := .bool false) (av Tryz.results112) rfl ⟨by first | (simp [cp, h1d, h2d, h3d, h4d]; done) | (simp [cp, h1d, h2d, h3d, h4d]; omega), rfl⟩)
   ·have h3d := bsT h3
    have g'11 := (jn @h3 (jn @h3d g'5))
    refine aa g'11 ?_
    exact hQ _ _ (ai (.inl rfl) hbel (x := .bool false) (av Tryz.results112) rfl ⟨by first | (simp [cp, h1d, h2d, h3d]; done) | (simp [cp, h1d, h2d, h3d]; omega), rfl⟩)
  ·have h2d := bsT h2
   have g'12 := (jn @h2 (jn @h2d g'4))
   refine aa g'12 ?_
   exact hQ _ _ (ai (.inl rfl) hbel (x := .bool false) (av Tryz.results112) rfl ⟨by first | (simp [cp, h1d, h2d]; done) | (simp [cp, h1d, h2d]; omega), rfl⟩)
 ·have h1d := bsT h1
  have g'13 := (jn @h1 @h1d)
  refine aa g'13 ?_
  exact hQ _ _ (ai (.inl rfl) hbel (x := .bool false) (av Tryz.results112) rfl ⟨by first | (simp [cp, h1d]; done) | (simp [cp, h1d]; omega), rfl⟩)
theorem eZ (H : ac) (x0 : Int) (y0 : Int) (x1 : Int) (y1 : Int) (f : Int) (c : Int) : ACalls Tryz.prog 69 [.agg [.int .i64 x0, .int .i64 y0, .int .i64 x1, .int .i64 y1, .int .i64 f, .int .i64 c]] H (fun v H' => v = .agg [.int .i64 f, .int .i64 c] ∧ H' = H) := by
 refine AcT true Tryz.func69 ?_; intro hbel Q hQ
 refine bi ?_
 exact hQ _ _ (ai (.inl rfl) hbel (x := .agg [.int .i64 f, .int .i64 c]) (av Tryz.results69) rfl ⟨rfl, rfl⟩)
theorem eo (H : ac) (x0 : Int) (y0 : Int) (x1 : Int) (y1 : Int) (f : Int) (c : Int) : ACalls Tryz.prog 67 [.agg [.int .i64 x0, .int .i64 y0, .int .i64 x1, .int .i64 y1, .int .i64 f, .int .i64 c]] H (fun v H' => v = .bool (bxB x0 y0 x1 y1 f c) ∧ H' = H) := by
 refine AcT true Tryz.func67 ?_; intro hbel Q hQ
 refine bi ?_
 refine az (fun h1 => ?_) (fun h1 => ?_)
 ·have h1d := bsT h1
  have g'24 := (jn @h1 @h1d)
  refine aa g'24 ?_
  refine az (fun h2 => ?_) (fun h2 => ?_)
  ·have h2d := bsT h2
   have g'25 := (jn @h2 (jn @h2d g'24))
   refine aa g'25 ?_
   refine aj (by kernel_rfl) (small_c _ _ [x0, y0, x1, y1] ⟨_, _, _, by first | rfl | (rw [List.length_append]; done) | (rw [List.length_append]; rfl), by first | rfl | (rw [ah]; rfl) | (rw [ae]; rfl) | (rw [ah, ag]; rfl) | (rw [ae, ag]; rfl)⟩ (by first | decide | omega | simp)) ?_
   refine aa g'25 ?_
   refine az (fun h3 => ?_) (fun h3 => ?_)
   ·have h3d := bsT h3
    have g'26 := (jn @h3 (jn @h3d g'25))
    refine aa g'26 ?_
    refine aj (by kernel_rfl) (eZ _ x0 y0 x1 y1 f c) ?_
    refine aa g'26 ?_
    refine aj (by kernel_rfl) (g4 _ f c) ?_
    refine aa g'26 ?_
    exact hQ _ _ (ai (.inl rfl) hbel (x := .bool (cp f c)) (av Tryz.results67) rfl ⟨by first | (simp [bxB, h1d, h2d, h3d]; done) | (unfold bxB; simp only [h1d, h2d, h3d]; rfl), rfl⟩)
   ·have h3d := bsT h3
    have g'27 := (jn @h3 (jn @h3d g'25))
    refine aa g'27 ?_
    exact hQ _ _ (ai (.inl rfl) hbel (x := .bool false) (av Tryz.results67) rfl ⟨by first | (simp [bxB, h1d, h2d, h3d]; done) | (unfold bxB; simp only [h1d, h2d, h3d]; rfl), rfl⟩)
  ·have h2d := bsT h2
   have g'28 := (jn @h2 (jn @h2d g'24))
   refine aa g'28 ?_
   exact hQ _ _ (ai (.inl rfl) hbel (x := .bool false) (av Tryz.results67) rfl ⟨by first | (simp [bxB, h1d, h2d]; done) | (unfold bxB; simp only [h1d, h2d]; rfl), rfl⟩)
 ·have h1d := bsT h1
  have g'29 := (jn @h1 @h1d)
  refine aa g'29 ?_
  exact hQ _ _ (ai (.inl rfl) hbel (x := .bool false) (av Tryz.results67) rfl ⟨by first | (simp [bxB, h1d]; done) | (unfold bxB; simp only [h1d]; rfl), rfl⟩)
theorem im (H : ac) (s : Int) (f : Int) (c : Int) (k1 : 0 ≤ s ∧ s ≤ 255) (k2 : 0 ≤ f ∧ f ≤ 255) (k3 : 0 ≤ c ∧ c ≤ 256) : ACalls Tryz.prog 189 [.int .i64 s, .agg [.int .i64 f, .int .i64 c]] H (fun v H' => v = .int .i64 (bD s f c) ∧ H' = H) := by
 refine AcT true Tryz.func189 ?_; intro hbel Q hQ
 refine bi ?_
 refine aP (by kernel_rfl) (iV _ (f - s)) ?_
 refine bi ?_
 exact hQ _ _ (ai (.inl rfl) hbel (x := .int .i64 (((((f - s) % 256).toNat : Nat) : Int) + c)) (av Tryz.results189) rfl ⟨congrArg (AV.int .i64) (by unfold bD; omega), rfl⟩)
theorem jv (H : ac) (f : Int) (c : Int) (f2 : Int) (c2 : Int) (ha : cp f c = true) (hb : cp f2 c2 = true) : ACalls Tryz.prog 153 [.agg [.int .i64 f, .int .i64 c], .agg [.int .i64 f2, .int .i64 c2]] H (fun v H' => v = .tup [.agg [.int .i64 ((cw f c f2 c2).1), .int .i64 ((cw f c f2 c2).2)], .int .i64 0] ∧ H' = H) := by
 have ka := bS.1 ha
 have kb := bS.1 hb
 have hm1 := max_i (bD f f c) (bD f f2 c2)
 have hm2 := max_i (bD f2 f c) (bD f2 f2 c2)
 have hz0 : (hlS f c f2 c2 0).2 = 256 ∧ (hlS f c f2 c2 0).1 = 0 := ⟨rfl, rfl⟩
 have hc1 : bD f f c = c := by unfold bD; omega
 have hc2 : bD f2 f2 c2 = c2 := by unfold bD; omega
 have hc3 : 1 ≤ bD f f2 c2 ∧ bD f f2 c2 ≤ 511 := by unfold bD; omega
 have hc4 : 1 ≤ bD f2 f c ∧ bD f2 f c ≤ 511 := by unfold bD; omega
 refine AcT true Tryz.func153 ?_; intro hbel Q hQ
 have g'49 := (jn @hm1 (jn @hm2 (jn @ha @hb)))
 refine aa g'49 ?_
 refine aj (by kernel_rfl) (g4 _ f c) ?_
 refine aa g'49 ?_
 refine aj (by kernel_rfl) (g4 _ f2 c2) ?_
 refine aa g'49 ?_
 refine go_loop try_mixed (by kernel_rfl) (fun k F Hx => ∃ j : Nat, j + k = 2 ∧ F = [(2, .ptr (some (H.length, 0))), (3, .ptr (some (H.length + 1, 0))), (4, .ptr (some (H.length + 2, 0))), (6, .ptr (some (H.length + 3, 0))), (24, .agg [.int .i64 f, .int .i64 f2]), (25, .int .i64 ((j : Nat) : Int))] ∧ Hx = H ++ [.cells true 0 [.int .i64 f, .int .i64 c], .cells true 0 [.int .i64 f2, .int .i64 c2], .cells true 0 [.int .i64 0, .int .i64 0], .cells true 0 [.int .i64 ((hlS f c f2 c2 j).1), .int .i64 ((hlS f c f2 c2 j).2)]]) (2) ?_ ?_
 ·refine ⟨_, _, _, ⟨0, by omega, rfl, rfl⟩, Abs.byG hbel [] rfl [0, 1, 2, 3] (by decide) ?_⟩
  exact bl (jn @hlS.eq_1 @Int.natCast_zero)
 ·rintro k0 F Hx ⟨j, hm0, rfl, rfl⟩ J0 hJ0
  refine aa g'49 ?_
  refine aq (fun h1 => ?_) (fun h1 => ?_)
  ·have h1d := bsT h1
   obtain rfl | rfl := (by omega : j = 0 ∨ j = 1)
   ·skip
    have g'50 := (jn @h1 (jn @h1d g'49))
    refine aa g'50 ?_
    refine aP (by kernel_rfl) (im _ f f c (by omega) (by omega) (by omega)) ?_
    refine aa g'50 ?_
    refine aP (by kernel_rfl) (im _ f f2 c2 (by omega) (by omega) (by omega)) ?_
    refine aa g'50 ?_
    refine az (fun h2 => ?_) (fun h2 => ?_)
    ·have h2d := bsT h2
     have g'51 := (jn @h2 (jn @h2d g'50))
     refine aa g'51 ?_
     refine az (fun h3 => ?_) (fun h3 => ?_)
     ·have h3d := bsT h3
      have h3n := bnT h3
      have he0 : max (bD f f c) (bD f f2 c2) = (hlS f c f2 c2 0).2 := by simpa using h3d
      have g'52 := (jn @h3 (jn @h3n (jn @aT (jn @aS g'51))))
      refine aa g'52 ?_
      refine az (fun h4 => ?_) (fun h4 => ?_)
      ·have h4d := bsT h4
       omega
      ·have h4d := bsT h4
       have g'53 := (jn @h4 (jn @h4d g'52))
       refine aa g'53 ?_
       first | (have hst : hlS f c f2 c2 (0 + 1) = (f, max (bD f f c) (bD f f2 c2)) := if_pos (by omega)) | (have hst : hlS f c f2 c2 (0 + 1) = (0, 256) := if_neg (by omega)) | (have hst : hlS f c f2 c2 (1 + 1) = (f2, max (bD f2 f c) (bD f2 f2 c2)) := (dH f c f2 c2).trans (if_pos (by omega))) | (have hst : hlS f c f2 c2 (1 + 1) = hlS f c f2 c2 1 := (dH f c f2 c2).trans (if_neg (by omega)))
       refine hJ0 _ _ ⟨k0 - 1, by omega, _, _, _, ⟨0 + 1, by omega, rfl, rfl⟩, Abs.byG hbel [] rfl [0, 1, 2, 3] (by decide) ?_⟩
       exact bl @hst
     ·have h3d := bsT h3
      have h3n := bnT h3
      have g'54 := (jn @h3 (jn @h3n (jn @aT (jn @aS g'51))))
      refine aa g'54 ?_
      first | (have hst : hlS f c f2 c2 (0 + 1) = (f, max (bD f f c) (bD f f2 c2)) := if_pos (by omega)) | (have hst : hlS f c f2 c2 (0 + 1) = (0, 256) := if_neg (by omega)) | (have hst : hlS f c f2 c2 (1 + 1) = (f2, max (bD f2 f c) (bD f2 f2 c2)) := (dH f c f2 c2).trans (if_pos (by omega))) | (have hst : hlS f c f2 c2 (1 + 1) = hlS f c f2 c2 1 := (dH f c f2 c2).trans (if_neg (by omega)))
      refine hJ0 _ _ ⟨k0 - 1, by omega, _, _, _, ⟨0 + 1, by omega, rfl, rfl⟩, Abs.byG hbel [] rfl [0, 1, 2, 3] (by decide) ?_⟩
      exact bl @hst
    ·have h2d := bsT h2
     have g'55 := (jn @h2 (jn @h2d g'50))
     refine aa g'55 ?_
     first | (have hst : hlS f c f2 c2 (0 + 1) = (f, max (bD f f c) (bD f f2 c2)) := if_pos (by omega)) | (have hst : hlS f c f2 c2 (0 + 1) = (0, 256) := if_neg (by omega)) | (have hst : hlS f c f2 c2 (1 + 1) = (f2, max (bD f2 f c) (bD f2 f2 c2)) := (dH f c f2 c2).trans (if_pos (by omega))) | (have hst : hlS f c f2 c2 (1 + 1) = hlS f c f2 c2 1 := (dH f c f2 c2).trans (if_neg (by omega)))
     refine hJ0 _ _ ⟨k0 - 1, by omega, _, _, _, ⟨0 + 1, by omega, rfl, rfl⟩, Abs.byG hbel [] rfl [0, 1, 2, 3] (by decide) ?_⟩
     exact bl @hst
   ·skip
    have g'56 := (jn @h1 (jn @h1d g'49))
    refine aa g'56 ?_
    refine aP (by kernel_rfl) (im _ f2 f c (by omega) (by omega) (by omega)) ?_
    refine aa g'56 ?_
    refine aP (by kernel_rfl) (im _ f2 f2 c2 (by omega) (by omega) (by omega)) ?_
    refine aa g'56 ?_
    refine az (fun h5 => ?_) (fun h5 => ?_)
    ·have h5d := bsT h5
     have g'57 := (jn @h5 (jn @h5d g'56))
     refine aa g'57 ?_
     refine az (fun h6 => ?_) (fun h6 => ?_)
     ·have h6d := bsT h6
      have h6n := bnT h6
      have he1 : max (bD f2 f c) (bD f2 f2 c2) = (hlS f c f2 c2 1).2 := by simpa using h6d
      have g'58 := (jn @h6 (jn @h6n (jn @aT (jn @aS g'57))))
      refine aa g'58 ?_
      refine az (fun h7 => ?_) (fun h7 => ?_)
      ·have h7d := bsT h7
       have g'59 := (jn @h7 (jn @h7d g'58))
       refine aa g'59 ?_
       refine aq (fun h8 => ?_) (fun h8 => ?_)
       ·have h8d := bsT h8
        have g'60 := (jn @h8 (jn @h8d g'59))
        refine aa g'60 ?_
        first | (have hst : hlS f c f2 c2 (0 + 1) = (f, max (bD f f c) (bD f f2 c2)) := if_pos (by omega)) | (have hst : hlS f c f2 c2 (0 + 1) = (0, 256) := if_neg (by omega)) | (have hst : hlS f c f2 c2 (1 + 1) = (f2, max (bD f2 f c) (bD f2 f2 c2)) := (dH f c f2 c2).trans (if_pos (by omega))) | (have hst : hlS f c f2 c2 (1 + 1) = hlS f c f2 c2 1 := (dH f c f2 c2).trans (if_neg (by omega)))
        refine hJ0 _ _ ⟨k0 - 1, by omega, _, _, _, ⟨1 + 1, by omega, rfl, rfl⟩, Abs.byG hbel [] rfl [0, 1, 2, 3] (by decide) ?_⟩
        exact bl @hst
       ·have h8d := bsT h8
        have g'61 := (jn @h8 (jn @h8d g'59))
        refine aa g'61 ?_
        first | (have hst : hlS f c f2 c2 (0 + 1) = (f, max (bD f f c) (bD f f2 c2)) := if_pos (by omega)) | (have hst : hlS f c f2 c2 (0 + 1) = (0, 256) := if_neg (by omega)) | (have hst : hlS f c f2 c2 (1 + 1) = (f2, max (bD f2 f c) (bD f2 f2 c2)) := (dH f c f2 c2).trans (if_pos (by omega))) | (have hst : hlS f c f2 c2 (1 + 1) = hlS f c f2 c2 1 := (dH f c f2 c2).trans (if_neg (by omega)))
        refine hJ0 _ _ ⟨k0 - 1, by omega, _, _, _, ⟨1 + 1, by omega, rfl, rfl⟩, Abs.byG hbel [] rfl [0, 1, 2, 3] (by decide) ?_⟩
        exact bl @hst
      ·have h7d := bsT h7
       have g'62 := (jn @h7 (jn @h7d g'58))
       refine aa g'62 ?_
       first | (have hst : hlS f c f2 c2 (0 + 1) = (f, max (bD f f c) (bD f f2 c2)) := if_pos (by omega)) | (have hst : hlS f c f2 c2 (0 + 1) = (0, 256) := if_neg (by omega)) | (have hst : hlS f c f2 c2 (1 + 1) = (f2, max (bD f2 f c) (bD f2 f2 c2)) := (dH f c f2 c2).trans (if_pos (by omega))) | (have hst : hlS f c f2 c2 (1 + 1) = hlS f c f2 c2 1 := (dH f c f2 c2).trans (if_neg (by omega)))
       refine hJ0 _ _ ⟨k0 - 1, by omega, _, _, _, ⟨1 + 1, by omega, rfl, rfl⟩, Abs.byG hbel [] rfl [0, 1, 2, 3] (by decide) ?_⟩
       exact bl @hst
     ·have h6d := bsT h6
      have h6n := bnT h6
      have he1 : ¬ max (bD f2 f c) (bD f2 f2 c2) = (hlS f c f2 c2 1).2 := by simpa using h6d
      have g'63 := (jn @h6 (jn @h6n (jn @aT (jn @aS g'57))))
      refine aa g'63 ?_
      first | (have hst : hlS f c f2 c2 (0 + 1) = (f, max (bD f f c) (bD f f2 c2)) := if_pos (by omega)) | (have hst : hlS f c f2 c2 (0 + 1) = (0, 256) := if_neg (by omega)) | (have hst : hlS f c f2 c2 (1 + 1) = (f2, max (bD f2 f c) (bD f2 f2 c2)) := (dH f c f2 c2).trans (if_pos (by omega))) | (have hst : hlS f c f2 c2 (1 + 1) = hlS f c f2 c2 1 := (dH f c f2 c2).trans (if_neg (by omega)))
      refine hJ0 _ _ ⟨k0 - 1, by omega, _, _, _, ⟨1 + 1, by omega, rfl, rfl⟩, Abs.byG hbel [] rfl [0, 1, 2, 3] (by decide) ?_⟩
      exact bl @hst
    ·have h5d := bsT h5
     have g'64 := (jn @h5 (jn @h5d g'56))
     refine aa g'64 ?_
     first | (have hst : hlS f c f2 c2 (0 + 1) = (f, max (bD f f c) (bD f f2 c2)) := if_pos (by omega)) | (have hst : hlS f c f2 c2 (0 + 1) = (0, 256) := if_neg (by omega)) | (have hst : hlS f c f2 c2 (1 + 1) = (f2, max (bD f2 f c) (bD f2 f2 c2)) := (dH f c f2 c2).trans (if_pos (by omega))) | (have hst : hlS f c f2 c2 (1 + 1) = hlS f c f2 c2 1 := (dH f c f2 c2).trans (if_neg (by omega)))
     refine hJ0 _ _ ⟨k0 - 1, by omega, _, _, _, ⟨1 + 1, by omega, rfl, rfl⟩, Abs.byG hbel [] rfl [0, 1, 2, 3] (by decide) ?_⟩
     exact bl @hst
  ·have h1d := bsT h1
   obtain rfl : j = 2 := by omega
   have g'65 := (jn @h1 (jn @h1d g'49))
   refine aa g'65 ?_
   exact hQ _ _ (ai (.inl rfl) hbel (x := .tup [.agg [.int .i64 ((hlS f c f2 c2 2).1), .int .i64 ((hlS f c f2 c2 2).2)], .int .i64 0]) (av Tryz.results153) rfl ⟨rfl, rfl⟩)
open Go.RowKit
theorem pinside_c (H : ac) (W : Int) (Hh : Int) (pp : AV) (xs : List Int) (x : Int) (y : Int) (hpp : Sl H 1 pp xs.length (ints .u8 xs)) : ACalls Tryz.prog 139 [.agg [.int .i64 W, .int .i64 Hh, pp], .agg [.int .i64 x, .int .i64 y]] H (fun v H' => v = .bool (inB W Hh x y) ∧ H' = H) := by
 obtain ⟨bpp, opp, cpp, rfl, hbpp⟩ := hpp
 have hblpp := getElem?_lt hbpp
 have hb0pp := fun l => aD (l := l) hbpp
 refine AcT true Tryz.func139 ?_; intro hbel Q hQ
 have g'1 := (jn @hbpp @hb0pp)
 refine aa g'1 ?_
 refine az (fun h1 => ?_) (fun h1 => ?_)
 ·have h1d := bsT h1
  have g'2 := (jn @h1 (jn @h1d g'1))
  refine aa g'2 ?_
  refine az (fun h2 => ?_) (fun h2 => ?_)
  ·have h2d := bsT h2
   have g'3 := (jn @h2 (jn @h2d g'2))
   refine aa g'3 ?_
   refine az (fun h3 => ?_) (fun h3 => ?_)
   ·have h3d := bsT h3
    have g'4 := (jn @h3 (jn @h3d g'3))
    refine aa g'4 ?_
    exact hQ _ _ (ai (.inl rfl) hbel (x := .bool (decide (y < Hh))) (av Tryz.results139) rfl ⟨by first | (simp [inB, h1d, h2d, h3d]; done) | (simp [inB, h1d, h2d, h3d]; omega), rfl⟩)
   ·have h3d := bsT h3
    have g'5 := (jn @h3 (jn @h3d g'3))
    refine aa g'5 ?_
    exact hQ _ _ (ai (.inl rfl) hbel (x := .bool false) (av Tryz.results139) rfl ⟨by first | (simp [inB, h1d, h2d, h3d]; done) | (simp [inB, h1d, h2d, h3d]; omega), rfl⟩)
  ·have h2d := bsT h2
   have g'6 := (jn @h2 (jn @h2d g'2))
   refine aa g'6 ?_
   exact hQ _ _ (ai (.inl rfl) hbel (x := .bool false) (av Tryz.results139) rfl ⟨by first | (simp [inB, h1d, h2d]; done) | (simp [inB, h1d, h2d]; omega), rfl⟩)
 ·have h1d := bsT h1
  have g'7 := (jn @h1 (jn @h1d g'1))
  refine aa g'7 ?_
  exact hQ _ _ (ai (.inl rfl) hbel (x := .bool false) (av Tryz.results139) rfl ⟨by first | (simp [inB, h1d]; done) | (simp [inB, h1d]; omega), rfl⟩)
theorem pat_c (H : ac) (W : Int) (Hh : Int) (pp : AV) (xs : List Int) (x : Int) (y : Int) (hpp : Sl H 1 pp xs.length (ints .u8 xs)) (hV : b9 W Hh xs = true) : ACalls Tryz.prog 100 [.agg [.int .i64 W, .int .i64 Hh, pp], .agg [.int .i64 x, .int .i64 y]] H (fun v H' => v = .int .u8 (atI W Hh xs x y) ∧ H' = H) := by
 obtain ⟨bpp, opp, cpp, rfl, hbpp⟩ := hpp
 have hblpp := getElem?_lt hbpp
 have hb0pp := fun l => aD (l := l) hbpp
 have hVl := cg.1 hV
 have hll := hVl.len
 have hpp2 := hVl.pos
 refine AcT true Tryz.func100 ?_; intro hbel Q hQ
 have g'8 := (jn @hbpp (jn @hb0pp @hV))
 refine aa g'8 ?_
 refine aj (by kernel_rfl) (g3 _ W Hh _ xs (.inr ⟨_, _, _, rfl, by first | exact hb0pp _ | exact hbpp⟩)) ?_
 refine aa g'8 ?_
 refine aj (by kernel_rfl) (pinside_c _ W Hh _ xs x y ⟨_, _, _, rfl, by first | exact hb0pp _ | exact hbpp⟩) ?_
 refine aa g'8 ?_
 refine aq (fun h1 => ?_) (fun h1 => ?_)
 ·have h1d := bsT h1
  have g'9 := (jn @h1 (jn @h1d g'8))
  refine aa g'9 ?_
  exact hQ _ _ (ai (.inl rfl) hbel (x := .int .u8 2) (av Tryz.results100) rfl ⟨by simp [atI, h1d], rfl⟩)
 ·have h1d := bsT h1
  have hin := h1d
  obtain ⟨i1, i2, i3, i4, i5, -⟩ := hVl.idx hin
  have q2 := c7 (k := .u8) (xs := xs) (j := ((y * W) + x).toNat) (by omega)
  have g'10 := (jn @h1 (jn @h1d (jn @q2 g'8)))
  refine aa g'10 ?_
  exact hQ _ _ (ai (.inl rfl) hbel (x := .int .u8 (gi xs (((y * W) + x).toNat))) (av Tryz.results100) rfl ⟨by simp [atI, h1d], rfl⟩)
open Go.RowKit
def dy (m r : Int) : Bool := btw m 0 255 && btw r (-1) 1024
def eH (e : Int × Int) : Bool := dy e.1 e.2
def cd (s : List (Int × Int)) : Bool := decide (((s.length : Nat) : Int) ≤ 32) && !(s.any fun e => !eH e)
theorem kh {m r : Int} : dy m r = true ↔ (0 ≤ m ∧ m ≤ 255) ∧ -1 ≤ r ∧ r ≤ 1024 := by
 unfold dy; rw [Bool.and_eq_true, bM, bM]
theorem dG {s : List (Int × Int)} : cd s = true ↔ s.length ≤ 32 ∧ ∀ e ∈ s, eH e = true := by
 unfold cd
 rw [Bool.and_eq_true, decide_eq_true_eq, Bool.not_eq_true', List.any_eq_false]
 refine ⟨fun h => ⟨by omega, fun e he => ?_⟩, fun h => ⟨by omega, fun e he => ?_⟩⟩
 ·have := h.2 e he
  simpa using this
 ·rw [h.2 e he]; decide
def cV (W Hh : Int) (xs : List Int) (l : List T6) (s : List (Int × Int)) (g : Int) : Bool := b9 W Hh xs && (decide (0 < ((l.length : Nat) : Int)) && (bU l && (cd s && btw g 1 32)))
theorem eI {W Hh : Int} {xs : List Int} {l : List T6} {s : List (Int × Int)} {g : Int} : cV W Hh xs l s g = true ↔ b9 W Hh xs = true ∧ 0 < l.length ∧ bU l = true ∧ cd s = true ∧ 1 ≤ g ∧ g ≤ 32 := by
 unfold cV; simp only [Bool.and_eq_true, decide_eq_true_eq, bM]
 exact ⟨fun ⟨a, b, c, d, e⟩ => ⟨a, by omega, c, d, e⟩, fun ⟨a, b, c, d, e⟩ => ⟨a, by omega, c, d, e⟩⟩
def sumC (l : List T6) : Nat → Int
 | 0 => 0
 | n + 1 => sumC l n + g66 l n
theorem g66_bd {l : List T6} (h : bU l = true) {n : Nat} (hn : n < l.length) : 1 ≤ g66 l n ∧ g66 l n ≤ 256 := by
 have := (bX.1 h).2 (g6 l n) (cG hn)
 have := (bS.1 (bY.1 this).2.2)
 exact this.2.1
theorem fk {l : List T6} (h : bU l = true) : l.length ≤ 16 := (bX.1 h).1
theorem sumC_bd {l : List T6} (h : bU l = true) : ∀ n : Nat, n ≤ l.length → (n : Int) ≤ sumC l n ∧ sumC l n ≤ 256 * n
 | 0, _ => by simp [sumC]
 | n + 1, hn => by
  have := sumC_bd h n (by omega)
  have := g66_bd h (show n < l.length by omega)
  simp only [sumC]; omega
def wdeB (b : T6) : Bool := decide (64 < b.2.2.1 - b.1) || decide (64 < b.2.2.2.1 - b.2.1)
def fl (l : List T6) : Bool := decide (sumC l l.length ≤ 32) && !(l.any wdeB)
open Go.RowKit
abbrev T9 := Int × Int × Int × Int × Int × Int × Int × Int × Int
def r9 (l : List T9) : List AV := l.flatMap fun p => [.int .i64 p.1, .int .i64 p.2.1, .int .i64 p.2.2.1, .int .i64 p.2.2.2.1, .int .i64 p.2.2.2.2.1, .int .i64 p.2.2.2.2.2.1, .int .i64 p.2.2.2.2.2.2.1, .int .i64 p.2.2.2.2.2.2.2.1, .int .i64 p.2.2.2.2.2.2.2.2]
def g9 (l : List T9) (j : Nat) : T9 := l.getD j (0, 0, 0, 0, 0, 0, 0, 0, 0)
def g91 (l : List T9) (j : Nat) : Int := (g9 l j).1
def g92 (l : List T9) (j : Nat) : Int := (g9 l j).2.1
def g93 (l : List T9) (j : Nat) : Int := (g9 l j).2.2.1
def g94 (l : List T9) (j : Nat) : Int := (g9 l j).2.2.2.1
def g95 (l : List T9) (j : Nat) : Int := (g9 l j).2.2.2.2.1
def g96 (l : List T9) (j : Nat) : Int := (g9 l j).2.2.2.2.2.1
def g97 (l : List T9) (j : Nat) : Int := (g9 l j).2.2.2.2.2.2.1
def g98 (l : List T9) (j : Nat) : Int := (g9 l j).2.2.2.2.2.2.2.1
def g99 (l : List T9) (j : Nat) : Int := (g9 l j).2.2.2.2.2.2.2.2
theorem g9_eq {l : List T9} {j : Nat} (h : j < l.length) : (g91 l j, g92 l j, g93 l j, g94 l j, g95 l j, g96 l j, g97 l j, g98 l j, g99 l j) = l[j] := by
 simp [g91, g92, g93, g94, g95, g96, g97, g98, g99, g9, h, List.getD_eq_getElem?_getD]
theorem bZ : r9 [] = [] := rfl
theorem bF {p : T9} {l : List T9} : r9 (p :: l) = .int .i64 p.1 :: .int .i64 p.2.1 :: .int .i64 p.2.2.1 :: .int .i64 p.2.2.2.1 :: .int .i64 p.2.2.2.2.1 :: .int .i64 p.2.2.2.2.2.1 :: .int .i64 p.2.2.2.2.2.2.1 :: .int .i64 p.2.2.2.2.2.2.2.1 :: .int .i64 p.2.2.2.2.2.2.2.2 :: r9 l := rfl
theorem bv {l m : List T9} : r9 (l ++ m) = r9 l ++ r9 m := by simp [r9]
theorem dC : ∀ {l : List T9}, (r9 l).length = l.length * 9
 | [] => rfl
 | p :: l => by rw [bF]; simp only [List.length_cons, dC (l := l)]; omega
theorem bW {σ : Nat → Nat} : ∀ {l : List T9}, AV.mvs σ (r9 l) = r9 l
 | [] => rfl
 | p :: l => by
  rw [bF]
  show AV.mv σ _ :: AV.mv σ _ :: AV.mv σ _ :: AV.mv σ _ :: AV.mv σ _ :: AV.mv σ _ :: AV.mv σ _ :: AV.mv σ _ :: AV.mv σ _ :: AV.mvs σ (r9 l) = _
  rw [bW (l := l)]; rfl
theorem r9_at : ∀ {l : List T9} {j : Nat} (_h : j < l.length), (r9 l).drop (j * 9) = .int .i64 (g91 l j) :: .int .i64 (g92 l j) :: .int .i64 (g93 l j) :: .int .i64 (g94 l j) :: .int .i64 (g95 l j) :: .int .i64 (g96 l j) :: .int .i64 (g97 l j) :: .int .i64 (g98 l j) :: .int .i64 (g99 l j) :: (r9 l).drop ((j + 1) * 9)
 | [], j, h => by simp at h
 | p :: l, 0, _ => by rw [bF]; simp [g91, g92, g93, g94, g95, g96, g97, g98, g99, g9]
 | p :: l, j + 1, h => by
  rw [bF, show (j + 1) * 9 = j * 9 + 1 + 1 + 1 + 1 + 1 + 1 + 1 + 1 + 1 by omega, List.drop_succ_cons, List.drop_succ_cons, List.drop_succ_cons, List.drop_succ_cons, List.drop_succ_cons, List.drop_succ_cons, List.drop_succ_cons, List.drop_succ_cons, List.drop_succ_cons, r9_at (l := l) (by simpa using h), show (j + 1 + 1) * 9 = (j + 1) * 9 + 1 + 1 + 1 + 1 + 1 + 1 + 1 + 1 + 1 by omega, List.drop_succ_cons, List.drop_succ_cons, List.drop_succ_cons, List.drop_succ_cons, List.drop_succ_cons, List.drop_succ_cons, List.drop_succ_cons, List.drop_succ_cons, List.drop_succ_cons]
  rfl
theorem r9_load {l : List T9} {j : Nat} (h : j < l.length) : ((r9 l).drop (j * 9)).take 9 = [.int .i64 (g91 l j), .int .i64 (g92 l j), .int .i64 (g93 l j), .int .i64 (g94 l j), .int .i64 (g95 l j), .int .i64 (g96 l j), .int .i64 (g97 l j), .int .i64 (g98 l j), .int .i64 (g99 l j)] := by rw [r9_at h]; rfl
theorem r9_p0 {l : List T9} {j : Nat} (h : j < l.length) : ((r9 l).drop (j * 9)).take 6 = [.int .i64 (g91 l j), .int .i64 (g92 l j), .int .i64 (g93 l j), .int .i64 (g94 l j), .int .i64 (g95 l j), .int .i64 (g96 l j)] := by rw [r9_at h]; rfl
theorem gJ {l : List T9} (h : 0 < l.length) : (r9 l).take 6 = [.int .i64 (g91 l 0), .int .i64 (g92 l 0), .int .i64 (g93 l 0), .int .i64 (g94 l 0), .int .i64 (g95 l 0), .int .i64 (g96 l 0)] := by
 have := r9_p0 h
 rwa [Nat.zero_mul, List.drop_zero] at this
theorem r9_p6 {l : List T9} {j : Nat} (h : j < l.length) : ((r9 l).drop (j * 9 + 6)).take 3 = [.int .i64 (g97 l j), .int .i64 (g98 l j), .int .i64 (g99 l j)] := by rw [← List.drop_drop, r9_at h]; rfl
theorem gK {l : List T9} (h : 0 < l.length) : ((r9 l).drop 6).take 3 = [.int .i64 (g97 l 0), .int .i64 (g98 l 0), .int .i64 (g99 l 0)] := by
 have := r9_p6 h
 rwa [Nat.zero_mul, Nat.zero_add] at this
theorem iY {l : List T9} : (r9 l).all AV.one = true := by
 induction l with
 | nil => rfl
 | cons p l ih => rw [bF]; simp [AV.one, ih]
section
variable {P : Program} {H : ac} {n : Nat}
end
set_option linter.unusedSimpArgs false
set_option linter.unusedVariables false
open Go.RowKit
set_option maxHeartbeats 4000000
set_option maxRecDepth 100000
theorem eP (H : ac) (x : Int) (m : Int) (h : 0 ≤ m ∧ m ≤ 4611686018427387904) : ACalls Tryz.prog 182 [.int .i64 x, .int .i64 m] H (fun v H' => v = .bool (cF x m) ∧ H' = H) := by
 refine AcT true Tryz.func182 ?_; intro hbel Q hQ
 refine bi ?_
 refine az (fun h1 => ?_) (fun h1 => ?_)
 ·have h1d := bsT h1
  have g'1 := (jn @h1 @h1d)
  refine aa g'1 ?_
  exact hQ _ _ (aE (.inl rfl) hbel (x := .bool (decide (x ≤ m))) (av Tryz.results182) rfl ⟨by first | (simp [cF, h1d]; done) | (simp [cF, h1d]; omega), rfl⟩)
 ·have h1d := bsT h1
  have g'2 := (jn @h1 @h1d)
  refine aa g'2 ?_
  exact hQ _ _ (aE (.inl rfl) hbel (x := .bool false) (av Tryz.results182) rfl ⟨by first | (simp [cF, h1d]; done) | (simp [cF, h1d]; omega), rfl⟩)
theorem pvpt_c (H : ac) (x : Int) (y : Int) : ACalls Tryz.prog 180 [.agg [.int .i64 x, .int .i64 y]] H (fun v H' => v = .bool (ptB x y) ∧ H' = H) := by
 refine AcT true Tryz.func180 ?_; intro hbel Q hQ
 refine bi ?_
 refine aj (by kernel_rfl) (eP _ x 1048576 (by decide)) ?_
 refine bi ?_
 refine az (fun h1 => ?_) (fun h1 => ?_)
 ·have h1d := bsT h1
  have g'3 := (jn @h1 @h1d)
  refine aa g'3 ?_
  refine aj (by kernel_rfl) (eP _ y 1048576 (by decide)) ?_
  refine aa g'3 ?_
  exact hQ _ _ (ai (.inl rfl) hbel (x := .bool (cF y 1048576)) (av Tryz.results180) rfl ⟨by simp [ptB, h1d], rfl⟩)
 ·have h1d := bsT h1
  have g'4 := (jn @h1 @h1d)
  refine aa g'4 ?_
  exact hQ _ _ (ai (.inl rfl) hbel (x := .bool false) (av Tryz.results180) rfl ⟨by simp [ptB, h1d], rfl⟩)
theorem pvrc_c (H : ac) (x0 : Int) (y0 : Int) (x1 : Int) (y1 : Int) : ACalls Tryz.prog 176 [.agg [.int .i64 x0, .int .i64 y0, .int .i64 x1, .int .i64 y1]] H (fun v H' => v = .bool (fi x0 y0 x1 y1) ∧ H' = H) := by
 refine AcT true Tryz.func176 ?_; intro hbel Q hQ
 refine bi ?_
 refine az (fun h1 => ?_) (fun h1 => ?_)
 ·have h1d := bsT h1
  have g'5 := (jn @h1 @h1d)
  refine aa g'5 ?_
  refine az (fun h2 => ?_) (fun h2 => ?_)
  ·have h2d := bsT h2
   have g'6 := (jn @h2 (jn @h2d g'5))
   refine aa g'6 ?_
   refine aj (by kernel_rfl) (pvpt_c _ x0 y0) ?_
   refine aa g'6 ?_
   refine az (fun h3 => ?_) (fun h3 => ?_)
   ·have h3d := bsT h3
    have g'7 := (jn @h3 (jn @h3d g'6))
    refine aa g'7 ?_
    refine aj (by kernel_rfl) (pvpt_c _ x1 y1) ?_
    refine aa g'7 ?_
    exact hQ _ _ (ai (.inl rfl) hbel (x := .bool (ptB x1 y1)) (av Tryz.results176) rfl ⟨by simp [fi, h1d, h2d, h3d], rfl⟩)
   ·have h3d := bsT h3
    have g'8 := (jn @h3 (jn @h3d g'6))
    refine aa g'8 ?_
    exact hQ _ _ (ai (.inl rfl) hbel (x := .bool false) (av Tryz.results176) rfl ⟨by simp [fi, h1d, h2d, h3d], rfl⟩)
  ·have h2d := bsT h2
   have g'9 := (jn @h2 (jn @h2d g'5))
   refine aa g'9 ?_
   exact hQ _ _ (ai (.inl rfl) hbel (x := .bool false) (av Tryz.results176) rfl ⟨by simp [fi, h1d, h2d], rfl⟩)
 ·have h1d := bsT h1
  have g'10 := (jn @h1 @h1d)
  refine aa g'10 ?_
  exact hQ _ _ (ai (.inl rfl) hbel (x := .bool false) (av Tryz.results176) rfl ⟨by simp [fi, h1d], rfl⟩)
theorem span_c (H : ac) (a : Int) (b : Int) (kba : -2097152 ≤ a ∧ a ≤ 2097152) (kbb : -2097152 ≤ b ∧ b ≤ 2097152) : ACalls Tryz.prog 211 [.int .i64 a, .int .i64 b] H (fun v H' => v = .tup [.int .i64 (spl a), .int .i64 (sph b)] ∧ H' = H) := by
 refine AcT true Tryz.func211 ?_; intro hbel Q hQ
 refine bi ?_
 refine aj (by kernel_rfl) (jq _ (0 - a) 64 (by omega) (by omega)) ?_
 refine bi ?_
 refine aj (by kernel_rfl) (jq _ b 64 (by omega) (by omega)) ?_
 refine bi ?_
 exact hQ _ _ (aE (.inl rfl) hbel (x := .tup [.int .i64 ((0 - ((0 - a) / 64)) - 1), .int .i64 (b / 64)]) (av Tryz.results211) rfl ⟨rfl, rfl⟩)
open Go.RowKit
theorem grid_bd2 {p : Int → Int → Bool} {x0 y0 y : Int} {w n m : Nat} (hn : n ≤ 33000) (hw : w ≤ 33000) (hm : m ≤ w) : (ct p x0 w y0 n).length + (rowR p x0 y m).length ≤ 1089033000 := by
 have h1 := iS (p := p) (x0 := x0) (y0 := y0) (w := w) n
 have h2 := j9 (p := p) (x0 := x0) (y := y) m
 have h3 := Nat.mul_le_mul hn hw
 omega
def rngB (lo hi : Int) : Bool := decide (0 ≤ lo) && (decide (lo ≤ hi) && decide (hi ≤ 2048))
def trE (px py vx vy vd lo hi : Int) : Int := if (ptB px py && db vx vy vd) = true then (if rngB lo hi = true then 0 else 2) else 1
def trL (px py vx vy vd lo hi : Int) : List (Int × Int) := mkL (trE px py vx vy vd lo hi) (dh px py px py vx vy vd lo hi)
def eJ (x0 y0 x1 y1 vx vy vd lo hi : Int) : Int := if (fi x0 y0 x1 y1 && db vx vy vd) = true then (if rngB lo hi = true then (if 1024 < x1 - x0 ∨ 1024 < y1 - y0 then 6 else 0) else 2) else 1
def cC (x0 y0 x1 y1 vx vy vd lo hi : Int) : List (Int × Int) := mkL (eJ x0 y0 x1 y1 vx vy vd lo hi) (dh x0 y0 x1 y1 vx vy vd lo hi)
theorem eK {lo hi : Int} : rngB lo hi = true ↔ 0 ≤ lo ∧ lo ≤ hi ∧ hi ≤ 2048 := by unfold rngB; simp only [Bool.and_eq_true, decide_eq_true_eq]
theorem lS {x y : Int} : ptB x y = true ↔ (-1048576 ≤ x ∧ x ≤ 1048576) ∧ -1048576 ≤ y ∧ y ≤ 1048576 := by unfold ptB; rw [Bool.and_eq_true, bC, bC]
theorem trE_1 {px py vx vy vd lo hi : Int} (h : ¬ (ptB px py = true ∧ db vx vy vd = true)) : trE px py vx vy vd lo hi = 1 ∧ trL px py vx vy vd lo hi = [] := by
 have e : trE px py vx vy vd lo hi = 1 := if_neg (by rw [Bool.and_eq_true]; exact h)
 exact ⟨e, if_neg (by rw [e]; decide)⟩
theorem trE_2 {px py vx vy vd lo hi : Int} (h1 : ptB px py = true) (h2 : db vx vy vd = true) (h : ¬ (0 ≤ lo ∧ lo ≤ hi ∧ hi ≤ 2048)) : trE px py vx vy vd lo hi = 2 ∧ trL px py vx vy vd lo hi = [] := by
 have e : trE px py vx vy vd lo hi = 2 := by unfold trE; rw [h1, h2, if_pos (show (true && true) = true from rfl), if_neg (by rw [eK]; exact h)]
 exact ⟨e, if_neg (by rw [e]; decide)⟩
theorem trE_0 {px py vx vy vd lo hi : Int} (h1 : ptB px py = true) (h2 : db vx vy vd = true) (h : 0 ≤ lo ∧ lo ≤ hi ∧ hi ≤ 2048) : trE px py vx vy vd lo hi = 0 ∧ trL px py vx vy vd lo hi = dh px py px py vx vy vd lo hi := by
 have e : trE px py vx vy vd lo hi = 0 := by unfold trE; rw [h1, h2, if_pos (show (true && true) = true from rfl), if_pos (eK.2 h)]
 exact ⟨e, if_pos e⟩
theorem sptE_1 {x0 y0 x1 y1 vx vy vd lo hi : Int} (h : ¬ (fi x0 y0 x1 y1 = true ∧ db vx vy vd = true)) : eJ x0 y0 x1 y1 vx vy vd lo hi = 1 ∧ cC x0 y0 x1 y1 vx vy vd lo hi = [] := by
 have e : eJ x0 y0 x1 y1 vx vy vd lo hi = 1 := if_neg (by rw [Bool.and_eq_true]; exact h)
 exact ⟨e, if_neg (by rw [e]; decide)⟩
theorem sptE_2 {x0 y0 x1 y1 vx vy vd lo hi : Int} (h1 : fi x0 y0 x1 y1 = true) (h2 : db vx vy vd = true) (h : ¬ (0 ≤ lo ∧ lo ≤ hi ∧ hi ≤ 2048)) : eJ x0 y0 x1 y1 vx vy vd lo hi = 2 ∧ cC x0 y0 x1 y1 vx vy vd lo hi = [] := by
 have e : eJ x0 y0 x1 y1 vx vy vd lo hi = 2 := by unfold eJ; rw [h1, h2, if_pos (show (true && true) = true from rfl), if_neg (by rw [eK]; exact h)]
 exact ⟨e, if_neg (by rw [e]; decide)⟩
theorem sptE_6 {x0 y0 x1 y1 vx vy vd lo hi : Int} (h1 : fi x0 y0 x1 y1 = true) (h2 : db vx vy vd = true) (h : 0 ≤ lo ∧ lo ≤ hi ∧ hi ≤ 2048) (k : 1024 < x1 - x0 ∨ 1024 < y1 - y0) : eJ x0 y0 x1 y1 vx vy vd lo hi = 6 ∧ cC x0 y0 x1 y1 vx vy vd lo hi = [] := by
 have e : eJ x0 y0 x1 y1 vx vy vd lo hi = 6 := by unfold eJ; rw [h1, h2, if_pos (show (true && true) = true from rfl), if_pos (eK.2 h), if_pos k]
 exact ⟨e, if_neg (by rw [e]; decide)⟩
theorem sptE_0 {x0 y0 x1 y1 vx vy vd lo hi : Int} (h1 : fi x0 y0 x1 y1 = true) (h2 : db vx vy vd = true) (h : 0 ≤ lo ∧ lo ≤ hi ∧ hi ≤ 2048) (k : ¬ (1024 < x1 - x0 ∨ 1024 < y1 - y0)) : eJ x0 y0 x1 y1 vx vy vd lo hi = 0 ∧ cC x0 y0 x1 y1 vx vy vd lo hi = dh x0 y0 x1 y1 vx vy vd lo hi := by
 have e : eJ x0 y0 x1 y1 vx vy vd lo hi = 0 := by unfold eJ; rw [h1, h2, if_pos (show (true && true) = true from rfl), if_pos (eK.2 h), if_neg k]
 exact ⟨e, if_pos e⟩
theorem tH {x0 y0 x1 y1 vx vy vd lo hi : Int} (hx : -1048576 ≤ x0 ∧ x0 ≤ x1 ∧ x1 ≤ 1048576) (hy : -1048576 ≤ y0 ∧ y0 ≤ y1 ∧ y1 ≤ 1048576) (hv : db vx vy vd = true) (h : 0 ≤ lo ∧ lo ≤ hi ∧ hi ≤ 2048) : (dh x0 y0 x1 y1 vx vy vd lo hi).length ≤ ce (aG x0 vx vd lo hi) (bH x1 vx vd lo hi) * ce (aG y0 vy vd lo hi) (bH y1 vy vd lo hi) := by
 have := iS (p := co x0 y0 x1 y1 vx vy vd lo hi) (x0 := spl (aG x0 vx vd lo hi)) (y0 := spl (aG y0 vy vd lo hi)) (w := ce (aG x0 vx vd lo hi) (bH x1 vx vd lo hi)) (ce (aG y0 vy vd lo hi) (bH y1 vy vd lo hi))
 unfold dh; rw [Nat.mul_comm]; exact this
theorem jw {a b n d lo hi : Int} (hd : 0 < d) (hn : -d ≤ n ∧ n ≤ d) (h0 : 0 ≤ lo) (hh : lo ≤ hi) (h1 : hi ≤ 2048) (hab : a ≤ b ∧ b ≤ a + 1024) : ce (aG a n d lo hi) (bH b n d lo hi) ≤ 85 := by
 have r := gZ (a := a) (b := b) hd hn h0 hh h1
 unfold ce spl sph; omega
theorem trE_z {px py vx vy vd lo hi : Int} (h : trE px py vx vy vd lo hi = 0) : ptB px py = true ∧ db vx vy vd = true ∧ 0 ≤ lo ∧ lo ≤ hi ∧ hi ≤ 2048 := by
 unfold trE at h
 split at h
 ·rename_i hv
  rw [Bool.and_eq_true] at hv
  split at h
  ·rename_i hr; exact ⟨hv.1, hv.2, eK.1 hr⟩
  ·omega
 ·omega
theorem sptE_z {x0 y0 x1 y1 vx vy vd lo hi : Int} (h : eJ x0 y0 x1 y1 vx vy vd lo hi = 0) : fi x0 y0 x1 y1 = true ∧ db vx vy vd = true ∧ (0 ≤ lo ∧ lo ≤ hi ∧ hi ≤ 2048) ∧ ¬ (1024 < x1 - x0 ∨ 1024 < y1 - y0) := by
 unfold eJ at h
 split at h
 ·rename_i hv
  rw [Bool.and_eq_true] at hv
  split at h
  ·rename_i hr
   split at h
   ·omega
   ·rename_i hk; exact ⟨hv.1, hv.2, eK.1 hr, hk⟩
  ·omega
 ·omega
theorem ki (x0 y0 x1 y1 vx vy vd lo hi : Int) : (cC x0 y0 x1 y1 vx vy vd lo hi).length ≤ 7225 := by
 unfold cC mkL
 split
 ·rename_i h
  obtain ⟨h1, h2, hr, hk⟩ := sptE_z h
  have hq := tE.1 h1
  have hvv := bb.1 h2
  have l := tH hq.1 hq.2 h2 hr
  have c1 := jw (a := x0) (b := x1) (n := vx) (d := vd) (lo := lo) (hi := hi) (by omega) (by omega) hr.1 hr.2.1 hr.2.2 (by omega)
  have c2 := jw (a := y0) (b := y1) (n := vy) (d := vd) (lo := lo) (hi := hi) (by omega) (by omega) hr.1 hr.2.1 hr.2.2 (by omega)
  exact Nat.le_trans l (Nat.mul_le_mul c1 c2)
 ·simp
theorem jx (px py vx vy vd lo hi : Int) : (trL px py vx vy vd lo hi).length ≤ 7225 := by
 unfold trL mkL
 split
 ·rename_i h
  obtain ⟨h1, h2, hr⟩ := trE_z h
  have hq := lS.1 h1
  have hvv := bb.1 h2
  have l := tH (x0 := px) (x1 := px) (y0 := py) (y1 := py) (by omega) (by omega) h2 hr
  have c1 := jw (a := px) (b := px) (n := vx) (d := vd) (lo := lo) (hi := hi) (by omega) (by omega) hr.1 hr.2.1 hr.2.2 (by omega)
  have c2 := jw (a := py) (b := py) (n := vy) (d := vd) (lo := lo) (hi := hi) (by omega) (by omega) hr.1 hr.2.1 hr.2.2 (by omega)
  exact Nat.le_trans l (Nat.mul_le_mul c1 c2)
 ·simp
theorem swpL_mem {x0 y0 x1 y1 vx vy vd lo hi : Int} {c : Int × Int} (hx : -1048576 ≤ x0 ∧ x0 ≤ x1 ∧ x1 ≤ 1048576) (hy : -1048576 ≤ y0 ∧ y0 ≤ y1 ∧ y1 ≤ 1048576) (hv : db vx vy vd = true) (h : 0 ≤ lo ∧ lo ≤ hi ∧ hi ≤ 2048) : c ∈ dh x0 y0 x1 y1 vx vy vd lo hi ↔ co x0 y0 x1 y1 vx vy vd lo hi c.1 c.2 = true := by
 have hvv := bb.1 hv
 have r1 := gZ (a := x0) (b := x1) (n := vx) (d := vd) (lo := lo) (hi := hi) (by omega) (by omega) h.1 h.2.1 h.2.2
 have r2 := gZ (a := y0) (b := y1) (n := vy) (d := vd) (lo := lo) (hi := hi) (by omega) (by omega) h.1 h.2.1 h.2.2
 have c1 := jt (a := aG x0 vx vd lo hi) (b := bH x1 vx vd lo hi) (by omega)
 have c2 := jt (a := aG y0 vy vd lo hi) (b := bH y1 vy vd lo hi) (by omega)
 unfold dh
 rw [pv]
 constructor
 ·rintro ⟨-, -, k⟩; exact k
 ·intro k
  obtain ⟨⟨k1, k2⟩, k3, k4⟩ := swp_range hx hy k
  have k1 := spl_le.2 k1
  have k2 := le_sph.2 k2
  have k3 := spl_le.2 k3
  have k4 := le_sph.2 k4
  exact ⟨by omega, by omega, k⟩
theorem swp_bd {x0 y0 x1 y1 vx vy vd lo hi a b : Int} (h : co x0 y0 x1 y1 vx vy vd lo hi a b = true) : (-32768 ≤ a ∧ a ≤ 32768) ∧ -32768 ≤ b ∧ b ≤ 32768 := by
 unfold co eh at h
 simp only [Bool.and_eq_true, cX] at h
 omega
theorem pvv_c (H : ac) (vx : Int) (vy : Int) (vd : Int) : ACalls Tryz.prog 177 [.agg [.int .i64 vx, .int .i64 vy, .int .i64 vd]] H (fun v H' => v = .bool (db vx vy vd) ∧ H' = H) := by
 refine AcT true Tryz.func177 ?_; intro hbel Q hQ
 refine bi ?_
 refine az (fun h1 => ?_) (fun h1 => ?_)
 ·have h1d := bsT h1
  have g'1 := (jn @h1 @h1d)
  refine aa g'1 ?_
  refine az (fun h2 => ?_) (fun h2 => ?_)
  ·have h2d := bsT h2
   have g'2 := (jn @h2 (jn @h2d g'1))
   refine aa g'2 ?_
   refine aj (by kernel_rfl) (eP _ vx vd (by omega)) ?_
   refine aa g'2 ?_
   refine az (fun h3 => ?_) (fun h3 => ?_)
   ·have h3d := bsT h3
    have hwx := bC.1 h3d
    have g'3 := (jn @h3 (jn @h3d g'2))
    refine aa g'3 ?_
    refine aj (by kernel_rfl) (eP _ vy vd (by omega)) ?_
    refine aa g'3 ?_
    refine az (fun h4 => ?_) (fun h4 => ?_)
    ·have h4d := bsT h4
     have hwy := bC.1 h4d
     have hm1 := bR (a := vx) (b := vx) (A := 67108864) (B := 67108864) (by omega) (by omega)
     have hm2 := bR (a := vy) (b := vy) (A := 67108864) (B := 67108864) (by omega) (by omega)
     have hm3 := bR (a := vd) (b := vd) (A := 67108864) (B := 67108864) (by omega) (by omega)
     have g'4 := (jn @h4 (jn @h4d g'3))
     refine aa g'4 ?_
     exact hQ _ _ (ai (.inl rfl) hbel (x := .bool (((vx * vx) + (vy * vy)) == (vd * vd))) (av Tryz.results177) rfl ⟨by first | (refine congrArg AV.bool ?_; rw [Bool.eq_iff_iff, bb, beq_iff_eq]; exact ⟨fun e => ⟨⟨by omega, by omega⟩, ⟨by omega, by omega⟩, ⟨by omega, by omega⟩, e⟩, fun e => e.2.2.2⟩) | (refine congrArg AV.bool ?_; rw [Bool.eq_iff_iff, bb]; exact ⟨fun e => (by cases e), fun k => (by omega)⟩), rfl⟩)
    ·have h4d := bsT h4
     have hwy : ¬ (-vd ≤ vy ∧ vy ≤ vd) := mt bC.2 (by rw [h4d]; decide)
     have g'5 := (jn @h4 (jn @h4d g'3))
     refine aa g'5 ?_
     exact hQ _ _ (ai (.inl rfl) hbel (x := .bool false) (av Tryz.results177) rfl ⟨by first | (refine congrArg AV.bool ?_; rw [Bool.eq_iff_iff, bb, beq_iff_eq]; exact ⟨fun e => ⟨⟨by omega, by omega⟩, ⟨by omega, by omega⟩, ⟨by omega, by omega⟩, e⟩, fun e => e.2.2.2⟩) | (refine congrArg AV.bool ?_; rw [Bool.eq_iff_iff, bb]; exact ⟨fun e => (by cases e), fun k => (by omega)⟩), rfl⟩)
   ·have h3d := bsT h3
    have hwx : ¬ (-vd ≤ vx ∧ vx ≤ vd) := mt bC.2 (by rw [h3d]; decide)
    have g'6 := (jn @h3 (jn @h3d g'2))
    refine aa g'6 ?_
    exact hQ _ _ (ai (.inl rfl) hbel (x := .bool false) (av Tryz.results177) rfl ⟨by first | (refine congrArg AV.bool ?_; rw [Bool.eq_iff_iff, bb, beq_iff_eq]; exact ⟨fun e => ⟨⟨by omega, by omega⟩, ⟨by omega, by omega⟩, ⟨by omega, by omega⟩, e⟩, fun e => e.2.2.2⟩) | (refine congrArg AV.bool ?_; rw [Bool.eq_iff_iff, bb]; exact ⟨fun e => (by cases e), fun k => (by omega)⟩), rfl⟩)
  ·have h2d := bsT h2
   have g'7 := (jn @h2 (jn @h2d g'1))
   refine aa g'7 ?_
   exact hQ _ _ (ai (.inl rfl) hbel (x := .bool false) (av Tryz.results177) rfl ⟨by first | (refine congrArg AV.bool ?_; rw [Bool.eq_iff_iff, bb, beq_iff_eq]; exact ⟨fun e => ⟨⟨by omega, by omega⟩, ⟨by omega, by omega⟩, ⟨by omega, by omega⟩, e⟩, fun e => e.2.2.2⟩) | (refine congrArg AV.bool ?_; rw [Bool.eq_iff_iff, bb]; exact ⟨fun e => (by cases e), fun k => (by omega)⟩), rfl⟩)
 ·have h1d := bsT h1
  have g'8 := (jn @h1 @h1d)
  refine aa g'8 ?_
  exact hQ _ _ (ai (.inl rfl) hbel (x := .bool false) (av Tryz.results177) rfl ⟨by first | (refine congrArg AV.bool ?_; rw [Bool.eq_iff_iff, bb, beq_iff_eq]; exact ⟨fun e => ⟨⟨by omega, by omega⟩, ⟨by omega, by omega⟩, ⟨by omega, by omega⟩, e⟩, fun e => e.2.2.2⟩) | (refine congrArg AV.bool ?_; rw [Bool.eq_iff_iff, bb]; exact ⟨fun e => (by cases e), fun k => (by omega)⟩), rfl⟩)
theorem gL (H : ac) (x : Int) (y : Int) (kbx : -2097152 ≤ x ∧ x ≤ 2097152) (kby : -2097152 ≤ y ∧ y ≤ 2097152) : ACalls Tryz.prog 183 [.agg [.int .i64 x, .int .i64 y]] H (fun v H' => v = .agg [.int .i64 (x * 64), .int .i64 (y * 64), .int .i64 (x * 64 + 64), .int .i64 (y * 64 + 64)] ∧ H' = H) := by
 refine AcT true Tryz.func183 ?_; intro hbel Q hQ
 refine bi ?_
 exact hQ _ _ (ai (.inl rfl) hbel (x := .agg [.int .i64 (x * 64), .int .i64 (y * 64), .int .i64 ((x * 64) + 64), .int .i64 ((y * 64) + 64)]) (av Tryz.results183) rfl ⟨rfl, rfl⟩)
theorem reach_c (H : ac) (a : Int) (b : Int) (n : Int) (d : Int) (lo : Int) (hi : Int) (ha : -1048576 ≤ a ∧ a ≤ 1048576) (hb : -1048576 ≤ b ∧ b ≤ 1048576) (hd : 1 ≤ d ∧ d ≤ 67108864) (hn : -d ≤ n ∧ n ≤ d) (h0 : 0 ≤ lo) (hh : lo ≤ hi) (h1 : hi ≤ 2048) : ACalls Tryz.prog 210 [.int .i64 a, .int .i64 b, .int .i64 n, .int .i64 d, .int .i64 lo, .int .i64 hi] H (fun v H' => v = .tup [.int .i64 (aG a n d lo hi), .int .i64 (bH b n d lo hi)] ∧ H' = H) := by
 have hm1 := bR (a := lo) (b := n) (A := 2048) (B := 67108864) (by omega) (by omega)
 have hm2 := bR (a := hi) (b := n) (A := 2048) (B := 67108864) (by omega) (by omega)
 have hr := gZ (a := a) (b := b) (n := n) (d := d) (lo := lo) (hi := hi) (by omega) hn h0 hh h1
 unfold aG bH at hr
 have hmn : -137438953472 ≤ (if hi * n < lo * n then hi * n else lo * n) ∧ (if hi * n < lo * n then hi * n else lo * n) ≤ 137438953472 := by split <;> omega
 have hmx : -137438953472 ≤ (if lo * n < hi * n then hi * n else lo * n) ∧ (if lo * n < hi * n then hi * n else lo * n) ≤ 137438953472 := by split <;> omega
 refine AcT true Tryz.func210 ?_; intro hbel Q hQ
 refine bi ?_
 refine aj (by kernel_rfl) (jq _ (if (hi * n) < (lo * n) then (hi * n) else (lo * n)) d (by omega) (by omega)) ?_
 refine bi ?_
 refine aj (by kernel_rfl) (jq _ (if (lo * n) < (hi * n) then (hi * n) else (lo * n)) d (by omega) (by omega)) ?_
 refine bi ?_
 exact hQ _ _ (aE (.inl rfl) hbel (x := .tup [.int .i64 (a + ((if (hi * n) < (lo * n) then (hi * n) else (lo * n)) / d)), .int .i64 ((b + ((if (lo * n) < (hi * n) then (hi * n) else (lo * n)) / d)) + 1)]) (av Tryz.results210) rfl ⟨rfl, rfl⟩)
theorem tK (H : ac) (x0 : Int) (y0 : Int) (x1 : Int) (y1 : Int) (vx : Int) (vy : Int) (vd : Int) (lo : Int) (hi : Int) (hx : -1048576 ≤ x0 ∧ x0 ≤ x1 ∧ x1 ≤ 1048576) (hy : -1048576 ≤ y0 ∧ y0 ≤ y1 ∧ y1 ≤ 1048576) (hv : db vx vy vd = true) (hl : 0 ≤ lo ∧ lo ≤ hi ∧ hi ≤ 2048) : ACalls Tryz.prog 178 [.agg [.int .i64 x0, .int .i64 y0, .int .i64 x1, .int .i64 y1], .agg [.int .i64 vx, .int .i64 vy, .int .i64 vd], .int .i64 lo, .int .i64 hi] H (fun v H' => v = .sl (some (H.length, 0)) ((dh x0 y0 x1 y1 vx vy vd lo hi).length) (bA (dh x0 y0 x1 y1 vx vy vd lo hi).length) ∧ H' = H ++ [.cells (bm (dh x0 y0 x1 y1 vx vy vd lo hi).length) 2 (prs (dh x0 y0 x1 y1 vx vy vd lo hi))]) := by
 have hvv := bb.1 hv
 have hrx := gZ (a := x0) (b := x1) (n := vx) (d := vd) (lo := lo) (hi := hi) (by omega) (by omega) (by omega) (by omega) (by omega)
 have hry := gZ (a := y0) (b := y1) (n := vy) (d := vd) (lo := lo) (hi := hi) (by omega) (by omega) (by omega) (by omega) (by omega)
 have hcx := jt (a := (aG x0 vx vd lo hi)) (b := (bH x1 vx vd lo hi)) (by omega)
 have hcy := jt (a := (aG y0 vy vd lo hi)) (b := (bH y1 vy vd lo hi)) (by omega)
 refine AcL true Tryz.func178 ?_; intro hbel Q hQ
 refine bi ?_
 refine aj (by kernel_rfl) (reach_c _ x0 x1 vx vd lo hi (by omega) (by omega) (by omega) (by omega) (by omega) (by omega) (by omega)) ?_
 refine bi ?_
 refine aj (by kernel_rfl) (reach_c _ y0 y1 vy vd lo hi (by omega) (by omega) (by omega) (by omega) (by omega) (by omega) (by omega)) ?_
 refine bi ?_
 refine aj (by kernel_rfl) (span_c _ (aG x0 vx vd lo hi) (bH x1 vx vd lo hi) (by omega) (by omega)) ?_
 refine bi ?_
 refine aj (by kernel_rfl) (span_c _ (aG y0 vy vd lo hi) (bH y1 vy vd lo hi) (by omega) (by omega)) ?_
 refine bi ?_
 refine go_loopA (fun k F Hx => ∃ n : Nat, n + k = ce (aG y0 vy vd lo hi) (bH y1 vy vd lo hi) ∧ F = [(2, .int .i64 lo), (3, .int .i64 hi), (4, .ptr (some (H.length, 0))), (5, .ptr (some (H.length + 1, 0))), (13, .int .i64 (spl (aG x0 vx vd lo hi))), (14, .int .i64 (sph (bH x1 vx vd lo hi))), (16, .int .i64 (sph (bH y1 vy vd lo hi))), (17, .sl (some (H.length + 2, 0)) ((ct (co x0 y0 x1 y1 vx vy vd lo hi) (spl (aG x0 vx vd lo hi)) (ce (aG x0 vx vd lo hi) (bH x1 vx vd lo hi)) (spl (aG y0 vy vd lo hi)) n).length) (bA (ct (co x0 y0 x1 y1 vx vy vd lo hi) (spl (aG x0 vx vd lo hi)) (ce (aG x0 vx vd lo hi) (bH x1 vx vd lo hi)) (spl (aG y0 vy vd lo hi)) n).length)), (18, .int .i64 ((spl (aG y0 vy vd lo hi)) + ((n : Nat) : Int)))] ∧ Hx = H ++ [.cells true 0 [.int .i64 x0, .int .i64 y0, .int .i64 x1, .int .i64 y1], .cells true 0 [.int .i64 vx, .int .i64 vy, .int .i64 vd], .cells (bm (ct (co x0 y0 x1 y1 vx vy vd lo hi) (spl (aG x0 vx vd lo hi)) (ce (aG x0 vx vd lo hi) (bH x1 vx vd lo hi)) (spl (aG y0 vy vd lo hi)) n).length) 2 (prs (ct (co x0 y0 x1 y1 vx vy vd lo hi) (spl (aG x0 vx vd lo hi)) (ce (aG x0 vx vd lo hi) (bH x1 vx vd lo hi)) (spl (aG y0 vy vd lo hi)) n))]) (ce (aG y0 vy vd lo hi) (bH y1 vy vd lo hi)) ?_ ?_
 ·refine ⟨_, _, _, ⟨0, by omega, rfl, rfl⟩, Abs.byG hbel [.cells false 2 []] rfl [0, 1, 2] (by decide) ?_⟩
  exact aN (jn @gridR_0 (jn @Int.natCast_zero @Int.add_zero))
 ·rintro k0 F Hx ⟨n, hm0, rfl, rfl⟩ Q1 hJ0 hr1 he1
  have hQ1 := fun F H' h => hr1 F H' (hQ F H' h)
  refine aO fun Q2 hn2 hr2 he2 => ?_
  have hQ2 := fun F H' h => hr2 F H' (hQ1 F H' h)
  refine aI true try_mixed (by kernel_rfl) ?_
  have g'9 := (jn @bE @cD)
  refine aa g'9 ?_
  refine aq (fun h1 => ?_) (fun h1 => ?_)
  ·have h1d := bsT h1
   have g'10 := (jn @h1 (jn @h1d g'9))
   refine aa g'10 ?_
   refine hn2 _ _ ?_
   refine aO fun Q3 hn3 hr3 he3 => ?_
   have hQ3 := fun F H' h => hr3 F H' (hQ1 F H' h)
   refine dM fun Q4 hn4 hr4 he4 hb4 => ?_
   have hQ4 := fun F H' h => hr4 F H' (hQ3 F H' h)
   refine aO fun Q5 hn5 hr5 he5 => ?_
   have hQ5 := fun F H' h => hr5 F H' (hQ4 F H' h)
   refine aI true try_mixed (by kernel_rfl) ?_
   refine aa g'10 ?_
   refine hn5 _ _ ?_
   refine dM fun Q6 hn6 hr6 he6 hb6 => ?_
   have hQ6 := fun F H' h => hr6 F H' (hQ4 F H' h)
   refine ke (fun k F Hx => ∃ m : Nat, m + k = (ce (aG x0 vx vd lo hi) (bH x1 vx vd lo hi)) ∧ F = [(2, .int .i64 lo), (3, .int .i64 hi), (4, .ptr (some (H.length, 0))), (5, .ptr (some (H.length + 1, 0))), (13, .int .i64 (spl (aG x0 vx vd lo hi))), (14, .int .i64 (sph (bH x1 vx vd lo hi))), (16, .int .i64 (sph (bH y1 vy vd lo hi))), (17, .sl (some (H.length + 2, 0)) ((ct (co x0 y0 x1 y1 vx vy vd lo hi) (spl (aG x0 vx vd lo hi)) (ce (aG x0 vx vd lo hi) (bH x1 vx vd lo hi)) (spl (aG y0 vy vd lo hi)) n ++ rowR (co x0 y0 x1 y1 vx vy vd lo hi) (spl (aG x0 vx vd lo hi)) ((spl (aG y0 vy vd lo hi)) + ((n : Nat) : Int)) m).length) (bA (ct (co x0 y0 x1 y1 vx vy vd lo hi) (spl (aG x0 vx vd lo hi)) (ce (aG x0 vx vd lo hi) (bH x1 vx vd lo hi)) (spl (aG y0 vy vd lo hi)) n ++ rowR (co x0 y0 x1 y1 vx vy vd lo hi) (spl (aG x0 vx vd lo hi)) ((spl (aG y0 vy vd lo hi)) + ((n : Nat) : Int)) m).length)), (18, .int .i64 ((spl (aG y0 vy vd lo hi)) + ((n : Nat) : Int))), (19, .int .i64 ((spl (aG x0 vx vd lo hi)) + ((m : Nat) : Int)))] ∧ Hx = H ++ [.cells true 0 [.int .i64 x0, .int .i64 y0, .int .i64 x1, .int .i64 y1], .cells true 0 [.int .i64 vx, .int .i64 vy, .int .i64 vd], .cells (bm (ct (co x0 y0 x1 y1 vx vy vd lo hi) (spl (aG x0 vx vd lo hi)) (ce (aG x0 vx vd lo hi) (bH x1 vx vd lo hi)) (spl (aG y0 vy vd lo hi)) n ++ rowR (co x0 y0 x1 y1 vx vy vd lo hi) (spl (aG x0 vx vd lo hi)) ((spl (aG y0 vy vd lo hi)) + ((n : Nat) : Int)) m).length) 2 (prs (ct (co x0 y0 x1 y1 vx vy vd lo hi) (spl (aG x0 vx vd lo hi)) (ce (aG x0 vx vd lo hi) (bH x1 vx vd lo hi)) (spl (aG y0 vy vd lo hi)) n ++ rowR (co x0 y0 x1 y1 vx vy vd lo hi) (spl (aG x0 vx vd lo hi)) ((spl (aG y0 vy vd lo hi)) + ((n : Nat) : Int)) m))]) ((ce (aG x0 vx vd lo hi) (bH x1 vx vd lo hi))) ?_ ?_
   ·refine ⟨_, _, _, ⟨0, by omega, rfl, rfl⟩, Abs.byG hbel [] rfl [0, 1, 2] (by decide) ?_⟩
    exact aN (jn @rowR_0 (jn @List.append_nil.{0} (jn @Int.natCast_zero @Int.add_zero)))
   ·rintro k1 F Hx ⟨m, hm1, rfl, rfl⟩ Q7 hJ1 hr7 he7
    have hQ7 := fun F H' h => hr7 F H' (hQ6 F H' h)
    refine aO fun Q8 hn8 hr8 he8 => ?_
    have hQ8 := fun F H' h => hr8 F H' (hQ7 F H' h)
    refine aI true try_mixed (by kernel_rfl) ?_
    refine aa g'10 ?_
    refine aq (fun h2 => ?_) (fun h2 => ?_)
    ·have h2d := bsT h2
     have hgb := grid_bd2 (p := (co x0 y0 x1 y1 vx vy vd lo hi)) (x0 := (spl (aG x0 vx vd lo hi))) (y0 := (spl (aG y0 vy vd lo hi))) (y := (spl (aG y0 vy vd lo hi)) + ((n : Nat) : Int)) (w := (ce (aG x0 vx vd lo hi) (bH x1 vx vd lo hi))) (n := n) (m := m) (by omega) (by omega) (by omega)
     have g'11 := (jn @h2 (jn @h2d g'10))
     refine aa g'11 ?_
     refine hn8 _ _ ?_
     refine aO fun Q9 hn9 hr9 he9 => ?_
     have hQ9 := fun F H' h => hr9 F H' (hQ7 F H' h)
     refine dM fun Q10 hn10 hr10 he10 hb10 => ?_
     have hQ10 := fun F H' h => hr10 F H' (hQ9 F H' h)
     refine aO fun Q11 hn11 hr11 he11 => ?_
     have hQ11 := fun F H' h => hr11 F H' (hQ10 F H' h)
     refine aI true try_mixed (by kernel_rfl) ?_
     refine aa g'11 ?_
     refine hn11 _ _ ?_
     refine cm true try_mixed [[0, 1, 2, 3, 4, 5, 6, 7, 8, 9], [0, 1, 2, 7, 3, 4, 5, 6, 8, 9], [0, 2, 7, 1, 3, 4, 5, 6, 8, 9]] (by kernel_rfl) (fun F2 H2 => F2 = [(2, .int .i64 lo), (3, .int .i64 hi), (4, .ptr (some (H.length, 0))), (5, .ptr (some (H.length + 1, 0))), (13, .int .i64 (spl (aG x0 vx vd lo hi))), (14, .int .i64 (sph (bH x1 vx vd lo hi))), (16, .int .i64 (sph (bH y1 vy vd lo hi))), (17, .sl (some (H.length + 2, 0)) ((ct (co x0 y0 x1 y1 vx vy vd lo hi) (spl (aG x0 vx vd lo hi)) (ce (aG x0 vx vd lo hi) (bH x1 vx vd lo hi)) (spl (aG y0 vy vd lo hi)) n ++ rowR (co x0 y0 x1 y1 vx vy vd lo hi) (spl (aG x0 vx vd lo hi)) ((spl (aG y0 vy vd lo hi)) + ((n : Nat) : Int)) m).length) (bA (ct (co x0 y0 x1 y1 vx vy vd lo hi) (spl (aG x0 vx vd lo hi)) (ce (aG x0 vx vd lo hi) (bH x1 vx vd lo hi)) (spl (aG y0 vy vd lo hi)) n ++ rowR (co x0 y0 x1 y1 vx vy vd lo hi) (spl (aG x0 vx vd lo hi)) ((spl (aG y0 vy vd lo hi)) + ((n : Nat) : Int)) m).length)), (18, .int .i64 ((spl (aG y0 vy vd lo hi)) + ((n : Nat) : Int))), (19, .int .i64 ((spl (aG x0 vx vd lo hi)) + ((m : Nat) : Int))), (20, .ptr (some (H.length + 3, 0))), (21, .ptr (some (H.length + 4, 0))), (22, .bool (eh (((spl (aG x0 vx vd lo hi)) + ((m : Nat) : Int)) * 64) (((spl (aG y0 vy vd lo hi)) + ((n : Nat) : Int)) * 64) (((spl (aG x0 vx vd lo hi)) + ((m : Nat) : Int)) * 64 + 64) (((spl (aG y0 vy vd lo hi)) + ((n : Nat) : Int)) * 64 + 64) x0 y0 x1 y1))] ∧ H2 = H ++ [.cells true 0 [.int .i64 x0, .int .i64 y0, .int .i64 x1, .int .i64 y1], .cells true 0 [.int .i64 vx, .int .i64 vy, .int .i64 vd], .cells (bm (ct (co x0 y0 x1 y1 vx vy vd lo hi) (spl (aG x0 vx vd lo hi)) (ce (aG x0 vx vd lo hi) (bH x1 vx vd lo hi)) (spl (aG y0 vy vd lo hi)) n ++ rowR (co x0 y0 x1 y1 vx vy vd lo hi) (spl (aG x0 vx vd lo hi)) ((spl (aG y0 vy vd lo hi)) + ((n : Nat) : Int)) m).length) 2 (prs (ct (co x0 y0 x1 y1 vx vy vd lo hi) (spl (aG x0 vx vd lo hi)) (ce (aG x0 vx vd lo hi) (bH x1 vx vd lo hi)) (spl (aG y0 vy vd lo hi)) n ++ rowR (co x0 y0 x1 y1 vx vy vd lo hi) (spl (aG x0 vx vd lo hi)) ((spl (aG y0 vy vd lo hi)) + ((n : Nat) : Int)) m)), .cells true 0 [.int .i64 ((spl (aG x0 vx vd lo hi)) + ((m : Nat) : Int)), .int .i64 ((spl (aG y0 vy vd lo hi)) + ((n : Nat) : Int))], .cells true 0 [.int .i64 (mkV (eh (((spl (aG x0 vx vd lo hi)) + ((m : Nat) : Int)) * 64) (((spl (aG y0 vy vd lo hi)) + ((n : Nat) : Int)) * 64) (((spl (aG x0 vx vd lo hi)) + ((m : Nat) : Int)) * 64 + 64) (((spl (aG y0 vy vd lo hi)) + ((n : Nat) : Int)) * 64 + 64) x0 y0 x1 y1) ((((spl (aG x0 vx vd lo hi)) + ((m : Nat) : Int)) * 64) - x1)), .int .i64 (mkV (eh (((spl (aG x0 vx vd lo hi)) + ((m : Nat) : Int)) * 64) (((spl (aG y0 vy vd lo hi)) + ((n : Nat) : Int)) * 64) (((spl (aG x0 vx vd lo hi)) + ((m : Nat) : Int)) * 64 + 64) (((spl (aG y0 vy vd lo hi)) + ((n : Nat) : Int)) * 64 + 64) x0 y0 x1 y1) ((((spl (aG y0 vy vd lo hi)) + ((n : Nat) : Int)) * 64) - y1)), .int .i64 (mkV (eh (((spl (aG x0 vx vd lo hi)) + ((m : Nat) : Int)) * 64) (((spl (aG y0 vy vd lo hi)) + ((n : Nat) : Int)) * 64) (((spl (aG x0 vx vd lo hi)) + ((m : Nat) : Int)) * 64 + 64) (((spl (aG y0 vy vd lo hi)) + ((n : Nat) : Int)) * 64 + 64) x0 y0 x1 y1) ((((spl (aG x0 vx vd lo hi)) + ((m : Nat) : Int)) * 64 + 64) - x0)), .int .i64 (mkV (eh (((spl (aG x0 vx vd lo hi)) + ((m : Nat) : Int)) * 64) (((spl (aG y0 vy vd lo hi)) + ((n : Nat) : Int)) * 64) (((spl (aG x0 vx vd lo hi)) + ((m : Nat) : Int)) * 64 + 64) (((spl (aG y0 vy vd lo hi)) + ((n : Nat) : Int)) * 64 + 64) x0 y0 x1 y1) ((((spl (aG y0 vy vd lo hi)) + ((n : Nat) : Int)) * 64 + 64) - y0))]]) ?_ ?_
     ·refine aR ?_ (aR ?_ (aR ?_ (cn))) <;> intro J hJ
      ·skip
       refine aM g'11 ?_
       refine aP (by kernel_rfl) (gL _ ((spl (aG x0 vx vd lo hi)) + ((m : Nat) : Int)) ((spl (aG y0 vy vd lo hi)) + ((n : Nat) : Int)) (by omega) (by omega)) ?_
       refine aM g'11 ?_
       refine aP (by kernel_rfl) (kf _ (((spl (aG x0 vx vd lo hi)) + ((m : Nat) : Int)) * 64) (((spl (aG y0 vy vd lo hi)) + ((n : Nat) : Int)) * 64) (((spl (aG x0 vx vd lo hi)) + ((m : Nat) : Int)) * 64 + 64) (((spl (aG y0 vy vd lo hi)) + ((n : Nat) : Int)) * 64 + 64) x0 y0 x1 y1 (by omega) (by omega) (by omega) (by omega) (by omega) (by omega) (by omega) (by omega)) ?_
       refine aM g'11 ?_
       refine aZ (hJ _ _ ⟨_, _, _, ⟨rfl, rfl⟩, Abs.byG hbel [] rfl [0, 1, 2, 3, 4] (by decide) ?_⟩)
       exact eX
      ·skip
       refine aM g'11 ?_
       refine aP (by kernel_rfl) (gL _ ((spl (aG x0 vx vd lo hi)) + ((m : Nat) : Int)) ((spl (aG y0 vy vd lo hi)) + ((n : Nat) : Int)) (by omega) (by omega)) ?_
       refine aM g'11 ?_
       refine aP (by kernel_rfl) (kf _ (((spl (aG x0 vx vd lo hi)) + ((m : Nat) : Int)) * 64) (((spl (aG y0 vy vd lo hi)) + ((n : Nat) : Int)) * 64) (((spl (aG x0 vx vd lo hi)) + ((m : Nat) : Int)) * 64 + 64) (((spl (aG y0 vy vd lo hi)) + ((n : Nat) : Int)) * 64 + 64) x0 y0 x1 y1 (by omega) (by omega) (by omega) (by omega) (by omega) (by omega) (by omega) (by omega)) ?_
       refine aM g'11 ?_
       refine aZ (hJ _ _ ⟨_, _, _, ⟨rfl, rfl⟩, Abs.byG hbel [] rfl [0, 1, 2, 3, 4] (by decide) ?_⟩)
       exact eX
      ·skip
       refine aM g'11 ?_
       refine aP (by kernel_rfl) (gL _ ((spl (aG x0 vx vd lo hi)) + ((m : Nat) : Int)) ((spl (aG y0 vy vd lo hi)) + ((n : Nat) : Int)) (by omega) (by omega)) ?_
       refine aM g'11 ?_
       refine aP (by kernel_rfl) (kf _ (((spl (aG x0 vx vd lo hi)) + ((m : Nat) : Int)) * 64) (((spl (aG y0 vy vd lo hi)) + ((n : Nat) : Int)) * 64) (((spl (aG x0 vx vd lo hi)) + ((m : Nat) : Int)) * 64 + 64) (((spl (aG y0 vy vd lo hi)) + ((n : Nat) : Int)) * 64 + 64) x0 y0 x1 y1 (by omega) (by omega) (by omega) (by omega) (by omega) (by omega) (by omega) (by omega)) ?_
       refine aM g'11 ?_
       refine aZ (hJ _ _ ⟨_, _, _, ⟨rfl, rfl⟩, Abs.byG hbel [] rfl [0, 1, 2, 3, 4] (by decide) ?_⟩)
       exact eX
     rintro F2 H2 ⟨rfl, rfl⟩
     refine aI true try_mixed (by kernel_rfl) ?_
     refine aa g'11 ?_
     refine az (fun h3 => ?_) (fun h3 => ?_)
     ·have h3d := bsT h3
      have hmn := h3d
      have g'12 := (jn @h3 (jn @h3d g'11))
      refine aa g'12 ?_
      refine aj (by kernel_rfl) (gz _ 0 0 vx vy vd lo hi (mkV true ((((spl (aG x0 vx vd lo hi)) + ((m : Nat) : Int)) * 64) - x1)) (mkV true ((((spl (aG y0 vy vd lo hi)) + ((n : Nat) : Int)) * 64) - y1)) (mkV true ((((spl (aG x0 vx vd lo hi)) + ((m : Nat) : Int)) * 64 + 64) - x0)) (mkV true ((((spl (aG y0 vy vd lo hi)) + ((n : Nat) : Int)) * 64 + 64) - y0))) ?_
      refine aa g'12 ?_
      refine aq (fun h4 => ?_) (fun h4 => ?_)
      ·have h4d := bsT h4
       have hov : co x0 y0 x1 y1 vx vy vd lo hi ((spl (aG x0 vx vd lo hi)) + ((m : Nat) : Int)) ((spl (aG y0 vy vd lo hi)) + ((n : Nat) : Int)) = true := by have q := h4d; unfold co; rw [hmn]; exact q
       have g'13 := (jn @h4 (jn @h4d (jn @dI g'12)))
       refine aa g'13 ?_
       refine hn10 _ _ ?_
       refine hn9 _ _ ?_
       refine aI true try_mixed (by kernel_rfl) ?_
       refine aa g'13 ?_
       refine hJ1 _ _ ⟨k1 - 1, by omega, _, _, _, ⟨m + 1, by omega, rfl, rfl⟩, Abs.byG hbel [] rfl [0, 1, 6] (by decide) ?_⟩
       exact aN (jn @rowR.eq_2 (jn @hov (jn @if_true.{1} (jn @if_false.{1} (jn @Bool.false_eq_true (jn @List.append_nil.{0} (jn @List.append_assoc.{0} (jn @Int.natCast_add (jn @Int.natCast_one @Int.add_assoc)))))))))
      ·have h4d := bsT h4
       have hov : co x0 y0 x1 y1 vx vy vd lo hi ((spl (aG x0 vx vd lo hi)) + ((m : Nat) : Int)) ((spl (aG y0 vy vd lo hi)) + ((n : Nat) : Int)) = false := by have q := h4d; unfold co; rw [hmn]; exact q
       have g'14 := (jn @h4 (jn @h4d g'12))
       refine aa g'14 ?_
       refine hn10 _ _ ?_
       refine hn9 _ _ ?_
       refine aI true try_mixed (by kernel_rfl) ?_
       refine aa g'14 ?_
       refine hJ1 _ _ ⟨k1 - 1, by omega, _, _, _, ⟨m + 1, by omega, rfl, rfl⟩, Abs.byG hbel [] rfl [0, 1, 2] (by decide) ?_⟩
       exact aN (jn @rowR.eq_2 (jn @hov (jn @if_true.{1} (jn @if_false.{1} (jn @Bool.false_eq_true (jn @List.append_nil.{0} (jn @List.append_assoc.{0} (jn @Int.natCast_add (jn @Int.natCast_one @Int.add_assoc)))))))))
     ·have h3d := bsT h3
      have hov : co x0 y0 x1 y1 vx vy vd lo hi ((spl (aG x0 vx vd lo hi)) + ((m : Nat) : Int)) ((spl (aG y0 vy vd lo hi)) + ((n : Nat) : Int)) = false := by unfold co; rw [h3d]; rfl
      have g'15 := (jn @h3 (jn @h3d g'11))
      refine aa g'15 ?_
      refine hn10 _ _ ?_
      refine hn9 _ _ ?_
      refine aI true try_mixed (by kernel_rfl) ?_
      refine aa g'15 ?_
      refine hJ1 _ _ ⟨k1 - 1, by omega, _, _, _, ⟨m + 1, by omega, rfl, rfl⟩, Abs.byG hbel [] rfl [0, 1, 2] (by decide) ?_⟩
      exact aN (jn @rowR.eq_2 (jn @hov (jn @if_true.{1} (jn @if_false.{1} (jn @Bool.false_eq_true (jn @List.append_nil.{0} (jn @List.append_assoc.{0} (jn @Int.natCast_add (jn @Int.natCast_one @Int.add_assoc)))))))))
    ·have h2d := bsT h2
     obtain rfl : m = (ce (aG x0 vx vd lo hi) (bH x1 vx vd lo hi)) := by omega
     have g'16 := (jn @h2 (jn @h2d g'10))
     refine aa g'16 ?_
     refine he8 _ _ _ ?_
     refine he7 _ _ _ ?_
     refine hb6 _ _ ?_
     refine hn4 _ _ ?_
     refine hn3 _ _ ?_
     refine aI true try_mixed (by kernel_rfl) ?_
     refine aa g'16 ?_
     refine hJ0 _ _ ⟨k0 - 1, by omega, _, _, _, ⟨n + 1, by omega, rfl, rfl⟩, Abs.byG hbel [] rfl [0, 1, 2] (by decide) ?_⟩
     exact aN (jn @gridR_s (jn @Int.natCast_add (jn @Int.natCast_one @Int.add_assoc)))
  ·have h1d := bsT h1
   obtain rfl : n = ce (aG y0 vy vd lo hi) (bH y1 vy vd lo hi) := by omega
   have g'17 := (jn @h1 (jn @h1d g'9))
   refine aa g'17 ?_
   refine he2 _ _ _ ?_
   refine he1 _ _ _ ?_
   refine aa g'17 ?_
   refine hQ _ _ (br (.inl rfl) hbel (x1 := .sl (some (H.length + 2, 0)) ((ct (co x0 y0 x1 y1 vx vy vd lo hi) (spl (aG x0 vx vd lo hi)) (ce (aG x0 vx vd lo hi) (bH x1 vx vd lo hi)) (spl (aG y0 vy vd lo hi)) (ce (aG y0 vy vd lo hi) (bH y1 vy vd lo hi))).length) (bA (ct (co x0 y0 x1 y1 vx vy vd lo hi) (spl (aG x0 vx vd lo hi)) (ce (aG x0 vx vd lo hi) (bH x1 vx vd lo hi)) (spl (aG y0 vy vd lo hi)) (ce (aG y0 vy vd lo hi) (bH y1 vy vd lo hi))).length)) (l2 := [.cells (bm (ct (co x0 y0 x1 y1 vx vy vd lo hi) (spl (aG x0 vx vd lo hi)) (ce (aG x0 vx vd lo hi) (bH x1 vx vd lo hi)) (spl (aG y0 vy vd lo hi)) (ce (aG y0 vy vd lo hi) (bH y1 vy vd lo hi))).length) 2 (prs (ct (co x0 y0 x1 y1 vx vy vd lo hi) (spl (aG x0 vx vd lo hi)) (ce (aG x0 vx vd lo hi) (bH x1 vx vd lo hi)) (spl (aG y0 vy vd lo hi)) (ce (aG y0 vy vd lo hi) (bH y1 vy vd lo hi))))]) (.sl (some (H.length, 0)) ((ct (co x0 y0 x1 y1 vx vy vd lo hi) (spl (aG x0 vx vd lo hi)) (ce (aG x0 vx vd lo hi) (bH x1 vx vd lo hi)) (spl (aG y0 vy vd lo hi)) (ce (aG y0 vy vd lo hi) (bH y1 vy vd lo hi))).length) (bA (ct (co x0 y0 x1 y1 vx vy vd lo hi) (spl (aG x0 vx vd lo hi)) (ce (aG x0 vx vd lo hi) (bH x1 vx vd lo hi)) (spl (aG y0 vy vd lo hi)) (ce (aG y0 vy vd lo hi) (bH y1 vy vd lo hi))).length)) (av Tryz.results178) [] rfl [2] (by decide) ⟨rfl, rfl⟩ ?_)
   exact bj
theorem kj (H : ac) (px : Int) (py : Int) (vx : Int) (vy : Int) (vd : Int) (lo : Int) (hi : Int) : ACalls Tryz.prog 156 [.agg [.int .i64 px, .int .i64 py], .agg [.int .i64 vx, .int .i64 vy, .int .i64 vd], .int .i64 lo, .int .i64 hi] H (fun v H' => v = .tup [.sl (some (H.length, 0)) ((trL px py vx vy vd lo hi).length) (bA (trL px py vx vy vd lo hi).length), .int .i64 (trE px py vx vy vd lo hi)] ∧ H' = H ++ [.cells (bm (trL px py vx vy vd lo hi).length) 2 (prs (trL px py vx vy vd lo hi))]) := by
 refine AcT true Tryz.func156 ?_; intro hbel Q hQ
 refine bi ?_
 refine aj (by kernel_rfl) (pvpt_c _ px py) ?_
 refine bi ?_
 refine az (fun h1 => ?_) (fun h1 => ?_)
 ·have h1d := bsT h1
  have hp1 := h1d
  have hp2 := lS.1 hp1
  have g'18 := (jn @h1 @h1d)
  refine aa g'18 ?_
  refine aj (by kernel_rfl) (pvv_c _ vx vy vd) ?_
  refine aa g'18 ?_
  refine aq (fun h2 => ?_) (fun h2 => ?_)
  ·have h2d := bsT h2
   have hz := trE_1 (px := px) (py := py) (vx := vx) (vy := vy) (vd := vd) (lo := lo) (hi := hi) (fun hh => by rw [h2d] at hh; exact absurd hh.2 (by decide))
   have hfinE := hz.1
   have hfinL := hz.2
   have g'19 := (jn @h2 (jn @h2d g'18))
   refine aa g'19 ?_
   refine hQ _ _ (br (.inl rfl) hbel (x1 := .tup [.sl none 0 (some 0), .int .i64 1]) (l2 := [.cells false 2 []]) (.tup [.sl (some (H.length, 0)) 0 (some 0), .int .i64 1]) (av Tryz.results156) [.cells false 2 []] rfl [2] (by decide) ⟨by first | (rw [hfinL, hfinE]; done) | (rw [hfinL, hfinE]; rfl) | (rw [hfinL]; done) | (rw [hfinL]; rfl), by first | (rw [hfinL, hfinE]; done) | (rw [hfinL, hfinE]; rfl) | (rw [hfinL]; done) | (rw [hfinL]; rfl)⟩ ?_)
   exact bj
  ·have h2d := bsT h2
   have hv := h2d
   have g'20 := (jn @h2 (jn @h2d g'18))
   refine aa g'20 ?_
   refine az (fun h3 => ?_) (fun h3 => ?_)
   ·have h3d := bsT h3
    have g'21 := (jn @h3 (jn @h3d g'20))
    refine aa g'21 ?_
    refine az (fun h4 => ?_) (fun h4 => ?_)
    ·have h4d := bsT h4
     have g'22 := (jn @h4 (jn @h4d g'21))
     refine aa g'22 ?_
     refine aq (fun h5 => ?_) (fun h5 => ?_)
     ·have h5d := bsT h5
      have hz := trE_2 (lo := lo) (hi := hi) hp1 hv (by omega)
      have hfinE := hz.1
      have hfinL := hz.2
      have g'23 := (jn @h5 (jn @h5d g'22))
      refine aa g'23 ?_
      refine hQ _ _ (br (.inl rfl) hbel (x1 := .tup [.sl none 0 (some 0), .int .i64 2]) (l2 := [.cells false 2 []]) (.tup [.sl (some (H.length, 0)) 0 (some 0), .int .i64 2]) (av Tryz.results156) [.cells false 2 []] rfl [2] (by decide) ⟨by first | (rw [hfinL, hfinE]; done) | (rw [hfinL, hfinE]; rfl) | (rw [hfinL]; done) | (rw [hfinL]; rfl), by first | (rw [hfinL, hfinE]; done) | (rw [hfinL, hfinE]; rfl) | (rw [hfinL]; done) | (rw [hfinL]; rfl)⟩ ?_)
      exact bj
     ·have h5d := bsT h5
      have hlh : 0 ≤ lo ∧ lo ≤ hi ∧ hi ≤ 2048 := by omega
      have hz := trE_0 hp1 hv hlh
      have hfinE := hz.1
      have hfinL := hz.2
      have g'24 := (jn @h5 (jn @h5d g'22))
      refine aa g'24 ?_
      refine aj (by kernel_rfl) (tK _ px py px py vx vy vd lo hi (by omega) (by omega) (by assumption) (by omega)) ?_
      refine aa g'24 ?_
      refine hQ _ _ (br (.inl rfl) hbel (x1 := .tup [.sl (some (H.length + 2, 0)) ((dh px py px py vx vy vd lo hi).length) (bA (dh px py px py vx vy vd lo hi).length), .int .i64 0]) (l2 := [.cells (bm (dh px py px py vx vy vd lo hi).length) 2 (prs (dh px py px py vx vy vd lo hi))]) (.tup [.sl (some (H.length, 0)) ((dh px py px py vx vy vd lo hi).length) (bA (dh px py px py vx vy vd lo hi).length), .int .i64 0]) (av Tryz.results156) [] rfl [2] (by decide) ⟨by first | (rw [hfinL, hfinE]; done) | (rw [hfinL, hfinE]; rfl) | (rw [hfinL]; done) | (rw [hfinL]; rfl), by first | (rw [hfinL, hfinE]; done) | (rw [hfinL, hfinE]; rfl) | (rw [hfinL]; done) | (rw [hfinL]; rfl)⟩ ?_)
      exact bj
    ·have h4d := bsT h4
     have hz := trE_2 (lo := lo) (hi := hi) hp1 hv (by omega)
     have hfinE := hz.1
     have hfinL := hz.2
     have g'25 := (jn @h4 (jn @h4d g'21))
     refine aa g'25 ?_
     refine hQ _ _ (br (.inl rfl) hbel (x1 := .tup [.sl none 0 (some 0), .int .i64 2]) (l2 := [.cells false 2 []]) (.tup [.sl (some (H.length, 0)) 0 (some 0), .int .i64 2]) (av Tryz.results156) [.cells false 2 []] rfl [2] (by decide) ⟨by first | (rw [hfinL, hfinE]; done) | (rw [hfinL, hfinE]; rfl) | (rw [hfinL]; done) | (rw [hfinL]; rfl), by first | (rw [hfinL, hfinE]; done) | (rw [hfinL, hfinE]; rfl) | (rw [hfinL]; done) | (rw [hfinL]; rfl)⟩ ?_)
     exact bj
   ·have h3d := bsT h3
    have hz := trE_2 (lo := lo) (hi := hi) hp1 hv (by omega)
    have hfinE := hz.1
    have hfinL := hz.2
    have g'26 := (jn @h3 (jn @h3d g'20))
    refine aa g'26 ?_
    refine hQ _ _ (br (.inl rfl) hbel (x1 := .tup [.sl none 0 (some 0), .int .i64 2]) (l2 := [.cells false 2 []]) (.tup [.sl (some (H.length, 0)) 0 (some 0), .int .i64 2]) (av Tryz.results156) [.cells false 2 []] rfl [2] (by decide) ⟨by first | (rw [hfinL, hfinE]; done) | (rw [hfinL, hfinE]; rfl) | (rw [hfinL]; done) | (rw [hfinL]; rfl), by first | (rw [hfinL, hfinE]; done) | (rw [hfinL, hfinE]; rfl) | (rw [hfinL]; done) | (rw [hfinL]; rfl)⟩ ?_)
    exact bj
 ·have h1d := bsT h1
  have hz := trE_1 (px := px) (py := py) (vx := vx) (vy := vy) (vd := vd) (lo := lo) (hi := hi) (fun hh => by rw [h1d] at hh; exact absurd hh.1 (by decide))
  have hfinE := hz.1
  have hfinL := hz.2
  have g'27 := (jn @h1 @h1d)
  refine aa g'27 ?_
  refine hQ _ _ (br (.inl rfl) hbel (x1 := .tup [.sl none 0 (some 0), .int .i64 1]) (l2 := [.cells false 2 []]) (.tup [.sl (some (H.length, 0)) 0 (some 0), .int .i64 1]) (av Tryz.results156) [.cells false 2 []] rfl [2] (by decide) ⟨by first | (rw [hfinL, hfinE]; done) | (rw [hfinL, hfinE]; rfl) | (rw [hfinL]; done) | (rw [hfinL]; rfl), by first | (rw [hfinL, hfinE]; done) | (rw [hfinL, hfinE]; rfl) | (rw [hfinL]; done) | (rw [hfinL]; rfl)⟩ ?_)
  exact bj
theorem swept_c (H : ac) (x0 : Int) (y0 : Int) (x1 : Int) (y1 : Int) (vx : Int) (vy : Int) (vd : Int) (lo : Int) (hi : Int) : ACalls Tryz.prog 137 [.agg [.int .i64 x0, .int .i64 y0, .int .i64 x1, .int .i64 y1], .agg [.int .i64 vx, .int .i64 vy, .int .i64 vd], .int .i64 lo, .int .i64 hi] H (fun v H' => v = .tup [.sl (some (H.length, 0)) ((cC x0 y0 x1 y1 vx vy vd lo hi).length) (bA (cC x0 y0 x1 y1 vx vy vd lo hi).length), .int .i64 (eJ x0 y0 x1 y1 vx vy vd lo hi)] ∧ H' = H ++ [.cells (bm (cC x0 y0 x1 y1 vx vy vd lo hi).length) 2 (prs (cC x0 y0 x1 y1 vx vy vd lo hi))]) := by
 refine AcT true Tryz.func137 ?_; intro hbel Q hQ
 refine bi ?_
 refine aj (by kernel_rfl) (pvrc_c _ x0 y0 x1 y1) ?_
 refine bi ?_
 refine az (fun h1 => ?_) (fun h1 => ?_)
 ·have h1d := bsT h1
  have hp1 := h1d
  have hp2 := tE.1 hp1
  have g'28 := (jn @h1 @h1d)
  refine aa g'28 ?_
  refine aj (by kernel_rfl) (pvv_c _ vx vy vd) ?_
  refine aa g'28 ?_
  refine aq (fun h2 => ?_) (fun h2 => ?_)
  ·have h2d := bsT h2
   have hz := sptE_1 (x0 := x0) (y0 := y0) (x1 := x1) (y1 := y1) (vx := vx) (vy := vy) (vd := vd) (lo := lo) (hi := hi) (fun hh => by rw [h2d] at hh; exact absurd hh.2 (by decide))
   have hfinE := hz.1
   have hfinL := hz.2
   have g'29 := (jn @h2 (jn @h2d g'28))
   refine aa g'29 ?_
   refine hQ _ _ (br (.inl rfl) hbel (x1 := .tup [.sl none 0 (some 0), .int .i64 1]) (l2 := [.cells false 2 []]) (.tup [.sl (some (H.length, 0)) 0 (some 0), .int .i64 1]) (av Tryz.results137) [.cells false 2 []] rfl [2] (by decide) ⟨by first | (rw [hfinL, hfinE]; done) | (rw [hfinL, hfinE]; rfl) | (rw [hfinL]; done) | (rw [hfinL]; rfl), by first | (rw [hfinL, hfinE]; done) | (rw [hfinL, hfinE]; rfl) | (rw [hfinL]; done) | (rw [hfinL]; rfl)⟩ ?_)
   exact bj
  ·have h2d := bsT h2
   have hv := h2d
   have g'30 := (jn @h2 (jn @h2d g'28))
   refine aa g'30 ?_
   refine az (fun h3 => ?_) (fun h3 => ?_)
   ·have h3d := bsT h3
    have g'31 := (jn @h3 (jn @h3d g'30))
    refine aa g'31 ?_
    refine az (fun h4 => ?_) (fun h4 => ?_)
    ·have h4d := bsT h4
     have g'32 := (jn @h4 (jn @h4d g'31))
     refine aa g'32 ?_
     refine aq (fun h5 => ?_) (fun h5 => ?_)
     ·have h5d := bsT h5
      have hz := sptE_2 (lo := lo) (hi := hi) hp1 hv (by omega)
      have hfinE := hz.1
      have hfinL := hz.2
      have g'33 := (jn @h5 (jn @h5d g'32))
      refine aa g'33 ?_
      refine hQ _ _ (br (.inl rfl) hbel (x1 := .tup [.sl none 0 (some 0), .int .i64 2]) (l2 := [.cells false 2 []]) (.tup [.sl (some (H.length, 0)) 0 (some 0), .int .i64 2]) (av Tryz.results137) [.cells false 2 []] rfl [2] (by decide) ⟨by first | (rw [hfinL, hfinE]; done) | (rw [hfinL, hfinE]; rfl) | (rw [hfinL]; done) | (rw [hfinL]; rfl), by first | (rw [hfinL, hfinE]; done) | (rw [hfinL, hfinE]; rfl) | (rw [hfinL]; done) | (rw [hfinL]; rfl)⟩ ?_)
      exact bj
     ·have h5d := bsT h5
      have hlh : 0 ≤ lo ∧ lo ≤ hi ∧ hi ≤ 2048 := by omega
      have g'34 := (jn @h5 (jn @h5d g'32))
      refine aa g'34 ?_
      refine az (fun h6 => ?_) (fun h6 => ?_)
      ·have h6d := bsT h6
       have g'35 := (jn @h6 (jn @h6d g'34))
       refine aa g'35 ?_
       refine aq (fun h7 => ?_) (fun h7 => ?_)
       ·have h7d := bsT h7
        have hz := sptE_6 hp1 hv hlh (.inr h7d)
        have hfinE := hz.1
        have hfinL := hz.2
        have g'36 := (jn @h7 (jn @h7d g'35))
        refine aa g'36 ?_
        refine hQ _ _ (br (.inl rfl) hbel (x1 := .tup [.sl none 0 (some 0), .int .i64 6]) (l2 := [.cells false 2 []]) (.tup [.sl (some (H.length, 0)) 0 (some 0), .int .i64 6]) (av Tryz.results137) [.cells false 2 []] rfl [2] (by decide) ⟨by first | (rw [hfinL, hfinE]; done) | (rw [hfinL, hfinE]; rfl) | (rw [hfinL]; done) | (rw [hfinL]; rfl), by first | (rw [hfinL, hfinE]; done) | (rw [hfinL, hfinE]; rfl) | (rw [hfinL]; done) | (rw [hfinL]; rfl)⟩ ?_)
        exact bj
       ·have h7d := bsT h7
        have hz := sptE_0 hp1 hv hlh (by omega)
        have hfinE := hz.1
        have hfinL := hz.2
        have g'37 := (jn @h7 (jn @h7d g'35))
        refine aa g'37 ?_
        refine aj (by kernel_rfl) (tK _ x0 y0 x1 y1 vx vy vd lo hi (by omega) (by omega) (by assumption) (by omega)) ?_
        refine aa g'37 ?_
        refine hQ _ _ (br (.inl rfl) hbel (x1 := .tup [.sl (some (H.length + 2, 0)) ((dh x0 y0 x1 y1 vx vy vd lo hi).length) (bA (dh x0 y0 x1 y1 vx vy vd lo hi).length), .int .i64 0]) (l2 := [.cells (bm (dh x0 y0 x1 y1 vx vy vd lo hi).length) 2 (prs (dh x0 y0 x1 y1 vx vy vd lo hi))]) (.tup [.sl (some (H.length, 0)) ((dh x0 y0 x1 y1 vx vy vd lo hi).length) (bA (dh x0 y0 x1 y1 vx vy vd lo hi).length), .int .i64 0]) (av Tryz.results137) [] rfl [2] (by decide) ⟨by first | (rw [hfinL, hfinE]; done) | (rw [hfinL, hfinE]; rfl) | (rw [hfinL]; done) | (rw [hfinL]; rfl), by first | (rw [hfinL, hfinE]; done) | (rw [hfinL, hfinE]; rfl) | (rw [hfinL]; done) | (rw [hfinL]; rfl)⟩ ?_)
        exact bj
      ·have h6d := bsT h6
       have hz := sptE_6 hp1 hv hlh (.inl h6d)
       have hfinE := hz.1
       have hfinL := hz.2
       have g'38 := (jn @h6 (jn @h6d g'34))
       refine aa g'38 ?_
       refine hQ _ _ (br (.inl rfl) hbel (x1 := .tup [.sl none 0 (some 0), .int .i64 6]) (l2 := [.cells false 2 []]) (.tup [.sl (some (H.length, 0)) 0 (some 0), .int .i64 6]) (av Tryz.results137) [.cells false 2 []] rfl [2] (by decide) ⟨by first | (rw [hfinL, hfinE]; done) | (rw [hfinL, hfinE]; rfl) | (rw [hfinL]; done) | (rw [hfinL]; rfl), by first | (rw [hfinL, hfinE]; done) | (rw [hfinL, hfinE]; rfl) | (rw [hfinL]; done) | (rw [hfinL]; rfl)⟩ ?_)
       exact bj
    ·have h4d := bsT h4
     have hz := sptE_2 (lo := lo) (hi := hi) hp1 hv (by omega)
     have hfinE := hz.1
     have hfinL := hz.2
     have g'39 := (jn @h4 (jn @h4d g'31))
     refine aa g'39 ?_
     refine hQ _ _ (br (.inl rfl) hbel (x1 := .tup [.sl none 0 (some 0), .int .i64 2]) (l2 := [.cells false 2 []]) (.tup [.sl (some (H.length, 0)) 0 (some 0), .int .i64 2]) (av Tryz.results137) [.cells false 2 []] rfl [2] (by decide) ⟨by first | (rw [hfinL, hfinE]; done) | (rw [hfinL, hfinE]; rfl) | (rw [hfinL]; done) | (rw [hfinL]; rfl), by first | (rw [hfinL, hfinE]; done) | (rw [hfinL, hfinE]; rfl) | (rw [hfinL]; done) | (rw [hfinL]; rfl)⟩ ?_)
     exact bj
   ·have h3d := bsT h3
    have hz := sptE_2 (lo := lo) (hi := hi) hp1 hv (by omega)
    have hfinE := hz.1
    have hfinL := hz.2
    have g'40 := (jn @h3 (jn @h3d g'30))
    refine aa g'40 ?_
    refine hQ _ _ (br (.inl rfl) hbel (x1 := .tup [.sl none 0 (some 0), .int .i64 2]) (l2 := [.cells false 2 []]) (.tup [.sl (some (H.length, 0)) 0 (some 0), .int .i64 2]) (av Tryz.results137) [.cells false 2 []] rfl [2] (by decide) ⟨by first | (rw [hfinL, hfinE]; done) | (rw [hfinL, hfinE]; rfl) | (rw [hfinL]; done) | (rw [hfinL]; rfl), by first | (rw [hfinL, hfinE]; done) | (rw [hfinL, hfinE]; rfl) | (rw [hfinL]; done) | (rw [hfinL]; rfl)⟩ ?_)
    exact bj
 ·have h1d := bsT h1
  have hz := sptE_1 (x0 := x0) (y0 := y0) (x1 := x1) (y1 := y1) (vx := vx) (vy := vy) (vd := vd) (lo := lo) (hi := hi) (fun hh => by rw [h1d] at hh; exact absurd hh.1 (by decide))
  have hfinE := hz.1
  have hfinL := hz.2
  have g'41 := (jn @h1 @h1d)
  refine aa g'41 ?_
  refine hQ _ _ (br (.inl rfl) hbel (x1 := .tup [.sl none 0 (some 0), .int .i64 1]) (l2 := [.cells false 2 []]) (.tup [.sl (some (H.length, 0)) 0 (some 0), .int .i64 1]) (av Tryz.results137) [.cells false 2 []] rfl [2] (by decide) ⟨by first | (rw [hfinL, hfinE]; done) | (rw [hfinL, hfinE]; rfl) | (rw [hfinL]; done) | (rw [hfinL]; rfl), by first | (rw [hfinL, hfinE]; done) | (rw [hfinL, hfinE]; rfl) | (rw [hfinL]; done) | (rw [hfinL]; rfl)⟩ ?_)
  exact bj
open Go.RowKit
def dirE (b : T6) (m h : Int) : T9 := (b.1, b.2.1, b.2.2.1, b.2.2.2.1, b.2.2.2.2.1, b.2.2.2.2.2, (bN h m).1, (bN h m).2.1, (bN h m).2.2)
def mkB (b : T6) : List Int := bk b.2.2.2.2.1 b.2.2.2.2.2.toNat
def dirB (b : T6) (m : Int) : Nat → List T9
 | 0 => []
 | j + 1 => dirB b m j ++ [dirE b m (gi (mkB b) j)]
def dirS (l : List T6) (m : Int) : Nat → List T9
 | 0 => []
 | i + 1 => dirS l m i ++ dirB (g6 l i) m (mkB (g6 l i)).length
def aC (l : List T6) (m : Int) : List T9 := dirS l m l.length
theorem io (b : T6) (m : Int) : ∀ j : Nat, (dirB b m j).length = j
 | 0 => rfl
 | j + 1 => by simp only [dirB, List.length_append, io b m j]; rfl
theorem lT {l : List T6} (h : bU l = true) {i : Nat} (hi : i < l.length) : 1 ≤ (mkB (g6 l i)).length ∧ (mkB (g6 l i)).length ≤ 256 ∧ (((mkB (g6 l i)).length : Nat) : Int) = g66 l i := by
 have := g66_bd h hi
 unfold mkB
 rw [dT]
 have e : (g6 l i).2.2.2.2.2 = g66 l i := rfl
 rw [e]; omega
theorem kl {l : List T6} (h : bU l = true) (m : Int) : ∀ i : Nat, i ≤ l.length → i ≤ (dirS l m i).length ∧ (dirS l m i).length ≤ 256 * i
 | 0, _ => by simp [dirS]
 | i + 1, hi => by
  have ih := kl h m i (by omega)
  have k := lT h (show i < l.length by omega)
  simp only [dirS, List.length_append, io]; omega
theorem km {l : List T6} (h : bU l = true) (m : Int) : l.length ≤ (aC l m).length ∧ (aC l m).length ≤ 4096 := by
 have a := kl h m l.length (Nat.le_refl _)
 have b := fk h
 unfold aC; omega
theorem tL {b : T6} {m : Int} {e : T9} : ∀ {j : Nat}, j ≤ (mkB b).length → (e ∈ dirB b m j ↔ ∃ q : Nat, q < j ∧ e = dirE b m (gi (mkB b) q))
 | 0, _ => by simp [dirB]
 | j + 1, hj => by
  rw [dirB, List.mem_append, tL (by omega), List.mem_singleton]
  constructor
  ·rintro (⟨q, hq, rfl⟩ | rfl)
   ·exact ⟨q, by omega, rfl⟩
   ·exact ⟨j, by omega, rfl⟩
  ·rintro ⟨q, hq, rfl⟩
   rcases Nat.lt_or_ge q j with h | h
   ·exact .inl ⟨q, h, rfl⟩
   ·obtain rfl : q = j := by omega
    exact .inr rfl
theorem tM {l : List T6} {m : Int} {e : T9} : ∀ {i : Nat}, i ≤ l.length → (e ∈ dirS l m i ↔ ∃ j q : Nat, j < i ∧ q < (mkB (g6 l j)).length ∧ e = dirE (g6 l j) m (gi (mkB (g6 l j)) q))
 | 0, _ => by simp [dirS]
 | i + 1, hi => by
  rw [dirS, List.mem_append, tM (by omega), tL (Nat.le_refl _)]
  constructor
  ·rintro (⟨j, q, h1, h2, h3⟩ | ⟨q, h2, h3⟩)
   ·exact ⟨j, q, by omega, h2, h3⟩
   ·exact ⟨i, q, by omega, h2, h3⟩
  ·rintro ⟨j, q, h1, h2, h3⟩
   rcases Nat.lt_or_ge j i with h | h
   ·exact .inl ⟨j, q, h, h2, h3⟩
   ·obtain rfl : j = i := by omega
    exact .inr ⟨q, h2, h3⟩
def pairB (e : T9) : Bool := bxB e.1 e.2.1 e.2.2.1 e.2.2.2.1 e.2.2.2.2.1 e.2.2.2.2.2.1 && db e.2.2.2.2.2.2.1 e.2.2.2.2.2.2.2.1 e.2.2.2.2.2.2.2.2
theorem dirA_ok {l : List T6} (h : bU l = true) {m : Int} {e : T9} (he : e ∈ aC l m) : pairB e = true := by
 obtain ⟨j, q, hj, hq, rfl⟩ := (tM (Nat.le_refl _)).1 he
 unfold pairB dirE
 rw [Bool.and_eq_true]
 exact ⟨(bX.1 h).2 (g6 l j) (cG hj), beam_ok _ _⟩
def psB (e : T9) (s0 t0 s1 t1 far : Int) : Bool := dF e.1 e.2.1 e.2.2.2.2.2.2.1 e.2.2.2.2.2.2.2.1 e.2.2.2.2.2.2.2.2 far s0 t0 s1 t1 && (dF e.2.2.1 e.2.1 e.2.2.2.2.2.2.1 e.2.2.2.2.2.2.2.1 e.2.2.2.2.2.2.2.2 far s0 t0 s1 t1 && (dF e.1 e.2.2.2.1 e.2.2.2.2.2.2.1 e.2.2.2.2.2.2.2.1 e.2.2.2.2.2.2.2.2 far s0 t0 s1 t1 && dF e.2.2.1 e.2.2.2.1 e.2.2.2.2.2.2.1 e.2.2.2.2.2.2.2.1 e.2.2.2.2.2.2.2.2 far s0 t0 s1 t1))
def psC (e : T9) (far : Int) (c : Int × Int) : Bool := psB e (c.1 * 64) (c.2 * 64) (c.1 * 64 + 64) (c.2 * 64 + 64) far
def prvB (l : List T6) (m far : Int) (c : Int × Int) : Bool := (aC l m).all fun e => psC e far c
def aF (r g : Int) : Int := if r = -1 then 1024 - g else r - g
def aU (l : List T6) (m far : Int) : List (Int × Int) := trL (g91 (aC l m) 0) (g92 (aC l m) 0) (g97 (aC l m) 0) (g98 (aC l m) 0) (g99 (aC l m) 0) 0 far
def bP (W Hh : Int) (l : List T6) (m far : Int) (c : Int × Int) : Bool := btw c.1 0 (W - 1) && (btw c.2 0 (Hh - 1) && prvB l m far c)
def ei (W Hh : Int) (l : List T6) (m r g : Int) : List (Int × Int) := if aF r g ≤ 0 then [] else (aU l m (aF r g)).filter (bP W Hh l m (aF r g))
theorem tN {α : Type} {p : α → Bool} {l : List α} {j : Nat} (h : j < l.length) : (l.take (j + 1)).filter p = (l.take j).filter p ++ (if p l[j] = true then [l[j]] else []) := by
 rw [List.take_succ_eq_append_getElem h, List.filter_append]
 congr 1
 cases hp : p l[j] <;> simp [hp]
theorem flt_len {α : Type} {p : α → Bool} {l : List α} {j : Nat} : ((l.take j).filter p).length ≤ j := by
 have := List.length_filter_le p (l.take j)
 rw [List.length_take] at this; omega
theorem tO (W Hh : Int) (l : List T6) (m r g : Int) : (ei W Hh l m r g).length ≤ 7225 := by
 unfold ei; split
 ·simp
 ·exact Nat.le_trans (List.length_filter_le _ _) (jx _ _ _ _ _ _ _)
theorem trL_mem {px py vx vy vd lo hi : Int} {c : Int × Int} (h : c ∈ trL px py vx vy vd lo hi) : (-32768 ≤ c.1 ∧ c.1 ≤ 32768) ∧ -32768 ≤ c.2 ∧ c.2 ≤ 32768 := by
 unfold trL mkL at h
 split at h
 ·rename_i he
  obtain ⟨h1, h2, hr⟩ := trE_z he
  have hq := lS.1 h1
  exact swp_bd ((swpL_mem (by omega) (by omega) h2 hr).1 h)
 ·cases h
def sqO (x y : Int) : Bool := cF x 16384 && cF y 16384
open Go.RowKit
theorem uy {a b : Int × Int} (h : cP a b) : ¬ cP b a := by unfold cP at *; omega
theorem befP_irr {a : Int × Int} : ¬ cP a a := by unfold cP; omega
theorem fZ {a b c : Int × Int} (h : cP a b) (k : cP b c) : cP a c := by unfold cP at *; omega
theorem tQ (a b : Int × Int) : cP a b ∨ a = b ∨ cP b a := by
 unfold cP
 rcases Int.lt_trichotomy a.2 b.2 with h | h | h
 ·exact .inl (.inl h)
 ·rcases Int.lt_trichotomy a.1 b.1 with k | k | k
  ·exact .inl (.inr ⟨h, k⟩)
  ·exact .inr (.inl (Prod.ext k h))
  ·exact .inr (.inr (.inr ⟨h.symm, k⟩))
 ·exact .inr (.inr (.inl h))
def bQ : List (Int × Int) → List (Int × Int)
 | [] => []
 | [a] => [a]
 | a :: b :: l => if a = b then bQ (b :: l) else a :: bQ (b :: l)
theorem fm : ∀ {l : List (Int × Int)} {x : Int × Int}, x ∈ bQ l ↔ x ∈ l
 | [], _ => Iff.rfl
 | [_], _ => Iff.rfl
 | a :: b :: l, x => by
  unfold bQ
  split
  ·rename_i h
   rw [fm (l := b :: l), List.mem_cons (l := b :: l)]
   exact ⟨.inr, fun k => k.elim (fun q => by rw [q, h]; exact List.mem_cons_self ..) id⟩
  ·rw [List.mem_cons, List.mem_cons (l := b :: l), fm (l := b :: l)]
def leC (a b : Int × Int) : Prop := a = b ∨ cP a b
theorem jS : ∀ {l : List (Int × Int)}, l.Pairwise leC → (bQ l).Pairwise cP
 | [], _ => .nil
 | [a], _ => by unfold bQ; simp
 | a :: b :: l, h => by
  rw [List.pairwise_cons] at h
  have r := jS h.2
  unfold bQ
  split
  ·exact r
  ·rename_i hab
   rw [List.pairwise_cons]
   refine ⟨fun x hx => ?_, r⟩
   have hm := fm.1 hx
   have hb : cP a b := (h.1 b (List.mem_cons_self ..)).resolve_left hab
   rcases List.mem_cons.1 hm with q | q
   ·rw [q]; exact hb
   ·rcases (List.pairwise_cons.1 h.2).1 x q with k | k
    ·rw [← k]; exact hb
    ·exact fZ hb k
def fo (c : Int × Int) : List (Int × Int) → List (Int × Int)
 | [] => [c]
 | a :: l => if a.2 < c.2 ∨ (a.2 = c.2 ∧ a.1 < c.1) then a :: fo c l else if a = c then a :: l else c :: a :: l
theorem kn {c x : Int × Int} : ∀ {l : List (Int × Int)}, x ∈ fo c l ↔ x = c ∨ x ∈ l
 | [] => by simp [fo]
 | a :: l => by
  unfold fo
  split
  ·rw [List.mem_cons, kn (l := l), List.mem_cons]
   exact ⟨fun k => k.elim (.inr ∘ .inl) (fun k => k.elim .inl (.inr ∘ .inr)), fun k => k.elim (.inr ∘ .inl) (fun k => k.elim .inl (.inr ∘ .inr))⟩
  ·split
   ·rename_i h
    exact ⟨.inr, fun k => k.elim (fun q => by rw [q, ← h]; exact List.mem_cons_self ..) id⟩
   ·rw [List.mem_cons]
theorem jT {c : Int × Int} : ∀ {l : List (Int × Int)}, l.Pairwise cP → (fo c l).Pairwise cP
 | [], _ => by unfold fo; simp
 | a :: l, h => by
  rw [List.pairwise_cons] at h
  unfold fo
  split
  ·rename_i k
   rw [List.pairwise_cons]
   refine ⟨fun x hx => ?_, jT h.2⟩
   rcases kn.1 hx with q | q
   ·rw [q]; exact k
   ·exact h.1 x q
  ·rename_i k
   split
   ·exact List.pairwise_cons.2 h
   ·rename_i e
    have hc : cP c a := ((tQ c a).resolve_right fun q => q.elim (fun q => e q.symm) (fun q => k q))
    rw [List.pairwise_cons]
    refine ⟨fun x hx => ?_, List.pairwise_cons.2 h⟩
    rcases List.mem_cons.1 hx with q | q
    ·rw [q]; exact hc
    ·exact fZ hc (h.1 x q)
theorem cpt_put {l s : List (Int × Int)} (hs : s.Pairwise leC) (hm : ∀ x, x ∈ s ↔ x ∈ l) : bQ s = l.foldl (fun o c => fo c o) [] := by
 have g : ∀ (l o : List (Int × Int)), o.Pairwise cP → (l.foldl (fun o c => fo c o) o).Pairwise cP ∧ ∀ x, x ∈ l.foldl (fun o c => fo c o) o ↔ x ∈ l ∨ x ∈ o := by
  intro l
  induction l with
  | nil => exact fun o ho => ⟨ho, fun x => by simp⟩
  | cons a l ih =>
   intro o ho
   have k := ih (fo a o) (jT ho)
   refine ⟨k.1, fun x => ?_⟩
   rw [List.foldl_cons, k.2 x, kn, List.mem_cons]
   exact ⟨fun q => q.elim (.inl ∘ .inr) (fun q => q.elim (.inl ∘ .inl) .inr), fun q => q.elim (fun q => q.elim (.inr ∘ .inl) .inl) (.inr ∘ .inr)⟩
 have k := g l [] .nil
 exact eq_sorted (jS hs) k.1 fun x => by rw [fm, hm, k.2]; simp
theorem tR : ∀ (m : List (Int × Int)) (y x : Int × Int), bQ (m ++ [y] ++ [x]) = bQ (m ++ [y]) ++ (if y = x then [] else [x])
 | [], y, x => by
  show bQ [y, x] = bQ [y] ++ _
  unfold bQ
  split
  ·rename_i h; subst h; simp [bQ]
  ·rename_i h; simp [bQ]
 | [a], y, x => by
  show bQ (a :: y :: [x]) = bQ (a :: y :: []) ++ _
  simp only [bQ]
  by_cases h : a = y
  ·by_cases k : y = x
   ·simp [h, k]
   ·simp [h, k]
  ·by_cases k : y = x
   ·simp [h, k]
   ·simp [h, k]
 | a :: b :: m, y, x => by
  show bQ (a :: b :: (m ++ [y] ++ [x])) = bQ (a :: b :: (m ++ [y])) ++ _
  have ih := tR (b :: m) y x
  simp only [List.cons_append] at ih
  rw [bQ, bQ, ih]
  by_cases h : a = b
  ·rw [if_pos h, if_pos h]
  ·rw [if_neg h, if_neg h, List.cons_append]
theorem ko {l : List (Int × Int)} {j : Nat} (h1 : 1 ≤ j) (hj : j < l.length) : bQ (l.take (j + 1)) = bQ (l.take j) ++ (if l[j - 1]'(by omega) = l[j] then [] else [l[j]]) := by
 obtain ⟨i, rfl⟩ : ∃ i, j = i + 1 := ⟨j - 1, by omega⟩
 have e1 := List.take_succ_eq_append_getElem hj
 have e2 := List.take_succ_eq_append_getElem (show i < l.length by omega)
 rw [e1, e2]
 exact tR _ _ _
theorem cpt_1 {l : List (Int × Int)} (h : l.length < 2) : bQ l = l := by
 match l, h with
 | [], _ => rfl
 | [_], _ => rfl
theorem lU (l : List (Int × Int)) : (bQ l).length ≤ l.length := by
 match l with
 | [] => exact Nat.le_refl _
 | [_] => exact Nat.le_refl _
 | a :: b :: m =>
  have := lU (b :: m)
  rw [bQ]
  split
  ·exact Nat.le_trans this (by simp)
  ·simp only [List.length_cons] at *; omega
theorem leC_anti {a b : Int × Int} (h : leC a b) (k : leC b a) : a = b := by
 unfold leC at *
 rcases h with h | h
 ·exact h
 ·rcases k with k | k
  ·exact k.symm
  ·exact absurd k (uy h)
theorem tS : ∀ {l m : List (Int × Int)}, l.Perm m → l.Pairwise leC → m.Pairwise leC → l = m
 | [], m, h, _, _ => (List.Perm.nil_eq h)
 | a :: l, [], h, _, _ => absurd h.symm.nil_eq (by simp)
 | a :: l, b :: m, h, h1, h2 => by
  rw [List.pairwise_cons] at h1 h2
  have hab : a = b := by
   have ha : a ∈ b :: m := h.subset (List.mem_cons_self ..)
   have hb : b ∈ a :: l := h.symm.subset (List.mem_cons_self ..)
   rcases List.mem_cons.1 ha with e | e
   ·exact e
   ·rcases List.mem_cons.1 hb with e2 | e2
    ·exact e2.symm
    ·exact leC_anti (h1.1 b e2) (h2.1 a e)
  subst hab
  rw [tS (List.Perm.cons_inv h) h1.2 h2.2]
theorem leC_tot (a b : Int × Int) : leC a b ∨ leC b a := by
 unfold leC
 rcases tQ a b with h | h | h
 ·exact .inl (.inr h)
 ·exact .inl (.inl h)
 ·exact .inr (.inr h)
theorem leC_trans {a b c : Int × Int} (h : leC a b) (k : leC b c) : leC a c := by
 unfold leC at *
 rcases h with rfl | h
 ·exact k
 ·rcases k with rfl | k
  ·exact .inr h
  ·exact .inr (fZ h k)
instance (a b : Int × Int) : Decidable (cP a b) := by unfold cP; infer_instance
instance (a b : Int × Int) : Decidable (leC a b) := by unfold leC; infer_instance
def dg (l : List (Int × Int)) : List (Int × Int) := l.mergeSort fun a b => decide (leC a b)
theorem fG (l : List (Int × Int)) : (dg l).Perm l := List.mergeSort_perm _ _
theorem fp (l : List (Int × Int)) : (dg l).length = l.length := (fG l).length_eq
theorem gO (l : List (Int × Int)) : (dg l).Pairwise leC := by
 have h := List.pairwise_mergeSort (le := fun a b => decide (leC a b)) (fun a b c h k => by simp only [decide_eq_true_eq] at *; exact leC_trans h k) (fun a b => by simp only [Bool.or_eq_true, decide_eq_true_eq]; exact leC_tot a b) l
 unfold dg
 refine h.imp fun {a b} k => ?_
 simpa using k
theorem kp : dg [] = [] := by simp [dg]
open Go.RowKit
def prS (W Hh : Int) (l : List T6) (sc : List (Int × Int)) (g : Int) : Nat → List (Int × Int)
 | 0 => []
 | i + 1 => prS W Hh l sc g i ++ ei W Hh l (g1 sc i) (g2 sc i) g
def rowA (W Hh : Int) (l : List T6) (sc : List (Int × Int)) (g : Int) : List (Int × Int) := if fl l = true then prS W Hh l sc g sc.length else []
def aW (W Hh : Int) (l : List T6) (sc : List (Int × Int)) (g : Int) : List (Int × Int) := bQ (dg (rowA W Hh l sc g))
theorem jy (W Hh : Int) (l : List T6) (sc : List (Int × Int)) (g : Int) : ∀ i : Nat, (prS W Hh l sc g i).length ≤ 7225 * i
 | 0 => by simp [prS]
 | i + 1 => by
  have := jy W Hh l sc g i
  have := tO W Hh l (g1 sc i) (g2 sc i) g
  simp only [prS, List.length_append]; omega
theorem allL_nil {W Hh : Int} {l : List T6} {sc : List (Int × Int)} {g : Int} (h : fl l = false) : aW W Hh l sc g = [] ∧ rowA W Hh l sc g = [] := by
 have e : rowA W Hh l sc g = [] := if_neg (by rw [h]; decide)
 exact ⟨by unfold aW; rw [e, kp]; rfl, e⟩
def swS (l : List T9) (r g : Int) : Nat → List (Int × Int)
 | 0 => []
 | i + 1 => swS l r g i ++ cC (g91 l i) (g92 l i) (g93 l i) (g94 l i) (g97 l i) (g98 l i) (g99 l i) (if 0 < r - g then r - g else 0) (r + g)
def fq (l : List T6) (m r g : Int) : List (Int × Int) := if (decide (r = -1) || !fl l) = true then [] else swS (aC l m) r g (aC l m).length
def bu (l : List T6) (m r g : Int) : List (Int × Int) := bQ (dg (fq l m r g))
theorem jz (l : List T9) (r g : Int) : ∀ i : Nat, (swS l r g i).length ≤ 7225 * i
 | 0 => by simp [swS]
 | i + 1 => by
  have := jz l r g i
  have := ki (g91 l i) (g92 l i) (g93 l i) (g94 l i) (g97 l i) (g98 l i) (g99 l i) (if 0 < r - g then r - g else 0) (r + g)
  simp only [swS, List.length_append]; omega
theorem tT {l : List T6} {m r g : Int} (h : r = -1 ∨ fl l = false) : bu l m r g = [] ∧ fq l m r g = [] := by
 have e : fq l m r g = [] := if_pos (by rcases h with h | h <;> simp [h])
 exact ⟨by unfold bu; rw [e, kp]; rfl, e⟩
theorem dirA_tau {l : List T6} (hS : bU l = true) (h : fl l = true) (m : Int) : (aC l m).length ≤ 32 := by
 unfold fl at h
 rw [Bool.and_eq_true, decide_eq_true_eq] at h
 have k : ∀ i : Nat, i ≤ l.length → ((dirS l m i).length : Int) = sumC l i := fun i => by
  induction i with
  | zero => intro _; rfl
  | succ i ih =>
   intro hi
   have := ih (by omega)
   have q := lT hS (show i < l.length by omega)
   simp only [dirS, sumC, List.length_append, io]; omega
 have := k l.length (Nat.le_refl _)
 unfold aC; omega
open Go.RowKit
open Go.RowKit
theorem gi_setL {xs : List Int} {i j : Nat} {v : Int} (h : i < xs.length) : gi (xs.set i v) j = if i = j then v else gi xs j := by
 by_cases e : i = j
 ·subst e; simp [gi, List.getD_eq_getElem?_getD, h]
 ·simp [gi, List.getD_eq_getElem?_getD, e]
def cidx (W : Int) (c : Int × Int) : Nat := (c.2 * W + c.1).toNat
theorem cidx_lt {W H : Int} {xs : List Int} {c : Int × Int} (hl : (xs.length : Int) = W * H) (h : inB W H c.1 c.2 = true) : cidx W c < xs.length := by
 obtain ⟨h1, h2, h3, h4⟩ := dK.1 h
 have k := Int.mul_le_mul_of_nonneg_right (show c.2 + 1 ≤ H by omega) (show 0 ≤ W by omega)
 have e : (c.2 + 1) * W = c.2 * W + W := by grind
 have e2 : H * W = W * H := Int.mul_comm _ _
 have k0 := Int.mul_nonneg h3 (show 0 ≤ W by omega)
 unfold cidx; omega
def d3 (W H : Int) : List (Int × Int) → List Int → Option (List Int)
 | [], o => some o
 | c :: l, o => if atI W H o c.1 c.2 = 2 then none else d3 W H l (o.set (cidx W c) 1)
def dr (W H : Int) : List (List (Int × Int)) → List Int → Option (List Int)
 | [], o => some o
 | s :: l, o => match s.filter fun c => !(atI W H o c.1 c.2 == 1) with
  | [] => none
  | [c] => dr W H l (if inB W H c.1 c.2 = true then o.set (cidx W c) 2 else o)
  | _ => dr W H l o
def jA (p o : List Int) : Prop := o.length = p.length ∧ (∀ v ∈ o, v ≤ 2) ∧ ∀ i : Nat, i < p.length → ¬ gi p i = 0 → gi o i = gi p i
theorem set_le {o : List Int} {i : Nat} {v : Int} (h : ∀ x ∈ o, x ≤ 2) (hv : v ≤ 2) : ∀ x ∈ o.set i v, x ≤ 2 := fun x hx => by
 rcases List.mem_or_eq_of_mem_set hx with k | k
 ·exact h x k
 ·rw [k]; exact hv
theorem at_in {W H : Int} {xs : List Int} {c : Int × Int} (h : inB W H c.1 c.2 = true) : atI W H xs c.1 c.2 = gi xs (cidx W c) := if_pos h
theorem lz {W H : Int} {p : List Int} (hl : (p.length : Int) = W * H) (hp : ∀ i, i < p.length → 0 ≤ gi p i ∧ gi p i ≤ 2) : ∀ {l : List (Int × Int)} {o q : List Int}, (∀ c ∈ l, inB W H c.1 c.2 = true) → jA p o → d3 W H l o = some q → jA p q
 | [], o, q, _, hk, h => by unfold d3 at h; cases h; exact hk
 | c :: l, o, q, hc, hk, h => by
  unfold d3 at h
  split at h
  ·cases h
  ·rename_i hw
   have hin := hc c (List.mem_cons_self ..)
   have hlt := cidx_lt hl hin
   rw [at_in hin] at hw
   refine lz hl hp (fun c hc' => hc c (List.mem_cons_of_mem _ hc')) ⟨by rw [List.length_set]; exact hk.1, set_le hk.2.1 (by decide), fun i hi h0 => ?_⟩ h
   rw [gi_setL (by rw [hk.1]; exact hlt)]
   split
   ·rename_i e
    subst e
    have := hk.2.2 _ hi h0
    have := hp _ hi
    omega
   ·exact hk.2.2 i hi h0
theorem ip {W H : Int} {p : List Int} (hl : (p.length : Int) = W * H) (hp : ∀ i, i < p.length → 0 ≤ gi p i ∧ gi p i ≤ 2) : ∀ {l : List (List (Int × Int))} {o q : List Int}, jA p o → dr W H l o = some q → jA p q
 | [], o, q, hk, h => by unfold dr at h; cases h; exact hk
 | s :: l, o, q, hk, h => by
  unfold dr at h
  split at h
  ·cases h
  ·rename_i c hs
   refine ip hl hp ?_ h
   split
   ·rename_i hin
    have hlt := cidx_lt hl hin
    have hm : c ∈ s.filter fun c => !(atI W H o c.1 c.2 == 1) := by rw [hs]; exact List.mem_cons_self ..
    have hn := (List.mem_filter.1 hm).2
    rw [at_in hin] at hn
    refine ⟨by rw [List.length_set]; exact hk.1, set_le hk.2.1 (by decide), fun i hi h0 => ?_⟩
    rw [gi_setL (by rw [hk.1]; exact hlt)]
    split
    ·rename_i e
     subst e
     have h1 := hk.2.2 _ hi h0
     have h2 := hp _ hi
     have h3 : ¬ gi o (cidx W c) = 1 := by simpa using hn
     omega
    ·exact hk.2.2 i hi h0
   ·exact hk
  ·exact ip hl hp hk h
def fP (l : List T6) (sc : List (Int × Int)) (g : Int) : List (List (Int × Int)) := (sc.filter fun e => !(e.2 == -1)).map fun e => bu l e.1 e.2 g
def lnO (W Hh : Int) (xs : List Int) (l : List T6) (sc : List (Int × Int)) (g : Int) : Option (List Int) := if fl l = true then (d3 W Hh (aW W Hh l sc g) xs).bind (dr W Hh (fP l sc g)) else some xs
def lnE (W Hh : Int) (xs : List Int) (l : List T6) (sc : List (Int × Int)) (g : Int) : Int := if cV W Hh xs l sc g = true then (match lnO W Hh xs l sc g with | none => 11 | some _ => 0) else 1
def lnX (W Hh : Int) (xs : List Int) (l : List T6) (sc : List (Int × Int)) (g : Int) : List Int := if cV W Hh xs l sc g = true then (lnO W Hh xs l sc g).getD [] else []
def lnZ (W Hh : Int) (xs : List Int) (l : List T6) (sc : List (Int × Int)) (g : Int) (n : Int) : Int := if lnE W Hh xs l sc g = 0 then n else 0
section
variable {W Hh : Int} {xs : List Int} {l : List T6} {sc : List (Int × Int)} {g : Int}
theorem ln_1 (h : cV W Hh xs l sc g = false) : lnE W Hh xs l sc g = 1 ∧ lnX W Hh xs l sc g = [] ∧ lnZ W Hh xs l sc g W = 0 ∧ lnZ W Hh xs l sc g Hh = 0 := by
 have e : lnE W Hh xs l sc g = 1 := if_neg (by rw [h]; decide)
 exact ⟨e, if_neg (by rw [h]; decide), if_neg (by rw [e]; decide), if_neg (by rw [e]; decide)⟩
theorem ln_11 (h : cV W Hh xs l sc g = true) (k : lnO W Hh xs l sc g = none) : lnE W Hh xs l sc g = 11 ∧ lnX W Hh xs l sc g = [] ∧ lnZ W Hh xs l sc g W = 0 ∧ lnZ W Hh xs l sc g Hh = 0 := by
 have e : lnE W Hh xs l sc g = 11 := by unfold lnE; rw [if_pos h, k]
 exact ⟨e, by unfold lnX; rw [if_pos h, k]; rfl, if_neg (by rw [e]; decide), if_neg (by rw [e]; decide)⟩
theorem ln_0 {o : List Int} (h : cV W Hh xs l sc g = true) (k : lnO W Hh xs l sc g = some o) : lnE W Hh xs l sc g = 0 ∧ lnX W Hh xs l sc g = o ∧ lnZ W Hh xs l sc g W = W ∧ lnZ W Hh xs l sc g Hh = Hh := by
 have e : lnE W Hh xs l sc g = 0 := by unfold lnE; rw [if_pos h, k]
 exact ⟨e, by unfold lnX; rw [if_pos h, k]; rfl, if_pos e, if_pos e⟩
theorem prS_in : ∀ {i : Nat} {c : Int × Int}, c ∈ prS W Hh l sc g i → inB W Hh c.1 c.2 = true
 | 0, _, h => by cases h
 | i + 1, c, h => by
  unfold prS at h
  rcases List.mem_append.1 h with h | h
  ·exact prS_in h
  ·unfold ei at h
   split at h
   ·cases h
   ·have k := (List.mem_filter.1 h).2
    unfold bP at k
    rw [Bool.and_eq_true, Bool.and_eq_true, bM, bM] at k
    exact dK.2 ⟨by omega, by omega, by omega, by omega⟩
theorem allL_in {c : Int × Int} (h : c ∈ aW W Hh l sc g) : inB W Hh c.1 c.2 = true := by
 unfold aW at h
 have h := (fG _).mem_iff.1 (fm.1 h)
 unfold rowA at h
 split at h
 ·exact prS_in h
 ·cases h
def lfS (W : Int) (A : List (Int × Int)) (xs : List Int) : Nat → List Int
 | 0 => xs
 | i + 1 => (lfS W A xs i).set ((g2 A i * W) + g1 A i).toNat 1
theorem vld_set {o : List Int} {i : Nat} {v : Int} (h : b9 W Hh o = true) (hv : v ≤ 2) : b9 W Hh (o.set i v) = true := by
 have q := cg.1 h
 exact cg.2 ⟨q.w0, q.w1, q.h0, q.h1, by rw [List.length_set]; exact q.len, set_le q.le hv⟩
theorem g5 {A : List (Int × Int)} (h : b9 W Hh xs = true) : ∀ i : Nat, b9 W Hh (lfS W A xs i) = true
 | 0 => h
 | i + 1 => vld_set (g5 h i) (by decide)
theorem pJ {A : List (Int × Int)} {o : List Int} {i : Nat} (hi : i < A.length) (hA : ∀ c ∈ A, inB W Hh c.1 c.2 = true) : d3 W Hh (A.drop i) o = if gi o ((g2 A i * W) + g1 A i).toNat = 2 then none else d3 W Hh (A.drop (i + 1)) (o.set ((g2 A i * W) + g1 A i).toNat 1) := by
 rw [List.drop_eq_getElem_cons hi]
 have h := hA _ (List.getElem_mem hi)
 have e : cidx W A[i] = ((g2 A i * W) + g1 A i).toNat := by rw [← cu hi]; rfl
 conv => lhs; unfold d3
 rw [at_in h, e]
theorem gin_mem {A : List (Int × Int)} {i : Nat} (hi : i < A.length) (hA : ∀ c ∈ A, inB W Hh c.1 c.2 = true) : inB W Hh (g1 A i) (g2 A i) = true := by
 have h := hA _ (List.getElem_mem hi)
 rw [← cu hi] at h; exact h
def frP (W Hh : Int) (o : List Int) (c : Int × Int) : Bool := atI W Hh o c.1 c.2 == 1
def lwU (W Hh : Int) (o : List Int) (d : List (Int × Int)) : List Int := if d.length = 1 ∧ btw (g1 d 0) 0 (W - 1) = true ∧ btw (g2 d 0) 0 (Hh - 1) = true then o.set ((g2 d 0 * W) + g1 d 0).toNat 2 else o
def lwS (W Hh : Int) (l : List T6) (sc : List (Int × Int)) (g : Int) (o : List Int) : Nat → List Int
 | 0 => o
 | i + 1 => if g2 sc i = -1 then lwS W Hh l sc g o i else lwU W Hh (lwS W Hh l sc g o i) (bO (frP W Hh (lwS W Hh l sc g o i)) (bu l (g1 sc i) (g2 sc i) g))
theorem lwU_vld {o : List Int} {d : List (Int × Int)} (h : b9 W Hh o = true) : b9 W Hh (lwU W Hh o d) = true := by
 unfold lwU; split
 ·exact vld_set h (by decide)
 ·exact h
theorem g7 {o : List Int} (h : b9 W Hh o = true) : ∀ i : Nat, b9 W Hh (lwS W Hh l sc g o i) = true
 | 0 => h
 | i + 1 => by
  unfold lwS; split
  ·exact g7 h i
  ·exact lwU_vld (g7 h i)
theorem pK {o : List Int} {i : Nat} (hi : i < sc.length) : dr W Hh (fP l (sc.drop i) g) o = if g2 sc i = -1 then dr W Hh (fP l (sc.drop (i + 1)) g) o else if (bO (frP W Hh o) (bu l (g1 sc i) (g2 sc i) g)).length = 0 then none else dr W Hh (fP l (sc.drop (i + 1)) g) (lwU W Hh o (bO (frP W Hh o) (bu l (g1 sc i) (g2 sc i) g))) := by
 have e : sc[i] = (g1 sc i, g2 sc i) := (cu hi).symm
 unfold fP
 rw [List.drop_eq_getElem_cons hi, List.filter_cons, e]
 by_cases h : g2 sc i = -1
 ·rw [if_pos h, if_neg (by simp [h])]
 ·rw [if_neg h, if_pos (by simpa using h), List.map_cons]
  conv => lhs; unfold dr
  have hd : ∀ s : List (Int × Int), (s.filter fun c => !(atI W Hh o c.1 c.2 == 1)) = bO (frP W Hh o) s := fun _ => rfl
  simp only [hd]
  generalize bO (frP W Hh o) (bu l (g1 sc i) (g2 sc i) g) = d
  match d with
  | [] => simp
  | [c] =>
   simp only [List.length_cons, List.length_nil]
   unfold lwU
   have q : (btw (g1 [c] 0) 0 (W - 1) = true ∧ btw (g2 [c] 0) 0 (Hh - 1) = true) ↔ inB W Hh c.1 c.2 = true := by
    rw [bM, bM, dK]; show ((0 ≤ c.1 ∧ c.1 ≤ W - 1) ∧ 0 ≤ c.2 ∧ c.2 ≤ Hh - 1) ↔ _; omega
   simp only [List.length_cons, List.length_nil, Nat.zero_add, true_and, q, Nat.one_ne_zero, if_false]
   rfl
  | a :: b :: t => simp [lwU]
theorem lwS_skip {o : List Int} {i : Nat} (h : g2 sc i = -1) : lwS W Hh l sc g o (i + 1) = lwS W Hh l sc g o i := by simp only [lwS]; rw [if_pos h]
theorem kq {o : List Int} {i : Nat} (h : ¬ g2 sc i = -1) (k : ¬ ((bO (frP W Hh (lwS W Hh l sc g o i)) (bu l (g1 sc i) (g2 sc i) g)).length = 1 ∧ btw (g1 (bO (frP W Hh (lwS W Hh l sc g o i)) (bu l (g1 sc i) (g2 sc i) g)) 0) 0 (W - 1) = true ∧ btw (g2 (bO (frP W Hh (lwS W Hh l sc g o i)) (bu l (g1 sc i) (g2 sc i) g)) 0) 0 (Hh - 1) = true)) : lwS W Hh l sc g o (i + 1) = lwS W Hh l sc g o i := by simp only [lwS]; rw [if_neg h]; exact if_neg k
theorem lwS_set {o : List Int} {i : Nat} (h : ¬ g2 sc i = -1) (k : (bO (frP W Hh (lwS W Hh l sc g o i)) (bu l (g1 sc i) (g2 sc i) g)).length = 1 ∧ btw (g1 (bO (frP W Hh (lwS W Hh l sc g o i)) (bu l (g1 sc i) (g2 sc i) g)) 0) 0 (W - 1) = true ∧ btw (g2 (bO (frP W Hh (lwS W Hh l sc g o i)) (bu l (g1 sc i) (g2 sc i) g)) 0) 0 (Hh - 1) = true) : lwS W Hh l sc g o (i + 1) = (lwS W Hh l sc g o i).set ((g2 (bO (frP W Hh (lwS W Hh l sc g o i)) (bu l (g1 sc i) (g2 sc i) g)) 0 * W) + g1 (bO (frP W Hh (lwS W Hh l sc g o i)) (bu l (g1 sc i) (g2 sc i) g)) 0).toNat 2 := by simp only [lwS]; rw [if_neg h]; exact if_pos k
theorem tU {o : List Int} {i : Nat} (hi : i < sc.length) (h : g2 sc i = -1 ∨ ¬ (bO (frP W Hh (lwS W Hh l sc g o i)) (bu l (g1 sc i) (g2 sc i) g)).length = 0) : dr W Hh (fP l (sc.drop i) g) (lwS W Hh l sc g o i) = dr W Hh (fP l (sc.drop (i + 1)) g) (lwS W Hh l sc g o (i + 1)) := by
 rw [pK hi]
 simp only [lwS]
 by_cases k : g2 sc i = -1
 ·rw [if_pos k, if_pos k]
 ·rw [if_neg k, if_neg k, if_neg (by rcases h with h | h; exact absurd h k; exact h)]
theorem lwS_bad {o : List Int} {i : Nat} (hi : i < sc.length) (h : ¬ g2 sc i = -1) (k : (bO (frP W Hh (lwS W Hh l sc g o i)) (bu l (g1 sc i) (g2 sc i) g)).length = 0) : dr W Hh (fP l (sc.drop i) g) (lwS W Hh l sc g o i) = none := by
 rw [pK hi, if_neg h, if_pos k]
theorem vld_pos {o : List Int} (h : b9 W Hh o = true) : 0 < o.length := by
 have q := cg.1 h
 have := (q.idx (show inB W Hh 0 0 = true from dK.2 (by have := q.w0; have := q.h0; omega))).2.2.2.2.1
 omega
theorem pad_len {p : Int × Int → Bool} {l : List (Int × Int)} : (dq l.length (bO p l)).length = l.length := by
 have := delL_le (p := p) (l := l)
 unfold dq; simp; omega
theorem pad_g1 {n : Nat} {d : List (Int × Int)} (h : ¬ d.length = 0) : g1 (dq n d) 0 = g1 d 0 := by
 match d, h with
 | a :: t, _ => rfl
theorem pad_g2 {n : Nat} {d : List (Int × Int)} (h : ¬ d.length = 0) : g2 (dq n d) 0 = g2 d 0 := by
 match d, h with
 | a :: t, _ => rfl
theorem tV {m r : Int} (hS : bU l = true) : (bu l m r g).length ≤ 7225 * 4096 := by
 have h1 := jz (aC l m) r g (aC l m).length
 have h2 := km hS m
 have h3 : (fq l m r g).length ≤ 7225 * 4096 := by
  unfold fq; split
  ·simp
  ·omega
 unfold bu
 have := lU (dg (fq l m r g)); rw [fp] at this; omega
theorem allL_len : (aW W Hh l sc g).length ≤ 7225 * sc.length := by
 have h1 := jy W Hh l sc g sc.length
 have h3 : (rowA W Hh l sc g).length ≤ 7225 * sc.length := by
  unfold rowA; split
  ·exact h1
  ·simp
 unfold aW
 have := lU (dg (rowA W Hh l sc g)); rw [fp] at this; omega
end
set_option linter.unusedSimpArgs false
set_option linter.unusedVariables false
open Go.RowKit
section
variable {W Hh : Int} {xs : List Int} {sc : List (Int × Int)}
end
end Go.Proofs.YtojbkljfioegkaaGreat
