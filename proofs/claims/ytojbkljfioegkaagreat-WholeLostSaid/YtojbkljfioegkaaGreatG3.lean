/- Parts of the proof: walks and plain facts. Conditions: as each theorem states. -/
import Derived.Test.YtojbkljfioegkaaGreatG2
namespace Go.Proofs.YtojbkljfioegkaaGreat
set_option linter.unusedSimpArgs false
set_option linter.unusedVariables false
open Go.RowKit



inductive FT where
 | nil
 | leaf (x : AV)
 | node (l r : FT)
def FT.get : Nat → FT → Nat → AV
 | 0, f, _ => (match f with | .leaf x => x | _ => .any)
 | d + 1, f, t => (match f with | .node l r => bif Nat.beq (t % 2) 0 then FT.get d l (t / 2) else FT.get d r (t / 2) | _ => .any)
def FT.set : Nat → Nat → AV → FT → FT
 | 0, _, x, _ => .leaf x
 | d + 1, t, x, f => (match f with
  | .node l r => bif Nat.beq (t % 2) 0 then .node (FT.set d (t / 2) x l) r else .node l (FT.set d (t / 2) x r)
  | _ => bif Nat.beq (t % 2) 0 then .node (FT.set d (t / 2) x .nil) .nil else .node .nil (FT.set d (t / 2) x .nil))
def getT (f : FT) (t : Nat) : AV := bif Nat.blt t 1024 then FT.get 10 f t else .any
def ev (f : FT) : Operand → AV
 | .tmp t => getT f t
 | .const v => AV.ofValue v
 | .global _ => .any
 | .func g => .fn g []
abbrev Caller := FuncId → List AV → ac → Option (AV × Option ac)
def CallOk (P : Program) (call : Caller) : Prop := ∀ f args H x o, call f args H = some (x, o) → dR P f = true ∧ H.length ≤ (o.getD H).length ∧ ACalls P f args H (fun y H1 => y = x ∧ H1 = o.getD H)
section
section
variable {P : Program} {N n m : Nat} {d : Option Nat} {q keep : Bool} {call : Caller}
theorem Rel.env {E E' : Env} {x : AV} {v : Value} (h : Rel E x v) (hn : E'.n = E.n) (hl : ∀ b, E'.loc b = E.loc b) : Rel E' x v := by
 induction h with
 | any v => exact .any v
 | int k n => exact .int k n
 | bool b => exact .bool b
 | str s => exact .str s
 | nilptr => exact .nilptr
 | ptr b o hb => rw [← hl b]; exact .ptr b o (by rw [hn]; exact hb)
 | nilsl => exact .nilsl
 | nils b cap hb hc => exact .nils b cap (by rw [hn]; exact hb) hc
 | sl b o len cap c a hb h1 h2 h3 h4 h5 => exact .sl b o len cap c a (by rw [hn]; exact hb) h1 h2 h3 (by rw [hl]; exact h4) (by rw [hl]; exact h5)
 | nilmp => exact .nilmp
 | mp b hb => rw [← hl b]; exact .mp b (by rw [hn]; exact hb)
 | nilfn => exact .nilfn
 | fn f caps cs hl' _ ih => exact .fn f caps cs hl' ih
 | agg xs cs hl' _ ih => exact .agg xs cs hl' ih
 | tup xs cs hl' _ ih => exact .tup xs cs hl' ih
theorem RelL.env {E E' : Env} {xs : List AV} {vs : List Value} (h : RelL E xs vs) (hn : E'.n = E.n) (hl : ∀ b, E'.loc b = E.loc b) : RelL E' xs vs := ⟨h.1, fun i x v hx hv => (h.2 i x v hx hv).env hn hl⟩
theorem BlkOk.env {E E' : Env} {w : World} {L : Loc} {x : ABlk} (h : BlkOk E w L x) (hB : E'.B = E.B) (hn : E'.n = E.n) (hl : ∀ b, E'.loc b = E.loc b) : BlkOk E' w L x := by
 cases x with
 | dead => trivial
 | cells own es xs =>
  obtain ⟨h1, h2, h3, h4⟩ := h
  refine ⟨fun j x hj => ?_, fun ho => by rw [hB]; exact h2 ho, fun ho hl => by rw [hB]; exact h3 ho hl, h4⟩
  obtain ⟨a, v, hv, hr⟩ := h1 j x hj
  exact ⟨a, v, hv, hr.env hn hl⟩
 | map es =>
  obtain ⟨h1, h2, ents, clock, h3, h4, h5⟩ := h
  exact ⟨by rw [hB]; exact h1, h2, ents, clock, h3, h4.env hn hl, h5.env hn hl⟩
theorem Abs0.same (n : Nat) {F G : Fr} (h : look F = look G) {H : ac} (hn : n ≤ H.length) : Abs0 n id F H G H where
 small _ _ := rfl
 len := hn
 frame E E' h1 h2 h3 t v hv := by
  rw [← h]
  exact hv.env (h2.trans h1.symm) h3
 heap E E' h1 h2 h3 h4 w hw b x hx := by
  rw [h4 b]
  exact (hw b x hx).env h3 (h2.trans h1.symm) h4
 inj b c x y hx hy ox oy hbc := ⟨hbc, ⟨x, hx, ox⟩, y, hy, oy⟩
theorem Abs.same (n : Nat) {F G : Fr} (h : look F = look G) {H : ac} (hn : n ≤ H.length) : Abs n id F H G H := (Abs0.same n h hn).abs
inductive TbOk (P : Program) : List (Nat × Bool × Func) → Prop where
 | nil : TbOk P []
 | cons {f : Nat} {q : Bool} {fn : Func} {r : List (Nat × Bool × Func)} : dR P f = true → P.funcs[f]? = some fn → (fn.body.map (dg fn.ntmps q)) = some true → TbOk P r → TbOk P ((f, q, fn) :: r)
end
end
noncomputable def tb : List (Nat × Bool × Func) := [(36, false, Tryz.f36), (44, false, Tryz.f44), (66, false, Tryz.f66), (71, false, Tryz.f71), (74, false, Tryz.f74), (86, false, Tryz.f86), (93, false, Tryz.f93), (97, false, Tryz.f97), (105, false, Tryz.f105), (121, false, Tryz.f121), (132, false, Tryz.f132), (134, false, Tryz.f134), (135, false, Tryz.f135), (147, false, Tryz.f147), (171, false, Tryz.f171), (172, false, Tryz.f172), (174, false, Tryz.f174), (175, false, Tryz.f175), (198, false, Tryz.f198), (199, false, Tryz.f199), (200, false, Tryz.f200), (201, false, Tryz.f201), (202, false, Tryz.f202), (203, false, Tryz.f203), (204, false, Tryz.f204), (205, false, Tryz.f205), (206, false, Tryz.f206), (209, false, Tryz.f209), (223, false, Tryz.f223), (224, false, Tryz.f224), (226, false, Tryz.f226), (227, false, Tryz.f227), (237, false, Tryz.f237)]
set_option linter.unusedSimpArgs false
set_option linter.unusedVariables false
open Go.RowKit
def ext : Caller := fun f args _ =>
 match args with
 | [.int .u64 x] => bif Nat.beq f 173 && (decide (0 ≤ x) && decide (x ≤ 18446744073709551615)) then some (.int .i64 (Lib.bitLen x.toNat), none) else none
 | _ => none
theorem ext_ok : CallOk Tryz.prog ext := fun f args H x o h => by
 unfold ext at h
 split at h
 ·rename_i x'
  cases hb : Nat.beq f 173 && (decide (0 ≤ x') && decide (x' ≤ 18446744073709551615))
  ·rw [hb] at h; cases h
  ·rw [hb, cond_true] at h
   simp only [Option.some.injEq, Prod.mk.injEq] at h
   obtain ⟨rfl, rfl⟩ := h
   simp only [Bool.and_eq_true, decide_eq_true_eq] at hb
   obtain ⟨h1, h2, h3⟩ := hb
   have e := Nat.eq_of_beq_eq_true h1
   subst e
   refine ⟨by kernel_rfl, Nat.le_refl _, fun E w vs hE hv => ?_⟩
   obtain ⟨v1, l1, rfl, k1, hr⟩ := jY hv
   obtain rfl := rT hr
   obtain rfl := ng k1
   refine (Tryz.bits_Len x' w h2 h3).mono fun e w' ⟨he, hw⟩ => ?_
   subst hw
   exact ⟨E, _, H, _, he, ⟨rfl, rfl⟩, .refl E, .int _ _, hE⟩
 ·cases h
open Go.RowKit
section
variable (H : ac)
def bZ (x m : Int) : Bool := decide (0 - m ≤ x) && decide (x ≤ m)
theorem bsize_c (x m : Int) (h : 0 ≤ m ∧ m ≤ 4611686018427387904) : ACalls Tryz.prog 39 [.int .i64 x, .int .i64 m] H (fun v H' => v = .bool (bZ x m) ∧ H' = H) := by
 (refine cr try_mixed Tryz.func39 true _ rfl (Nat.le_of_ble_eq_true (by kernel_rfl)) (by kernel_rfl) ?_; intro hbel Q hQ hQ' c hc; unfold Tryz.f39 at hc; simp only [Option.some.injEq] at hc; subst hc; clear hQ')
 by_cases h1 : 0 - m ≤ x
 ·simp -implicitDefEqProofs (disch := omega) only [h1, ge_iff_le, simprocAttr, aB, aC, Function.comp_apply, one1, lenV, ak, ar, au, aop, AV.ofValue, AV.ofCell, AV.cells, AV.flat, AV.one, arep, aN, aD, az]
  repeat refine And.intro (by omega) ?_
  exact hQ _ _ (aF (.inl rfl) hbel (x := .bool (decide (x ≤ m))) (ag Tryz.results39) rfl ⟨by simp only [bZ, h1, decide_true, Bool.true_and], rfl⟩)
 ·simp -implicitDefEqProofs (disch := omega) only [h1, ge_iff_le, simprocAttr, aB, aC, Function.comp_apply, one1, lenV, ak, ar, au, aop, AV.ofValue, AV.ofCell, AV.cells, AV.flat, AV.one, arep, aN, aD, az]
  repeat refine And.intro (by omega) ?_
  exact hQ _ _ (aF (.inl rfl) hbel (x := .bool false) (ag Tryz.results39) rfl ⟨by simp only [bZ, h1, decide_false, Bool.false_and], rfl⟩)
def absI (n : Int) : Int := if n < 0 then -n else n
end
set_option linter.unusedSimpArgs false
set_option linter.unusedVariables false
open Go.RowKit
theorem IsP.parts {H : ac} {s : AV} {l : List Pt} (h : IsP H s l) : ∃ a c, s = .sl a l.length c := by
 rcases h with ⟨rfl, rfl⟩ | ⟨b, own, cap, rfl, hb⟩
 ·exact ⟨_, _, rfl⟩
 ·exact ⟨_, _, rfl⟩
theorem IsP.pos {H : ac} {s : AV} {l : List Pt} (h : IsP H s l) (h0 : 0 < l.length) : ∃ b own cap, s = .sl (some (b, 0)) l.length cap ∧ H[b]? = some (.cells own 2 (prs l)) := by
 rcases h with ⟨rfl, rfl⟩ | ⟨b, own, cap, rfl, hb⟩
 ·simp at h0
 ·exact ⟨b, own, cap, rfl, hb⟩
section
variable (H : ac)
end
set_option linter.unusedSimpArgs false
set_option linter.unusedVariables false
open Go.RowKit
section
variable (H : ac)
end
set_option linter.unusedSimpArgs false
set_option linter.unusedVariables false
open Go.RowKit
open Go.RowKit
open Go.RowKit
open Go.RowKit
open Go.RowKit
theorem br {x m : Int} : bZ x m = true ↔ -m ≤ x ∧ x ≤ m := by unfold bZ; simp
open Go.RowKit
def dotP (n g : Pt) : Int := n.1 * g.1 + n.2 * g.2
def spr (n : Pt) : List Pt → Int
 | [] => 0
 | g :: l => absI (dotP n g) + spr n l
open Go.RowKit
open Go.RowKit
open Go.RowKit
open Go.RowKit
open Go.RowKit
theorem absI_neg (x : Int) : absI (-x) = absI x := by unfold absI; split <;> split <;> omega
theorem absI_le {x M : Int} : absI x ≤ M ↔ -M ≤ x ∧ x ≤ M := by unfold absI; split <;> omega
theorem rg (n g : Pt) : dotP (-n.1, -n.2) g = -dotP n g := by unfold dotP; simp only [Int.neg_mul]; omega
theorem vK (n g : Pt) (l : List Pt) : spr n (g :: l) = absI (dotP n g) + spr n l := rfl
theorem vL (n : Pt) : ∀ l : List Pt, spr (-n.1, -n.2) l = spr n l
 | [] => rfl
 | g :: l => by rw [vK, vK, vL n l, rg, absI_neg]
def inZ (L : List Pt) (d : Pt) : Prop := ∀ n : Pt, dotP n d ≤ spr n L
theorem inZ.abs {L : List Pt} {d : Pt} (h : inZ L d) (n : Pt) : absI (dotP n d) ≤ spr n L := by
 rw [absI_le]
 have h1 := h n
 have h2 := h (-n.1, -n.2)
 rw [rg, vL] at h2
 omega
open Go.RowKit
open Go.RowKit
open Go.RowKit
open Go.RowKit
open Go.RowKit
open Go.RowKit
open Go.RowKit
open Go.RowKit
def mkL (e : Int) (L : List Pt) : List Pt := if e = 0 then L else []
open Go.RowKit
open Go.RowKit Go.Sort
open Go.RowKit
theorem kG {l : List Pt} : (prs l).take (l.length * 2) = prs l := by rw [rS, List.take_length]
open Go.RowKit
open Go.RowKit
open Go.RowKit
open Go.RowKit
theorem and255 (a : Int) : (BitVec.ofInt 64 a &&& BitVec.ofInt 64 255).toNat = (a % 256).toNat := by
 rw [BitVec.toNat_and, BitVec.toNat_ofInt, BitVec.toNat_ofInt]
 have e : ((255 : Int) % ((2 ^ 64 : Nat) : Int)).toNat = 2 ^ 8 - 1 := by decide
 rw [e, Nat.and_two_pow_sub_one_eq_mod]
 have : (((a % ((2 ^ 64 : Nat) : Int)).toNat : Nat) : Int) = a % 18446744073709551616 := by
  rw [Int.toNat_of_nonneg (Int.emod_nonneg _ (by decide))]; rfl
 omega
def eu (x y d : Int) : Nat := Nat.gcd (Nat.gcd d.natAbs x.natAbs) y.natAbs
abbrev Vec := Int × Int × Int
def fh (x y d : Int) : Vec := (x.tdiv (eu x y d), y.tdiv (eu x y d), d.tdiv (eu x y d))
theorem vM {x y d : Int} (h : d ≠ 0) : 0 < eu x y d := by
 unfold eu
 exact Nat.gcd_pos_of_pos_left _ (Nat.gcd_pos_of_pos_left _ (Int.natAbs_pos.2 h))
theorem gcd3_dvd (x y d : Int) : ((eu x y d : Nat) : Int) ∣ x ∧ ((eu x y d : Nat) : Int) ∣ y ∧ ((eu x y d : Nat) : Int) ∣ d := by
 unfold eu
 have h1 := Nat.gcd_dvd_left (Nat.gcd d.natAbs x.natAbs) y.natAbs
 have h2 := Nat.gcd_dvd_right (Nat.gcd d.natAbs x.natAbs) y.natAbs
 exact ⟨Int.ofNat_dvd_left.2 (Nat.dvd_trans h1 (Nat.gcd_dvd_right _ _)), Int.ofNat_dvd_left.2 h2, Int.ofNat_dvd_left.2 (Nat.dvd_trans h1 (Nat.gcd_dvd_left _ _))⟩
theorem lowV_mul {x y d : Int} (h : d ≠ 0) : ∃ g : Int, 0 < g ∧ x = (fh x y d).1 * g ∧ y = (fh x y d).2.1 * g ∧ d = (fh x y d).2.2 * g := by
 obtain ⟨a, b, c⟩ := gcd3_dvd x y d
 have hp := vM (x := x) (y := y) h
 refine ⟨eu x y d, by omega, ?_, ?_, ?_⟩ <;> (unfold fh; simp only; rw [Int.tdiv_mul_cancel (by assumption)])
def dir0 (k : Nat) : Vec := fh (4096 - (k : Int) * k) (128 * k) (4096 + (k : Int) * k)
def rotN (v : Vec) : Nat → Vec
 | 0 => v
 | n + 1 => (-(rotN v n).2.1, (rotN v n).1, (rotN v n).2.2)
def dirN (h : Nat) : Vec := rotN (dir0 (h % 64)) (h / 64)
def cB (h : Int) : Vec := dirN (h % 256).toNat
def fm (v : Vec) : Bool := decide (1 ≤ v.2.2) && decide (v.2.2 ≤ 8065) && decide (-v.2.2 ≤ v.1) && decide (v.1 ≤ v.2.2) && decide (-v.2.2 ≤ v.2.1) && decide (v.2.1 ≤ v.2.2) && decide (v.1 * v.1 + v.2.1 * v.2.1 = v.2.2 * v.2.2)
theorem dirs_ok : (List.range 256).all (fun h => fm (dirN h)) = true := by decide +kernel
theorem fW (h : Int) : fm (cB h) = true := by
 have := List.all_eq_true.1 dirs_ok (h % 256).toNat (by simp; omega)
 exact this
theorem dq {v : Vec} : fm v = true ↔ (1 ≤ v.2.2 ∧ v.2.2 ≤ 8065) ∧ (-v.2.2 ≤ v.1 ∧ v.1 ≤ v.2.2) ∧ (-v.2.2 ≤ v.2.1 ∧ v.2.1 ≤ v.2.2) ∧ v.1 * v.1 + v.2.1 * v.2.1 = v.2.2 * v.2.2 := by
 unfold fm
 simp only [Bool.and_eq_true, decide_eq_true_eq]
 constructor
 ·rintro ⟨⟨⟨⟨⟨⟨a, b⟩, c⟩, d⟩, e⟩, f⟩, g⟩; exact ⟨⟨a, b⟩, ⟨c, d⟩, ⟨e, f⟩, g⟩
 ·rintro ⟨⟨a, b⟩, ⟨c, d⟩, ⟨e, f⟩, g⟩; exact ⟨⟨⟨⟨⟨⟨a, b⟩, c⟩, d⟩, e⟩, f⟩, g⟩
theorem iv {a b : Int} (h : 0 < b) : (if a.tmod b < 0 then a.tdiv b - 1 else a.tdiv b) = a / b := by
 rw [Int.tdiv_eq_ediv, Int.tmod_eq_emod]
 have h1 := Int.emod_nonneg a (by omega : b ≠ 0)
 have h2 := Int.emod_lt_of_pos a h
 have hs : b.sign = 1 := Int.sign_eq_one_of_pos h
 have hn : (b.natAbs : Int) = b := by omega
 split
 ·rw [if_neg (by omega)]; omega
 ·rw [if_pos (by omega), hs]; omega
open Go.RowKit
def cE (h m : Int) : Int := m * (cB h).1 / (cB h).2.2
def cF (h m : Int) : Int := m * (cB h).2.1 / (cB h).2.2
theorem div_bd {m a d : Int} (hd : 1 ≤ d) (ha : -d ≤ a ∧ a ≤ d) (hm : 0 ≤ m) : -m ≤ m * a / d ∧ m * a / d ≤ m := by
 constructor
 ·rw [Int.le_ediv_iff_mul_le (by omega)]
  have := Int.mul_le_mul_of_nonneg_left ha.1 hm
  rw [Int.mul_neg] at this
  rw [Int.neg_mul]; exact this
 ·have := Int.mul_le_mul_of_nonneg_left ha.2 hm
  have h2 : m * a / d ≤ m * d / d := Int.ediv_le_ediv (by omega) this
  rwa [Int.mul_ediv_cancel _ (by omega)] at h2
theorem ke (h : Int) {m : Int} (hm : 0 ≤ m) : (-m ≤ cE h m ∧ cE h m ≤ m) ∧ (-m ≤ cF h m ∧ cF h m ≤ m) := by
 have hv := dq.1 (fW h)
 exact ⟨div_bd hv.1.1 hv.2.1 hm, div_bd hv.1.1 hv.2.2.1 hm⟩
def btw (n lo hi : Int) : Bool := decide (lo ≤ n) && decide (n ≤ hi)
theorem bu {n lo hi : Int} : btw n lo hi = true ↔ lo ≤ n ∧ n ≤ hi := by unfold btw; simp
def cQ (t f : Int) : Bool := bZ t 32 && btw f 0 32
def cJ (tu le sl ra : Int) : Bool := btw tu 0 8 && (btw le 0 16 && (btw sl 0 8 && btw ra 1 32))
open Go.RowKit
set_option maxHeartbeats 4000000
set_option maxRecDepth 100000
theorem fX {a b : Int} (hb : 0 < b) (hw : -4611686018427387904 ≤ a ∧ a ≤ 4611686018427387904) : -4611686018427387904 ≤ Int.tdiv a b ∧ Int.tdiv a b ≤ 4611686018427387904 := by
 have h := iv (a := a) hb
 have h1 : a / b ≤ 4611686018427387904 := Int.ediv_le_of_le_mul hb (by have := Int.mul_le_mul_of_nonneg_left (show (1 : Int) ≤ b by omega) (by decide : (0 : Int) ≤ 4611686018427387904); omega)
 have h2 : -4611686018427387904 ≤ a / b := by
  rw [Int.le_ediv_iff_mul_le hb]
  have := Int.mul_le_mul_of_nonneg_left (show (1 : Int) ≤ b by omega) (by decide : (0 : Int) ≤ 4611686018427387904)
  rw [Int.neg_mul]; omega
 rw [Int.tdiv_eq_ediv]
 have hs : b.sign = 1 := Int.sign_eq_one_of_pos hb
 split
 ·omega
 ·rename_i hh
  rw [hs]
  rcases (by omega : a / b ≤ 4611686018427387903 ∨ a / b = 4611686018427387904) with k | k
  ·omega
  ·exfalso
   have h3 : 4611686018427387904 * b ≤ a := by rw [← Int.le_ediv_iff_mul_le hb]; omega
   have := Int.mul_le_mul_of_nonneg_left (show (1 : Int) ≤ b by omega) (by decide : (0 : Int) ≤ 4611686018427387904)
   omega
theorem wS (a : Int) : IntKind.i64.wrap ((BitVec.ofInt IntKind.i64.bits a &&& BitVec.ofInt IntKind.i64.bits 255).toNat : Int) = (((a % 256).toNat : Nat) : Int) := by
 have h := and255 a
 show IntKind.i64.wrap (((BitVec.ofInt 64 a &&& BitVec.ofInt 64 255).toNat : Nat) : Int) = _
 rw [h]
 exact hZ (by omega) (by omega)
theorem rem_n64 (a : Nat) : Int.tmod (a : Int) 64 = ((a % 64 : Nat) : Int) := rfl
theorem quo_n64 (a : Nat) : Int.tdiv (a : Int) 64 = ((a / 64 : Nat) : Int) := rfl
theorem dY (H : ac) (n : Int) (lo : Int) (hi : Int) : ACalls Tryz.prog 73 [.int .i64 n, .int .i64 lo, .int .i64 hi] H (fun v H' => v = .bool (btw n lo hi) ∧ H' = H) := by
 refine AcT true Tryz.func73 ?_; intro hbel Q hQ
 refine aY ?_
 refine aj (fun h1 => ?_) (fun h1 => ?_)
 ·have h1d := bsT h1
  have g'1 := (jn @h1 @h1d)
  refine aa g'1 ?_
  exact hQ _ _ (aF (.inl rfl) hbel (x := .bool (decide (n ≤ hi))) (ag Tryz.results73) rfl ⟨by simp [btw, h1d], rfl⟩)
 ·have h1d := bsT h1
  have g'2 := (jn @h1 @h1d)
  refine aa g'2 ?_
  exact hQ _ _ (aF (.inl rfl) hbel (x := .bool false) (ag Tryz.results73) rfl ⟨by simp [btw, h1d], rfl⟩)
theorem fA (H : ac) (x : Int) (m : Int) (h : 0 ≤ m ∧ m ≤ 4611686018427387904) : ACalls Tryz.prog 47 [.int .i64 x, .int .i64 m] H (fun v H' => v = .bool (bZ x m) ∧ H' = H) := by
 refine AcT true Tryz.func47 ?_; intro hbel Q hQ
 refine aY ?_
 refine af (by kernel_rfl) (dY _ x (0 - m) m) ?_
 refine aY ?_
 exact hQ _ _ (aF (.inl rfl) hbel (x := .bool (btw x (0 - m) m)) (ag Tryz.results47) rfl ⟨by simp [btw, bZ, true_and], rfl⟩)
theorem fJ (H : ac) (t : Int) (f : Int) : ACalls Tryz.prog 46 [.agg [.int .i64 t, .int .i64 f]] H (fun v H' => v = .bool (cQ t f) ∧ H' = H) := by
 refine AcT true Tryz.func46 ?_; intro hbel Q hQ
 refine aY ?_
 refine af (by kernel_rfl) (fA _ t 32 (by decide)) ?_
 refine aY ?_
 refine aj (fun h1 => ?_) (fun h1 => ?_)
 ·have h1d := bsT h1
  have g'3 := (jn @h1 @h1d)
  refine aa g'3 ?_
  refine af (by kernel_rfl) (dY _ f 0 32) ?_
  refine aa g'3 ?_
  exact hQ _ _ (ae (.inl rfl) hbel (x := .bool (btw f 0 32)) (ag Tryz.results46) rfl ⟨by simp [cQ, h1d], rfl⟩)
 ·have h1d := bsT h1
  have g'4 := (jn @h1 @h1d)
  refine aa g'4 ?_
  exact hQ _ _ (ae (.inl rfl) hbel (x := .bool false) (ag Tryz.results46) rfl ⟨by simp [cQ, h1d], rfl⟩)
theorem i8 (H : ac) (tu : Int) (le : Int) (sl : Int) (ra : Int) : ACalls Tryz.prog 42 [.agg [.int .i64 tu, .int .i64 le, .int .i64 sl, .int .i64 ra]] H (fun v H' => v = .bool (cJ tu le sl ra) ∧ H' = H) := by
 refine AcT true Tryz.func42 ?_; intro hbel Q hQ
 refine aY ?_
 refine af (by kernel_rfl) (dY _ tu 0 8) ?_
 refine aY ?_
 refine aj (fun h1 => ?_) (fun h1 => ?_)
 ·have h1d := bsT h1
  have g'5 := (jn @h1 @h1d)
  refine aa g'5 ?_
  refine af (by kernel_rfl) (dY _ le 0 16) ?_
  refine aa g'5 ?_
  refine aj (fun h2 => ?_) (fun h2 => ?_)
  ·have h2d := bsT h2
   have g'6 := (jn @h2 (jn @h2d g'5))
   refine aa g'6 ?_
   refine af (by kernel_rfl) (dY _ sl 0 8) ?_
   refine aa g'6 ?_
   refine aj (fun h3 => ?_) (fun h3 => ?_)
   ·have h3d := bsT h3
    have g'7 := (jn @h3 (jn @h3d g'6))
    refine aa g'7 ?_
    refine af (by kernel_rfl) (dY _ ra 1 32) ?_
    refine aa g'7 ?_
    exact hQ _ _ (ae (.inl rfl) hbel (x := .bool (btw ra 1 32)) (ag Tryz.results42) rfl ⟨by simp [cJ, h1d, h2d, h3d], rfl⟩)
   ·have h3d := bsT h3
    have g'8 := (jn @h3 (jn @h3d g'6))
    refine aa g'8 ?_
    exact hQ _ _ (ae (.inl rfl) hbel (x := .bool false) (ag Tryz.results42) rfl ⟨by simp [cJ, h1d, h2d, h3d], rfl⟩)
  ·have h2d := bsT h2
   have g'9 := (jn @h2 (jn @h2d g'5))
   refine aa g'9 ?_
   exact hQ _ _ (ae (.inl rfl) hbel (x := .bool false) (ag Tryz.results42) rfl ⟨by simp [cJ, h1d, h2d], rfl⟩)
 ·have h1d := bsT h1
  have g'10 := (jn @h1 @h1d)
  refine aa g'10 ?_
  exact hQ _ _ (ae (.inl rfl) hbel (x := .bool false) (ag Tryz.results42) rfl ⟨by simp [cJ, h1d], rfl⟩)
theorem bbnd_c (H : ac) (tu : Int) (le : Int) (sl : Int) (ra : Int) : ACalls Tryz.prog 9 [.agg [.int .i64 tu, .int .i64 le, .int .i64 sl, .int .i64 ra]] H (fun v H' => v = .bool (cJ tu le sl ra) ∧ H' = H) := by
 refine AcT true Tryz.func9 ?_; intro hbel Q hQ
 refine aY ?_
 refine aj (fun h1 => ?_) (fun h1 => ?_)
 ·have h1d := bsT h1
  have g'11 := (jn @h1 @h1d)
  refine aa g'11 ?_
  refine aj (fun h2 => ?_) (fun h2 => ?_)
  ·have h2d := bsT h2
   have g'12 := (jn @h2 (jn @h2d g'11))
   refine aa g'12 ?_
   refine aj (fun h3 => ?_) (fun h3 => ?_)
   ·have h3d := bsT h3
    have g'13 := (jn @h3 (jn @h3d g'12))
    refine aa g'13 ?_
    refine aj (fun h4 => ?_) (fun h4 => ?_)
    ·have h4d := bsT h4
     have g'14 := (jn @h4 (jn @h4d g'13))
     refine aa g'14 ?_
     refine aj (fun h5 => ?_) (fun h5 => ?_)
     ·have h5d := bsT h5
      have g'15 := (jn @h5 (jn @h5d g'14))
      refine aa g'15 ?_
      refine aj (fun h6 => ?_) (fun h6 => ?_)
      ·have h6d := bsT h6
       have g'16 := (jn @h6 (jn @h6d g'15))
       refine aa g'16 ?_
       refine aj (fun h7 => ?_) (fun h7 => ?_)
       ·have h7d := bsT h7
        have g'17 := (jn @h7 (jn @h7d g'16))
        refine aa g'17 ?_
        exact hQ _ _ (ae (.inl rfl) hbel (x := .bool (decide (ra ≤ 32))) (ag Tryz.results9) rfl ⟨by simp [cJ, btw, h1d, h2d, h3d, h4d, h5d, h6d, h7d], rfl⟩)
       ·have h7d := bsT h7
        have g'18 := (jn @h7 (jn @h7d g'16))
        refine aa g'18 ?_
        exact hQ _ _ (ae (.inl rfl) hbel (x := .bool false) (ag Tryz.results9) rfl ⟨by simp [cJ, btw, h1d, h2d, h3d, h4d, h5d, h6d, h7d], rfl⟩)
      ·have h6d := bsT h6
       have g'19 := (jn @h6 (jn @h6d g'15))
       refine aa g'19 ?_
       exact hQ _ _ (ae (.inl rfl) hbel (x := .bool false) (ag Tryz.results9) rfl ⟨by simp [cJ, btw, h1d, h2d, h3d, h4d, h5d, h6d], rfl⟩)
     ·have h5d := bsT h5
      have g'20 := (jn @h5 (jn @h5d g'14))
      refine aa g'20 ?_
      exact hQ _ _ (ae (.inl rfl) hbel (x := .bool false) (ag Tryz.results9) rfl ⟨by simp [cJ, btw, h1d, h2d, h3d, h4d, h5d], rfl⟩)
    ·have h4d := bsT h4
     have g'21 := (jn @h4 (jn @h4d g'13))
     refine aa g'21 ?_
     exact hQ _ _ (ae (.inl rfl) hbel (x := .bool false) (ag Tryz.results9) rfl ⟨by simp [cJ, btw, h1d, h2d, h3d, h4d], rfl⟩)
   ·have h3d := bsT h3
    have g'22 := (jn @h3 (jn @h3d g'12))
    refine aa g'22 ?_
    exact hQ _ _ (ae (.inl rfl) hbel (x := .bool false) (ag Tryz.results9) rfl ⟨by simp [cJ, btw, h1d, h2d, h3d], rfl⟩)
  ·have h2d := bsT h2
   have g'23 := (jn @h2 (jn @h2d g'11))
   refine aa g'23 ?_
   exact hQ _ _ (ae (.inl rfl) hbel (x := .bool false) (ag Tryz.results9) rfl ⟨by simp [cJ, btw, h1d, h2d], rfl⟩)
 ·have h1d := bsT h1
  have g'24 := (jn @h1 @h1d)
  refine aa g'24 ?_
  exact hQ _ _ (ae (.inl rfl) hbel (x := .bool false) (ag Tryz.results9) rfl ⟨by simp [cJ, btw, h1d], rfl⟩)
theorem kH (H : ac) (a : Int) (b : Int) (hb : 0 < b) (hw : -4611686018427387904 ≤ a ∧ a ≤ 4611686018427387904) : ACalls Tryz.prog 181 [.int .i64 a, .int .i64 b] H (fun v H' => v = .int .i64 (a / b) ∧ H' = H) := by
 have htd := fX (a := a) (b := b) hb hw
 refine AcT true Tryz.func181 ?_; intro hbel Q hQ
 refine aY ?_
 refine ai (fun h1 => ?_) (fun h1 => ?_)
 ·have h1d := bsT h1
  have hfinq : Int.tdiv a b - 1 = a / b := by rw [← iv hb, if_pos h1d]
  have g'25 := (jn @h1 @h1d)
  refine aa g'25 ?_
  exact hQ _ _ (aF (.inl rfl) hbel (x := .int .i64 ((Int.tdiv a b) - 1)) (ag Tryz.results181) rfl ⟨congrArg (AV.int .i64) hfinq, rfl⟩)
 ·have h1d := bsT h1
  have hfinq : Int.tdiv a b = a / b := by rw [← iv hb, if_neg (by omega)]
  have g'26 := (jn @h1 @h1d)
  refine aa g'26 ?_
  exact hQ _ _ (aF (.inl rfl) hbel (x := .int .i64 (Int.tdiv a b)) (ag Tryz.results181) rfl ⟨congrArg (AV.int .i64) hfinq, rfl⟩)
theorem iw (H : ac) (h : Int) : ACalls Tryz.prog 77 [.int .i64 h] H (fun v H' => v = .int .i64 (((h % 256).toNat : Nat) : Int) ∧ H' = H) := by
 refine AcT true Tryz.func77 ?_; intro hbel Q hQ
 have g'29 := @wS
 refine aa g'29 ?_
 exact hQ _ _ (aF (.inl rfl) hbel (x := .int .i64 (((h % 256).toNat : Nat) : Int)) (ag Tryz.results77) rfl ⟨rfl, rfl⟩)
open Go.RowKit
def gst (x y d : Int) : Nat → Nat
 | 0 => d.natAbs
 | 1 => Nat.gcd d.natAbs x.natAbs
 | _ + 2 => eu x y d
def nst (x y : Int) : Nat → Nat
 | 0 => x.natAbs
 | _ + 1 => y.natAbs
theorem lA (a b : Nat) : Nat.gcd b (a % b) = Nat.gcd a b := by rw [Nat.gcd_comm b, ← Nat.gcd_rec, Nat.gcd_comm]
theorem rot_ok {v : Vec} (h : fm v = true) : ∀ n, fm (rotN v n) = true
 | 0 => h
 | n + 1 => by
  have ih := dq.1 (rot_ok h n)
  rw [dq]
  unfold rotN
  simp only
  refine ⟨ih.1, by omega, by omega, ?_⟩
  rw [Int.neg_mul_neg]; omega
theorem dir0_ok {k : Nat} (h : k < 64) : fm (dir0 k) = true := by
 have := List.all_eq_true.1 dirs_ok k (by simp; omega)
 unfold dirN at this
 rwa [Nat.mod_eq_of_lt h, Nat.div_eq_of_lt h] at this
theorem rotN_D (v : Vec) : ∀ n, (rotN v n).2.2 = v.2.2
 | 0 => rfl
 | n + 1 => rotN_D v n
theorem low_c (H : ac) (x : Int) (y : Int) (d : Int) (hd : 0 < d) (kbx : -1152921504606846976 ≤ x ∧ x ≤ 1152921504606846976) (kby : -1152921504606846976 ≤ y ∧ y ≤ 1152921504606846976) (kbd : -1152921504606846976 ≤ d ∧ d ≤ 1152921504606846976) : ACalls Tryz.prog 113 [.int .i64 x, .int .i64 y, .int .i64 d] H (fun v H' => v = .agg [.int .i64 ((fh x y d).1), .int .i64 ((fh x y d).2.1), .int .i64 ((fh x y d).2.2)] ∧ H' = H) := by
 have hmx : (if x < 0 - x then 0 - x else x) = ((x.natAbs : Nat) : Int) := by split <;> omega
 have hmy : (if y < 0 - y then 0 - y else y) = ((y.natAbs : Nat) : Int) := by split <;> omega
 have hg00 : ((gst x y d 0 : Nat) : Int) = d := by simp only [gst]; omega
 have hg2 : gst x y d 2 = eu x y d := rfl
 have hg0 : 0 < eu x y d := vM (by omega)
 have t1 := fX (a := x) (b := ((eu x y d : Nat) : Int)) (by omega) (by omega)
 have t2 := fX (a := y) (b := ((eu x y d : Nat) : Int)) (by omega) (by omega)
 have t3 := fX (a := d) (b := ((eu x y d : Nat) : Int)) (by omega) (by omega)
 refine AcT true Tryz.func113 ?_; intro hbel Q hQ
 have g'1 := (jn @hmx (jn @hmy (jn @hg2 @rem_nat)))
 refine aa g'1 ?_
 refine go_loop try_mixed (by kernel_rfl) (fun k F Hx => ∃ j : Nat, j + k = 2 ∧ F = [(0, .int .i64 x), (1, .int .i64 y), (2, .int .i64 d), (6, .ptr (some (H.length, 0))), (7, .int .i64 ((gst x y d j : Nat) : Int)), (13, .agg [.int .i64 x, .int .i64 y]), (14, .int .i64 ((j : Nat) : Int))] ∧ Hx = H ++ [.cells true 0 [.int .i64 0, .int .i64 0, .int .i64 0]]) (2) ?_ ?_
 ·refine ⟨_, _, _, ⟨0, by omega, rfl, rfl⟩, Abs.byG hbel [] rfl [0] (by decide) ?_⟩
  exact bp (jn @hg00 @Int.natCast_zero)
 ·rintro k0 F Hx ⟨j, hm0, rfl, rfl⟩ J0 hJ0
  refine aa g'1 ?_
  refine ai (fun h1 => ?_) (fun h1 => ?_)
  ·have h1d := bsT h1
   obtain rfl | rfl := (by omega : j = 0 ∨ j = 1)
   ·skip
    have g'2 := (jn @h1 (jn @h1d g'1))
    refine aa g'2 ?_
    refine go_loop try_mixed (by kernel_rfl) (fun k F Hx => ∃ a : Nat, ∃ b : Nat, b = k ∧ Nat.gcd a b = gst x y d (0 + 1) ∧ F = [(0, .int .i64 x), (1, .int .i64 y), (2, .int .i64 d), (6, .ptr (some (H.length, 0))), (7, .int .i64 ((a : Nat) : Int)), (9, .int .i64 ((b : Nat) : Int)), (13, .agg [.int .i64 x, .int .i64 y]), (14, .int .i64 0)] ∧ Hx = H ++ [.cells true 0 [.int .i64 0, .int .i64 0, .int .i64 0]]) (nst x y 0) ?_ ?_
    ·refine ⟨_, _, _, ⟨gst x y d 0, nst x y 0, by omega, rfl, rfl, rfl⟩, Abs.byG hbel [] rfl [0] (by decide) ?_⟩
     exact bp (jn @nst.eq_1 @nst.eq_2)
    ·rintro k1 F Hx ⟨a, b, hm1, hG, rfl, rfl⟩ J1 hJ1
     refine aa g'2 ?_
     refine ai (fun h2 => ?_) (fun h2 => ?_)
     ·have h2d := bsT h2
      have hlt : a % b < b := Nat.mod_lt _ (by omega)
      have g'3 := (jn @h2 (jn @h2d (jn @aU (jn @aT g'2))))
      refine aa g'3 ?_
      refine hJ1 _ _ ⟨a % b, by omega, _, _, _, ⟨b, a % b, by omega, by rw [← hG, lA], rfl, rfl⟩, Abs.byG hbel [] rfl [0] (by decide) ?_⟩
      exact bp @h2d
     ·have h2d := bsT h2
      obtain rfl : b = 0 := by omega
      rw [Nat.gcd_zero_right] at hG
      have g'4 := (jn @h2 (jn @h2d (jn @aU (jn @aT g'2))))
      refine aa g'4 ?_
      refine hJ0 _ _ ⟨k0 - 1, by omega, _, _, _, ⟨0 + 1, by omega, rfl, rfl⟩, Abs.byG hbel [] rfl [0] (by decide) ?_⟩
      exact bp (jn @hG @h2d)
   ·skip
    have g'5 := (jn @h1 (jn @h1d g'1))
    refine aa g'5 ?_
    refine go_loop try_mixed (by kernel_rfl) (fun k F Hx => ∃ a : Nat, ∃ b : Nat, b = k ∧ Nat.gcd a b = gst x y d (1 + 1) ∧ F = [(0, .int .i64 x), (1, .int .i64 y), (2, .int .i64 d), (6, .ptr (some (H.length, 0))), (7, .int .i64 ((a : Nat) : Int)), (9, .int .i64 ((b : Nat) : Int)), (13, .agg [.int .i64 x, .int .i64 y]), (14, .int .i64 1)] ∧ Hx = H ++ [.cells true 0 [.int .i64 0, .int .i64 0, .int .i64 0]]) (nst x y 1) ?_ ?_
    ·refine ⟨_, _, _, ⟨gst x y d 1, nst x y 1, by omega, rfl, rfl, rfl⟩, Abs.byG hbel [] rfl [0] (by decide) ?_⟩
     exact bp (jn @nst.eq_1 @nst.eq_2)
    ·rintro k1 F Hx ⟨a, b, hm1, hG, rfl, rfl⟩ J1 hJ1
     refine aa g'5 ?_
     refine ai (fun h3 => ?_) (fun h3 => ?_)
     ·have h3d := bsT h3
      have hlt : a % b < b := Nat.mod_lt _ (by omega)
      have g'6 := (jn @h3 (jn @h3d (jn @aU (jn @aT g'5))))
      refine aa g'6 ?_
      refine hJ1 _ _ ⟨a % b, by omega, _, _, _, ⟨b, a % b, by omega, by rw [← hG, lA], rfl, rfl⟩, Abs.byG hbel [] rfl [0] (by decide) ?_⟩
      exact bp @h3d
     ·have h3d := bsT h3
      obtain rfl : b = 0 := by omega
      rw [Nat.gcd_zero_right] at hG
      have g'7 := (jn @h3 (jn @h3d (jn @aU (jn @aT g'5))))
      refine aa g'7 ?_
      refine hJ0 _ _ ⟨k0 - 1, by omega, _, _, _, ⟨1 + 1, by omega, rfl, rfl⟩, Abs.byG hbel [] rfl [0] (by decide) ?_⟩
      exact bp (jn @hG @h3d)
  ·have h1d := bsT h1
   obtain rfl : j = 2 := by omega
   skip
   have g'8 := (jn @h1 (jn @h1d g'1))
   refine aa g'8 ?_
   exact hQ _ _ (ae (.inl rfl) hbel (x := .agg [.int .i64 (Int.tdiv x ((eu x y d : Nat) : Int)), .int .i64 (Int.tdiv y ((eu x y d : Nat) : Int)), .int .i64 (Int.tdiv d ((eu x y d : Nat) : Int))]) (ag Tryz.results113) rfl ⟨rfl, rfl⟩)
theorem dir_c (H : ac) (h : Int) : ACalls Tryz.prog 78 [.int .i64 h] H (fun v H' => v = .agg [.int .i64 ((cB h).1), .int .i64 ((cB h).2.1), .int .i64 ((cB h).2.2)] ∧ H' = H) := by
 have hK : ((h % 256).toNat % 64) < 64 := Nat.mod_lt _ (by decide)
 have hN : ((h % 256).toNat / 64) ≤ 3 := by omega
 have hkk := bS (a := ((((h % 256).toNat % 64) : Nat) : Int)) (b := ((((h % 256).toNat % 64) : Nat) : Int)) (A := 63) (B := 63) (by omega) (by omega)
 refine AcT true Tryz.func78 ?_; intro hbel Q hQ
 have g'9 := (jn @rem_n64 @quo_n64)
 refine aa g'9 ?_
 refine af (by kernel_rfl) (iw _ h) ?_
 refine aa g'9 ?_
 refine af (by kernel_rfl) (low_c _ (4096 - (((((h % 256).toNat) % 64 : Nat) : Int) * ((((h % 256).toNat) % 64 : Nat) : Int))) (128 * ((((h % 256).toNat) % 64 : Nat) : Int)) (4096 + (((((h % 256).toNat) % 64 : Nat) : Int) * ((((h % 256).toNat) % 64 : Nat) : Int))) (by omega) (by omega) (by omega) (by omega)) ?_
 refine aa g'9 ?_
 refine go_loop try_mixed (by kernel_rfl) (fun k F Hx => ∃ n : Nat, n + k = ((h % 256).toNat / 64) ∧ F = [(2, .ptr (some (H.length, 0))), (4, .ptr (some (H.length + 1, 0))), (21, .int .i64 ((((h % 256).toNat) / 64 : Nat) : Int)), (22, .int .i64 ((n : Nat) : Int))] ∧ Hx = H ++ [.cells true 0 [.int .i64 0, .int .i64 0, .int .i64 0], .cells true 0 [.int .i64 ((rotN (dir0 ((h % 256).toNat % 64)) n).1), .int .i64 ((rotN (dir0 ((h % 256).toNat % 64)) n).2.1), .int .i64 ((fh (4096 - (((((h % 256).toNat) % 64 : Nat) : Int) * ((((h % 256).toNat) % 64 : Nat) : Int))) (128 * ((((h % 256).toNat) % 64 : Nat) : Int)) (4096 + (((((h % 256).toNat) % 64 : Nat) : Int) * ((((h % 256).toNat) % 64 : Nat) : Int)))).2.2)]]) (((h % 256).toNat / 64)) ?_ ?_
 ·refine ⟨_, _, _, ⟨0, by omega, rfl, rfl⟩, Abs.byG hbel [] rfl [0, 1] (by decide) ?_⟩
  exact bp (jn @rotN.eq_1 @dir0.eq_1)
 ·rintro k0 F Hx ⟨n, hm0, rfl, rfl⟩ J0 hJ0
  refine aa g'9 ?_
  refine ai (fun h1 => ?_) (fun h1 => ?_)
  ·have h1d := bsT h1
   have hro := dq.1 (rot_ok (dir0_ok hK) n)
   have g'10 := (jn @h1 (jn @h1d g'9))
   refine aa g'10 ?_
   refine hJ0 _ _ ⟨k0 - 1, by omega, _, _, _, ⟨n + 1, by omega, rfl, rfl⟩, Abs.byG hbel [] rfl [0, 1] (by decide) ?_⟩
   exact bp (jn @rotN.eq_2 @Int.zero_sub)
  ·have h1d := bsT h1
   have hfinn : n = ((h % 256).toNat / 64) := by omega
   have g'11 := (jn @h1 (jn @h1d g'9))
   refine aa g'11 ?_
   exact hQ _ _ (ae (.inl rfl) hbel (x := .agg [.int .i64 ((rotN (dir0 ((h % 256).toNat % 64)) n).1), .int .i64 ((rotN (dir0 ((h % 256).toNat % 64)) n).2.1), .int .i64 ((fh (4096 - (((((h % 256).toNat) % 64 : Nat) : Int) * ((((h % 256).toNat) % 64 : Nat) : Int))) (128 * ((((h % 256).toNat) % 64 : Nat) : Int)) (4096 + (((((h % 256).toNat) % 64 : Nat) : Int) * ((((h % 256).toNat) % 64 : Nat) : Int)))).2.2)]) (ag Tryz.results78) rfl ⟨by subst hfinn; rw [show cB h = rotN (dir0 ((h % 256).toNat % 64)) ((h % 256).toNat / 64) from rfl, rotN_D]; rfl, rfl⟩)
open Go.RowKit
def ptB (x y : Int) : Bool := bZ x 1048576 && bZ y 1048576
open Go.RowKit
def fY (x0 y0 x1 y1 : Int) : Bool := decide (x0 ≤ x1) && (decide (y0 ≤ y1) && (ptB x0 y0 && ptB x1 y1))
theorem js {x0 y0 x1 y1 : Int} : fY x0 y0 x1 y1 = true ↔ (-1048576 ≤ x0 ∧ x0 ≤ x1 ∧ x1 ≤ 1048576) ∧ (-1048576 ≤ y0 ∧ y0 ≤ y1 ∧ y1 ≤ 1048576) := by
 unfold fY ptB; simp only [Bool.and_eq_true, decide_eq_true_eq, br]; omega
def spl (a : Int) : Int := 0 - (0 - a) / 64 - 1
def sph (b : Int) : Int := b / 64
def cC (a b : Int) : Nat := (sph b - spl a + 1).toNat
theorem gridR_s {p : Int → Int → Bool} {x0 y0 : Int} {w n : Nat} : cN p x0 w y0 (n + 1) = cN p x0 w y0 n ++ rowR p x0 (y0 + n) w := rfl
theorem gridR_0 {p : Int → Int → Bool} {x0 y0 : Int} {w : Nat} : cN p x0 w y0 0 = [] := rfl
theorem rowR_0 {p : Int → Int → Bool} {x0 y : Int} : rowR p x0 y 0 = [] := rfl
open Go.RowKit
def eW {α : Type} (p : α → Bool) (l : List α) : Int := if l.any p = true then ((l.findIdx p : Nat) : Int) else -1
theorem ia {α : Type} {p : α → Bool} {l : List α} {i : Nat} (hi : i < l.length) (h0 : (l.take i).any p = false) (h1 : p l[i] = true) : eW p l = (i : Int) := by
 have ha : l.any p = true := List.any_eq_true.2 ⟨l[i], List.getElem_mem hi, h1⟩
 have hf : l.findIdx p = i := (List.findIdx_eq hi).2 ⟨h1, fun j hj => by
  have := List.any_eq_false.1 h0 l[j] (by rw [List.mem_take_iff_getElem]; exact ⟨j, by omega, rfl⟩)
  simpa using this⟩
 unfold eW; rw [if_pos ha, hf]
theorem eX {α : Type} {p : α → Bool} {l : List α} (h : l.any p = false) : eW p l = -1 := by
 unfold eW; rw [if_neg (by simp [h])]
theorem jt {α : Type} {p : α → Bool} {l : List α} : decide (0 ≤ eW p l) = l.any p := by
 cases h : l.any p
 ·rw [eX h]; rfl
 ·unfold eW; rw [if_pos h]; exact decide_eq_true (by omega)
theorem wT {α : Type} (p : α → Bool) (l : List α) : (eW p l = -1 ∧ l.any p = false) ∨ ∃ i : Nat, ∃ hi : i < l.length, eW p l = (i : Int) ∧ (l.take i).any p = false ∧ p l[i] = true := by
 cases h : l.any p
 ·exact .inl ⟨eX h, rfl⟩
 ·right
  have hl : l.findIdx p < l.length := List.findIdx_lt_length_of_exists (by simpa using h)
  have h1 : p l[l.findIdx p] = true := List.findIdx_getElem
  have h0 : (l.take (l.findIdx p)).any p = false := List.any_eq_false.2 fun x hx => by
   obtain ⟨j, hj, rfl⟩ := List.mem_take_iff_getElem.1 hx
   have := List.not_of_lt_findIdx (p := p) (xs := l) (i := j) (by omega)
   simpa using this
  exact ⟨_, hl, ia hl h0 h1, h0, h1⟩
theorem cw {l : List (Int × Int)} {j : Nat} (h : j < l.length) : (g1 l j, g2 l j) = l[j] := by
 simp [g1, g2, h, List.getD_eq_getElem?_getD]
theorem iN {l : List Int} {j : Nat} (h : j < l.length) : (gi l j) = l[j] := by
 simp [gi, h, List.getD_eq_getElem?_getD]
theorem ix {α : Type} {l : List α} {p : α → Bool} {i : Nat} (h : i < l.length) : (l.take (i + 1)).any p = ((l.take i).any p || p l[i]) := by
 rw [List.take_succ_eq_append_getElem h, List.any_append]; simp
theorem fZ {n m : Nat} {sel : List Nat} {caps : List AV} (h : AV.bels n caps = true) : AV.mvs (sig n m sel) caps = caps := iX (fun b hb => iu hb) caps h
open Go.RowKit
set_option maxRecDepth 100000 in
theorem idx_cell (H : ac) (s : AV) (l : List (Int × Int)) (hs : Sl H 2 s l.length (prs l)) (hl : l.length ≤ 1000000000) (g : FuncId) (caps : List AV) (hok : dR Tryz.prog g = true) (hc : AV.bels H.length caps = true) (p : (Int × Int) → Bool) (hf : ∀ j, j < l.length → ACalls Tryz.prog g (.agg [.int .i64 (g1 l j), .int .i64 (g2 l j)] :: caps) H (fun v H' => v = .bool (p (g1 l j, g2 l j)) ∧ H' = H)) :
  ACalls Tryz.prog 135 [s, .fn g caps] H (fun v H' => v = .int .i64 (eW p l) ∧ H' = H) := by
 obtain ⟨b, own, cap, rfl, hb⟩ := hs
 have hbl := getElem?_lt hb
 have hmv := fun m sel => fZ (n := H.length) (m := m) (sel := sel) hc
 (refine cr try_mixed Tryz.func135 true _ rfl (Nat.le_of_ble_eq_true (by kernel_rfl)) (by kernel_rfl) ?_; intro hbel Q hQ hQ' c hc; unfold Tryz.f135 at hc; simp only [Option.some.injEq] at hc; subst hc; clear hQ')
 simp -implicitDefEqProofs (disch := omega) only [simprocAttr, aB, aC, Function.comp_apply, one1, lenV, ak, ar, au, aop, AV.ofValue, AV.ofCell, AV.cells, AV.flat, AV.one, arep, aN, aD, az]
 refine go_loop try_mixed (by kernel_rfl) (fun k F Hx => ∃ i : Nat, i + k = l.length ∧ (l.take i).any p = false ∧ F = [(0, .sl (some (b, 0)) l.length none), (1, .fn g caps), (7, .int .i64 l.length), (8, .int .i64 (i : Nat))] ∧ Hx = H) l.length ?_ ?_
 ·refine ⟨_, _, _, ⟨0, by omega, rfl, rfl, rfl⟩, Abs.by0 hbel ?_⟩
  exact bp @hmv
 ·rintro k F Hx ⟨i, hik, ht, rfl, rfl⟩ J hJ
  by_cases hi : i < l.length
  ·have hii : (i : Int) < (l.length : Int) := by omega
   have q1 := cI hi
   have hg := cw hi
   simp -implicitDefEqProofs (disch := omega) only [hii, hb, q1, bK, cO, simprocAttr, aB, aC, Function.comp_apply, one1, lenV, ak, ar, au, aop, AV.ofValue, AV.ofCell, AV.cells, AV.flat, AV.one, arep, aN, aD, az]
   iterate 2 refine And.intro (by omega) ?_
   refine af hok (hf i hi) ?_
   have hst := ix (p := p) hi
   rw [ht, Bool.false_or, ← hg] at hst
   cases h1 : p (g1 l i, g2 l i)
   ·rw [h1] at hst
    simp -implicitDefEqProofs (disch := omega) only [h1, simprocAttr, aB, aC, Function.comp_apply, one1, lenV, ak, ar, au, aop, AV.ofValue, AV.ofCell, AV.cells, AV.flat, AV.one, arep, aN, aD, az]
    refine hJ _ _ ⟨k - 1, by omega, _, _, _, ⟨i + 1, by omega, hst, rfl, rfl⟩, Abs.by0 hbel ?_⟩
    exact bp @hmv
   ·simp -implicitDefEqProofs (disch := omega) only [h1, simprocAttr, aB, aC, Function.comp_apply, one1, lenV, ak, ar, au, aop, AV.ofValue, AV.ofCell, AV.cells, AV.flat, AV.one, arep, aN, aD, az]
    exact hQ _ _ (aF (.inl rfl) hbel (x := .int .i64 (i : Nat)) (ag Tryz.results135) rfl ⟨by rw [ia hi ht (by rw [← hg]; exact h1)], rfl⟩)
  ·have hnn : ¬ ((i : Int) < (l.length : Int)) := by omega
   simp -implicitDefEqProofs (disch := omega) only [hnn, simprocAttr, aB, aC, Function.comp_apply, one1, lenV, ak, ar, au, aop, AV.ofValue, AV.ofCell, AV.cells, AV.flat, AV.one, arep, aN, aD, az]
   rw [List.take_of_length_le (by omega)] at ht
   exact hQ _ _ (aF (.inl rfl) hbel (x := .int .i64 (-1)) (ag Tryz.results135) rfl ⟨by rw [eX ht], rfl⟩)
open Go.RowKit
theorem vN {l : List (Int × Int)} {j : Nat} {a b : Int} (h : j < l.length) : ((prs l).set (j * 2) (.int .i64 a)).set (j * 2 + 1) (.int .i64 b) = prs (l.set j (a, b)) := by
 induction l generalizing j with
 | nil => simp at h
 | cons p l ih =>
  cases j with
  | zero => simp [cP]
  | succ j =>
   have e1 : (j + 1) * 2 = (j * 2).succ.succ := by omega
   have e2 : (j + 1) * 2 + 1 = (j * 2 + 1).succ.succ := by omega
   rw [cP, e2, e1]
   show _ :: _ :: ((prs l).set (j * 2) (.int .i64 a)).set (j * 2 + 1) (.int .i64 b) = _
   rw [ih (by simpa using h)]
   rfl
theorem prs_rep {m : Nat} : prs (List.replicate m (0, 0)) = (List.range (m * 2)).map fun j => ([.int .i64 0, .int .i64 0] : List AV).getD (j % 2) .any := by
 induction m with
 | zero => rfl
 | succ m ih =>
  have e : List.replicate (m + 1) ((0 : Int), (0 : Int)) = List.replicate m (0, 0) ++ [(0, 0)] := by rw [List.replicate_succ']
  rw [e, am, ih, Nat.succ_mul, List.range_succ, List.range_succ, List.map_append, List.map_append]
  have e1 : m * 2 % 2 = 0 := by omega
  have e2 : (m * 2 + 1) % 2 = 1 := by omega
  simp [cP, iZ, e1, e2]
theorem iU : ∀ (ys xs : List AV) (o : Nat), o + ys.length = xs.length → splice xs o ys = xs.take o ++ ys
 | [], xs, o, h => by
  rw [splice, List.append_nil, List.take_of_length_le]
  simp at h; omega
 | y :: ys, xs, o, h => by
  rw [splice, iU ys _ _ (by simp at h ⊢; omega)]
  simp only [List.length_cons] at h
  have ho : o < xs.length := by omega
  rw [List.take_succ_eq_append_getElem (by simpa using ho), List.getElem_set_self, List.take_set_of_le (Nat.le_refl _)]
  simp
theorem mT {l ys : List (Int × Int)} {i : Nat} (h : i + ys.length = l.length) : splice (prs l) (i * 2) (prs ys) = prs (l.take i ++ ys) := by
 rw [iU _ _ _ (by rw [bK, bK]; omega), rS, am]
theorem iO {k : IntKind} {l : List Int} {j : Nat} {a : Int} : (ints k l).set j (.int k a) = ints k (l.set j a) := lp
open Go.RowKit
theorem fu {n : Nat} : ∀ {l : List (Int × Int)}, AV.bels n (prs l) = true
 | [] => rfl
 | p :: l => by rw [cP]; simp only [AV.bels, AV.bel, Bool.true_and]; exact fu
theorem HBel.put {n : Nat} {H : ac} (h : HBel n H) (b : Nat) {x : ABlk} (hx : x.bel n = true) : HBel n (H.set b x) := fun c y hy => by
 rw [List.getElem?_set] at hy
 split at hy
 ·split at hy
  ·simp at hy; subst hy; exact hx
  ·cases hy
 ·exact h c y hy
theorem Abs.byS0 {H0 : ac} {F1 F2 : Fr} {n : Nat} (hn : H0.length = n) (hsc : HBel n H0) (h : fg n (sig n 0 []) F1 F2) : Abs n (sig n 0 []) F1 H0 F2 H0 := by
 subst hn; exact Abs.by0 hsc h
theorem Abs.byS1 {H0 l1 : ac} {F1 F2 : Fr} {n : Nat} (hn : H0.length = n) (hsc : HBel n H0) (h : fg (n + l1.length) (sig n l1.length []) F1 F2) : Abs n (sig n l1.length []) F1 (H0 ++ l1) F2 H0 := by
 subst hn; exact Abs.byN hsc h
theorem Abs.by0e {H0 H2 : ac} {F1 F2 : Fr} (e : H2 = H0) (hsc : HBel H0.length H0) (h : fg H0.length (sig H0.length 0 []) F1 F2) : Abs H0.length (sig H0.length 0 []) F1 H0 F2 H2 := by
 subst e; exact Abs.by0 hsc h
theorem end_byS {P : Program} {fn : Func} {H0 : ac} {R : AV → ac → Prop} {F : Fr} {e : Exit} {n : Nat} (hn : H0.length = n) (he : e = .ret ∨ e = .normal) (hbel : HBel n H0) {x1 : AV} (x2 : AV) (hx : cW P fn F H0 = some x1) (hR : R x2 H0) (h : W n x1 (x2.mv (sig n 0 []))) : dK P fn n R e F H0 := by
 subst hn
 exact kA (l2 := []) he hbel x2 hx [] rfl [] (by simp) (by rw [List.append_nil]; exact hR) ⟨h, trivial⟩
def b9 {α : Type} (p : α → Bool) (l : List α) : List α := l.filter fun e => !p e
theorem kf {α : Type} {p : α → Bool} {l : List α} (h : l.any p = false) : b9 p l = l := by
 unfold b9
 rw [List.filter_eq_self]
 intro a ha
 have := List.any_eq_false.1 h a ha
 simpa using this
theorem rh {α : Type} {p : α → Bool} {l : List α} {j : Nat} (h : j < l.length) : b9 p (l.take (j + 1)) = b9 p (l.take j) ++ (if p l[j] = true then [] else [l[j]]) := by
 unfold b9
 rw [List.take_succ_eq_append_getElem h, List.filter_append]
 congr 1
 cases hp : p l[j] <;> simp [hp]
theorem delL_le {α : Type} {p : α → Bool} {l : List α} : (b9 p l).length ≤ l.length := List.length_filter_le _ _
def dL (n : Nat) (l : List (Int × Int)) : List (Int × Int) := l ++ List.replicate (n - l.length) (0, 0)
theorem iy {n : Nat} {l : List (Int × Int)} : prs (dL n l) = prs l ++ prs (List.replicate (n - l.length) (0, 0)) := am
set_option maxRecDepth 100000 in
theorem del_cell (H : ac) (b : Nat) (cap : Option Nat) (l : List (Int × Int)) (hb : H[b]? = some (.cells (bm l.length) 2 (prs l))) (hl : l.length ≤ 1000000000) (g : FuncId) (caps : List AV) (hok : dR Tryz.prog g = true) (hc : AV.bels H.length caps = true) (p : (Int × Int) → Bool)
  (hf : ∀ (X : List (Int × Int)) (e : Int × Int) (L : ac), e ∈ l → ACalls Tryz.prog g (.agg [.int .i64 e.1, .int .i64 e.2] :: caps) (H.set b (.cells (bm l.length) 2 (prs X)) ++ L) (fun v H' => v = .bool (p e) ∧ H' = H.set b (.cells (bm l.length) 2 (prs X)) ++ L)) :
  ACalls Tryz.prog 97 [.sl (some (b, 0)) l.length cap, .fn g caps] H (fun v H' => v = .sl (some (b, 0)) (b9 p l).length none ∧ H' = H.set b (.cells (bm l.length) 2 (prs (dL l.length (b9 p l))))) := by
 have hbl := getElem?_lt hb
 have hset : ∀ X L, (H.set b X ++ L)[b]? = some X := fun X L => by rw [List.getElem?_append_left (by simpa using hbl), List.getElem?_set_self hbl]
 have hset0 : ∀ X, (H.set b X)[b]? = some X := fun X => List.getElem?_set_self hbl
 have hself : H.set b (.cells (bm l.length) 2 (prs l)) = H := by
  refine List.ext_getElem? fun i => ?_
  rw [List.getElem?_set]
  split
  ·rename_i e; subst e; first | exact hb.symm | (rw [if_pos hbl]; exact hb.symm)
  ·rfl
 have hmv := fun m sel => fZ (n := H.length) (m := m) (sel := sel) hc
 have key := idx_cell H (.sl (some (b, 0)) l.length cap) l ⟨b, _, cap, rfl, hb⟩ hl g caps hok hc p (fun j hj => by
  have := hf l (g1 l j, g2 l j) [] (by rw [cw hj]; exact List.getElem_mem hj)
  rw [List.append_nil, hself] at this
  exact this)
 (refine cr try_mixed Tryz.func97 true _ rfl (Nat.le_of_ble_eq_true (by kernel_rfl)) (by kernel_rfl) ?_; intro hbel Q hQ hQ' c hc; unfold Tryz.f97 at hc; simp only [Option.some.injEq] at hc; subst hc; clear hQ')
 simp -implicitDefEqProofs (disch := omega) only [simprocAttr, aB, aC, Function.comp_apply, one1, lenV, ak, ar, au, aop, AV.ofValue, AV.ofCell, AV.cells, AV.flat, AV.one, arep, aN, aD, az]
 refine af (by kernel_rfl) key ?_
 rcases wT p l with ⟨h1, h2⟩ | ⟨i, hi, h1, h2, h3⟩
 ·rw [h1]
  simp -implicitDefEqProofs (disch := omega) only [simprocAttr, aB, aC, Function.comp_apply, one1, lenV, ak, ar, au, aop, AV.ofValue, AV.ofCell, AV.cells, AV.flat, AV.one, arep, aN, aD, az]
  have e : H.set b (.cells (bm l.length) 2 (prs (dL l.length (b9 p l)))) = H := by rw [kf h2]; simp [dL, hself]
  exact hQ _ _ (kA (.inl rfl) hbel (x1 := .sl (some (b, 0)) l.length cap) (l2 := []) (.sl (some (b, 0)) (b9 p l).length none) (ag Tryz.results97) [] rfl [] (by decide) ⟨rfl, by rw [List.append_nil, e]⟩ (by rw [kf h2]; exact be))
 ·rw [h1]
  have hne : ((i : Int) == -1) = false := beq_eq_false_iff_ne.2 (by omega)
  have hown : bm l.length = true := ec (by omega)
  rw [hown] at hb hf hself
  simp -implicitDefEqProofs (disch := omega) only [hne, simprocAttr, aB, aC, Function.comp_apply, one1, lenV, ak, ar, au, aop, AV.ofValue, AV.ofCell, AV.cells, AV.flat, AV.one, arep, aN, aD, az]
  have hd0 : b9 p (l.take (i + 1)) = l.take i := by rw [rh hi, if_pos h3, List.append_nil, kf h2]
  have hdi : (b9 p (l.take (i + 1))).length = i := by rw [hd0, List.length_take]; omega
  refine go_loop try_mixed (by kernel_rfl) (fun k F Hx => ∃ (j : Nat) (X : List (Int × Int)), j + k = l.length ∧ (b9 p (l.take j)).length < j ∧ X.length = l.length ∧ X.take (b9 p (l.take j)).length = b9 p (l.take j) ∧ X.drop j = l.drop j ∧ F = [(0, .sl (some (b, 0)) l.length cap), (1, .fn g caps), (5, .int .i64 (((b9 p (l.take j)).length : Nat) : Int)), (6, .int .i64 ((j : Nat) : Int))] ∧ Hx = H.set b (.cells true 2 (prs X))) (l.length - (i + 1)) ?_ ?_
  ·refine ⟨_, _, _, ⟨i + 1, l, by omega, by rw [hdi]; omega, rfl, by rw [hd0, List.length_take, Nat.min_eq_left (by omega)], rfl, rfl, rfl⟩, Abs.by0e hself hbel ?_⟩
   exact bp (jn @hdi @hmv)
  ·rintro k F Hx ⟨j, X, hjk, hij, hXl, hXt, hXd, rfl, rfl⟩ J hJ
   obtain ⟨G, hG⟩ : ∃ G, G = H.set b (.cells true 2 (prs X)) := ⟨_, rfl⟩
   have hGl : G.length = H.length := by rw [hG, List.length_set]
   have hG1 : ∀ L, (G ++ L)[b]? = some (.cells true 2 (prs X)) := fun L => by rw [hG]; exact hset _ _
   have hG0 : G[b]? = some (.cells true 2 (prs X)) := by rw [hG]; exact hset0 _
   have hbG : b < G.length := by omega
   have hGs : ∀ Y L, (G ++ L).set b Y = H.set b Y ++ L := fun Y L => by rw [List.set_append_left _ _ hbG, hG, List.set_set]
   have hcall := fun e L => hf X e L
   rw [← hG] at hcall ⊢
   have hbelG : HBel H.length G := by rw [hG]; exact HBel.put hbel b fu
   obtain ⟨n, hn⟩ : ∃ n, n = (b9 p (l.take j)).length := ⟨_, rfl⟩
   have hnj : n < j := by rw [hn]; exact hij
   rw [← hn] at hXt ⊢
   by_cases hj : j < l.length
   ·have hjj : (j : Int) < (l.length : Int) := by omega
    have hXj : X[j]'(by omega) = l[j] := by
     have := congrArg (fun m => m[0]?) hXd
     simpa [hj, hXl] using this
    have q1 := cI (l := X) (j := j) (by omega)
    have hg := cw (l := X) (j := j) (by omega)
    simp -implicitDefEqProofs (disch := omega) only [hjj, hG1, hG0, q1, bK, cO, simprocAttr, aB, aC, Function.comp_apply, one1, lenV, ak, ar, au, aop, AV.ofValue, AV.ofCell, AV.cells, AV.flat, AV.one, arep, aN, aD, az]
    iterate 2 refine And.intro (by omega) ?_
    refine af hok (hcall (g1 X j, g2 X j) _ (by rw [hg, hXj]; exact List.getElem_mem hj)) ?_
    have hst := rh (p := p) hj
    rw [← hXj, ← hg] at hst
    cases h5 : p (g1 X j, g2 X j)
    ·rw [h5, if_neg Bool.false_ne_true] at hst
     have hl5 : (b9 p (l.take (j + 1))).length = n + 1 := by rw [hst, List.length_append, hn]; rfl
     have hnX : n < X.length := by omega
     have hp2 := vN (a := g1 X j) (b := g2 X j) hnX
     simp -implicitDefEqProofs (disch := omega) only [h5, hG1, hG0, hGs, hp2, bK, cO, simprocAttr, aB, aC, Function.comp_apply, one1, lenV, ak, ar, au, aop, AV.ofValue, AV.ofCell, AV.cells, AV.flat, AV.one, arep, aN, aD, az]
     iterate 2 refine And.intro (by omega) ?_
     refine hJ _ _ ⟨k - 1, by omega, _, _, _, ⟨j + 1, X.set n (g1 X j, g2 X j), by omega, by rw [hl5]; omega, by rw [List.length_set]; exact hXl, ?_, ?_, rfl, rfl⟩, Abs.byS1 (by rw [List.length_set]) (HBel.put hbel b fu) ?_⟩
     ·rw [hl5, hst, List.take_succ_eq_append_getElem (by rw [List.length_set]; exact hnX), List.getElem_set_self, List.take_set_of_le (Nat.le_refl _), hXt]
     ·rw [List.drop_set_of_lt (by omega), ← List.drop_drop, hXd, List.drop_drop]
     exact bp (jn @hl5 (jn @hmv (jn @Int.natCast_add @Int.natCast_one)))
    ·rw [h5, if_pos rfl, List.append_nil] at hst
     have hl5 : (b9 p (l.take (j + 1))).length = n := by rw [hst, hn]
     simp -implicitDefEqProofs (disch := omega) only [h5, simprocAttr, aB, aC, Function.comp_apply, one1, lenV, ak, ar, au, aop, AV.ofValue, AV.ofCell, AV.cells, AV.flat, AV.one, arep, aN, aD, az]
     refine hJ _ _ ⟨k - 1, by omega, _, _, _, ⟨j + 1, X, by omega, by rw [hl5]; omega, hXl, by rw [hst, ← hn]; exact hXt, by rw [← List.drop_drop, hXd, List.drop_drop], rfl, hG⟩, Abs.byS1 hGl hbelG ?_⟩
     exact bp (jn @hl5 @hmv)
   ·have hjj : ¬ ((j : Int) < (l.length : Int)) := by omega
    have hrep := (prs_rep (m := l.length - n)).symm
    have hne0 : (l.length - n == 0) = false := beq_eq_false_iff_ne.2 (by omega)
    have hspl := mT (l := X) (ys := List.replicate (l.length - n) (0, 0)) (i := n) (by rw [List.length_replicate]; omega)
    have hGs0 : ∀ Y, G.set b Y = H.set b Y := fun Y => by rw [hG, List.set_set]
    rw [hXt] at hspl
    simp -implicitDefEqProofs (disch := omega) only [hjj, hG1, hG0, hrep, hne0, hspl, hGs0, bK, cO, List.length_replicate, hset0, simprocAttr, aB, aC, Function.comp_apply, one1, lenV, ak, ar, au, aop, AV.ofValue, AV.ofCell, AV.cells, AV.flat, AV.one, arep, aN, aD, az]
    refine ⟨by omega, ⟨by omega, .inl (Nat.le_refl _)⟩, by omega, by omega, ⟨by omega, .inl (by omega)⟩, ?_⟩
    obtain rfl : j = l.length := by omega
    rw [List.take_length] at hn ⊢
    refine hQ _ _ (end_byS (by rw [List.length_set]) (.inl rfl) (HBel.put hbel b fu) (x1 := .sl (some (b, 0)) (n - 0) (Option.map (fun x => x - 0) cap)) (.sl (some (b, 0)) (b9 p l).length none) (ag Tryz.results97) ⟨rfl, by rw [hown, hn]; rfl⟩ ?_)
    exact bp (jn @hn @Nat.sub_zero)
open Go.RowKit
open Go.RowKit
def cd (f c : Int) : Bool := decide (0 ≤ f) && (decide (f < 256) && (decide (1 ≤ c) && (decide (c ≤ 256) && (decide (f = 0) || decide (c < 256)))))
theorem bH {f c : Int} : cd f c = true ↔ (0 ≤ f ∧ f < 256) ∧ (1 ≤ c ∧ c ≤ 256) ∧ (f = 0 ∨ c < 256) := by
 unfold cd
 simp only [Bool.and_eq_true, Bool.or_eq_true, decide_eq_true_eq]
 omega
def arcF (f c : Int) : Int := if 256 ≤ c then 0 else f % 256
def cp (c : Int) : Int := if 256 ≤ c then 256 else c
theorem i9 {f c : Int} (h : 1 ≤ c) : cd (arcF f c) (cp c) = true := by
 rw [bH]; unfold arcF cp; split <;> omega
def bl (f : Int) (n : Nat) : List Int := (List.range n).map fun (i : Nat) => (f + (i : Int)) % 256
theorem ew (f : Int) (n : Nat) : (bl f n).length = n := by simp [bl]
theorem mrkL_succ (f : Int) (n : Nat) : bl f (n + 1) = bl f n ++ [(f + (n : Int)) % 256] := by
 unfold bl; rw [List.range_succ, List.map_append]; rfl
theorem mrkL_bd {f : Int} {n : Nat} : ∀ e ∈ bl f n, 0 ≤ e ∧ e ≤ 255 := fun e he => by
 unfold bl at he
 obtain ⟨i, -, rfl⟩ := List.mem_map.1 he
 omega
def delI (a b : Int) : Int := if 128 ≤ (b - a) % 256 then (b - a) % 256 - 256 else (b - a) % 256
def bC (s f c : Int) : Int := (f - s) % 256 + c
def dP (f c m : Int) : Prop := (m - f) % 256 < c
instance (f c m : Int) : Decidable (dP f c m) := by unfold dP; exact inferInstance
def ex (s n bf bn : Int) : Int × Int := if n < bn ∨ (n = bn ∧ n < 256 ∧ s < bf) then (s, n) else (bf, bn)
def cG (f c f' c' : Int) : Int × Int :=
 let p := ex f (max (bC f f c) (bC f f' c')) 0 256
 ex f' (max (bC f' f c) (bC f' f' c')) p.1 p.2
def dQ (x : Int → Bool) (s : Int) : Nat → Int
 | 0 => 0
 | n + 1 => if x ((s + (n : Int)) % 256) = true then (n : Int) + 1 else dQ x s n
def d7 (x : Int → Bool) : Nat → Int × Int
 | 0 => (0, 256)
 | n + 1 =>
  let p := d7 x n
  let s : Int := 255 - (n : Int)
  let m := dQ x s 256
  if m < 256 ∧ m ≤ p.2 then (s, m) else p
theorem vO (x : Int → Bool) (s : Int) : ∀ n : Nat, 0 ≤ dQ x s n ∧ dQ x s n ≤ n
 | 0 => by simp [dQ]
 | n + 1 => by
  have := vO x s n
  rw [dQ]; split <;> omega
theorem lB {x : Int → Bool} {s : Int} {m : Nat} (hm : x ((s + (m : Int)) % 256) = true) : ∀ n : Nat, m < n → (∀ i : Nat, m < i → i < n → x ((s + i) % 256) = false) → dQ x s n = m + 1
 | 0, h, _ => by omega
 | n + 1, h, k => by
  rw [dQ]
  rcases Nat.lt_or_ge m n with h1 | h1
  ·rw [k n h1 (by omega)]
   exact lB hm n h1 fun i a b => k i a (by omega)
  ·obtain rfl : n = m := by omega
   rw [hm]; rfl
def f0 (f c f' c' m : Int) : Bool := decide ((m - f) % 256 < c) || decide ((m - f') % 256 < c')
theorem nj {f c f' c' m : Int} : f0 f c f' c' m = true ↔ (m - f) % 256 < c ∨ (m - f') % 256 < c' := by unfold f0; simp
theorem uni_not {f c f' c' m : Int} : f0 f c f' c' m = false ↔ c ≤ (m - f) % 256 ∧ c' ≤ (m - f') % 256 := by
 unfold f0; simp
theorem need_uni {f c f' c' : Int} (h : cd f c = true) (h' : cd f' c' = true) {s : Int} (hs : 0 ≤ s ∧ s ≤ 255) : dQ (f0 f c f' c') s 256 = min 256 (max (bC s f c) (bC s f' c')) := by
 rw [bH] at h h'
 obtain ⟨M, hM⟩ : ∃ M : Int, M = max (bC s f c) (bC s f' c') := ⟨_, rfl⟩
 rw [← hM]
 unfold bC at hM
 rcases (by omega : M ≤ 256 ∨ 256 < M) with hle | hgt
 ·have hpos : 1 ≤ M := by omega
  have e := lB (x := f0 f c f' c') (s := s) (m := (M - 1).toNat) (by rw [nj]; omega) 256 (by omega) fun i a b => by rw [uni_not]; omega
  rw [e]; omega
 ·have e := lB (x := f0 f c f' c') (s := s) (m := 255) (by rw [nj]; omega) 256 (by omega) fun i a b => by omega
  rw [e]; omega
theorem kg {x : Int → Bool} : ∀ n : Nat, n ≤ 256 → ((d7 x n = (0, 256) ∧ ∀ s : Int, 256 - (n : Int) ≤ s → s ≤ 255 → dQ x s 256 = 256) ∨
  ((d7 x n).2 < 256 ∧ (256 - (n : Int) ≤ (d7 x n).1 ∧ (d7 x n).1 ≤ 255) ∧ dQ x (d7 x n).1 256 = (d7 x n).2 ∧ ∀ s : Int, 256 - (n : Int) ≤ s → s ≤ 255 → (d7 x n).2 ≤ dQ x s 256 ∧ (dQ x s 256 = (d7 x n).2 → (d7 x n).1 ≤ s)))
 | 0, _ => .inl ⟨rfl, fun s a b => by omega⟩
 | n + 1, hn => by
  have ih := kg (x := x) n (by omega)
  have hb := vO x (255 - (n : Int)) 256
  have eb : d7 x (n + 1) = if dQ x (255 - (n : Int)) 256 < 256 ∧ dQ x (255 - (n : Int)) 256 ≤ (d7 x n).2 then (255 - (n : Int), dQ x (255 - (n : Int)) 256) else d7 x n := rfl
  rw [eb]
  split
  ·rename_i hc
   right
   try dsimp only
   refine ⟨hc.1, by omega, rfl, fun s a b => ?_⟩
   rcases (by omega : s = 255 - (n : Int) ∨ 256 - (n : Int) ≤ s) with rfl | h2
   ·exact ⟨Int.le_refl _, fun _ => Int.le_refl _⟩
   ·rcases ih with ⟨e, ih⟩ | ⟨e1, e2, e3, ih⟩
    ·have := ih s h2 b; rw [this]; omega
    ·have := ih s h2 b; omega
  ·rename_i hc
   rcases ih with ⟨e, ih⟩ | ⟨e1, e2, e3, ih⟩
   ·left
    refine ⟨e, fun s a b => ?_⟩
    rcases (by omega : s = 255 - (n : Int) ∨ 256 - (n : Int) ≤ s) with rfl | h2
    ·rw [e] at hc; simp only at hc; omega
    ·exact ih s h2 b
   ·right
    refine ⟨e1, by omega, e3, fun s a b => ?_⟩
    rcases (by omega : s = 255 - (n : Int) ∨ 256 - (n : Int) ≤ s) with rfl | h2
    ·omega
    ·exact ih s h2 b
theorem hull_eq {f c f' c' : Int} (h : cd f c = true) (h' : cd f' c' = true) : d7 (f0 f c f' c') 256 = cG f c f' c' := by
 have hs := kg (x := f0 f c f' c') 256 (Nat.le_refl _)
 have hu := fun s hs => need_uni h h' (s := s) hs
 rw [bH] at h h'
 have hf := hu f (by omega)
 have hf' := hu f' (by omega)
 generalize d7 (f0 f c f' c') 256 = p at hs ⊢
 obtain ⟨p1, p2⟩ := p
 unfold cG
 simp only at hs ⊢
 obtain ⟨n1, hn1⟩ : ∃ n, n = max (bC f f c) (bC f f' c') := ⟨_, rfl⟩
 obtain ⟨n2, hn2⟩ : ∃ n, n = max (bC f' f c) (bC f' f' c') := ⟨_, rfl⟩
 rw [← hn1, ← hn2]
 rw [← hn1] at hf
 rw [← hn2] at hf'
 rcases hs with ⟨e, k⟩ | ⟨e1, e2, e3, k⟩
 ·rw [Prod.mk.injEq] at e
  have k1 := k f (by omega) (by omega)
  have k2 := k f' (by omega) (by omega)
  have q1 : ex f n1 0 256 = (0, 256) := if_neg (by omega)
  rw [q1]
  have q2 : ex f' n2 0 256 = (0, 256) := if_neg (by omega)
  dsimp only
  rw [q2]
  exact Prod.ext e.1 e.2
 ·have k1 := k f (by omega) (by omega)
  have k2 := k f' (by omega) (by omega)
  have k3 := hu p1 (by omega)
  have hp : p1 = f ∨ p1 = f' := by
   by_cases hne : p1 = f ∨ p1 = f'
   ·exact hne
   exfalso
   unfold bC at k3 hn1 hn2
   obtain ⟨d1, hd1⟩ : ∃ d, d = (f - p1) % 256 := ⟨_, rfl⟩
   obtain ⟨d2, hd2⟩ : ∃ d, d = (f' - p1) % 256 := ⟨_, rfl⟩
   rw [← hd1, ← hd2] at k3
   have b1 : 1 ≤ d1 ∧ d1 ≤ 255 := by omega
   have b2 : 1 ≤ d2 ∧ d2 ≤ 255 := by omega
   have a1 : (f - f) % 256 = 0 := by omega
   have a2 : (f' - f') % 256 = 0 := by omega
   rw [a1] at hn1
   rw [a2] at hn2
   rcases (by omega : d1 ≤ d2 ∨ d2 ≤ d1) with hd | hd
   ·have a3 : (f' - f) % 256 = d2 - d1 := by omega
    rw [a3] at hn1
    clear hn2 hd1 hd2 a1 a2 a3 hf' k2 e2 hu
    omega
   ·have a3 : (f - f') % 256 = d1 - d2 := by omega
    rw [a3] at hn2
    clear hn1 hd1 hd2 a1 a2 a3 hf k1 e2 hu
    omega
  rcases hp with rfl | rfl
  ·have q1 : ex p1 n1 0 256 = (p1, n1) := if_pos (by omega)
   rw [q1]
   dsimp only
   have q2 : ex f' n2 p1 n1 = (p1, n1) := if_neg (by omega)
   rw [q2]
   exact Prod.ext rfl (by simp only; omega)
  ·by_cases hq : n1 < 256
   ·have q1 : ex f n1 0 256 = (f, n1) := if_pos (by omega)
    rw [q1]
    dsimp only
    unfold ex
    split
    ·exact Prod.ext rfl (by simp only; omega)
    ·exact Prod.ext (by simp only; omega) (by simp only; omega)
   ·have q1 : ex f n1 0 256 = (0, 256) := if_neg (by omega)
    rw [q1]
    dsimp only
    have q2 : ex p1 n2 0 256 = (p1, n2) := if_pos (by omega)
    rw [q2]
    exact Prod.ext rfl (by simp only; omega)
open Go.RowKit
def offB (n : Int) : Bool := decide (n < -1048576) || decide (1048576 < n)
def bxB (x0 y0 x1 y1 f c : Int) : Bool := decide (x0 ≤ x1) && (decide (y0 ≤ y1) && ((!([x0, y0, x1, y1].any offB)) && cd f c))
theorem bL {x0 y0 x1 y1 f c : Int} : bxB x0 y0 x1 y1 f c = true ↔ (-1048576 ≤ x0 ∧ x0 ≤ x1 ∧ x1 ≤ 1048576) ∧ (-1048576 ≤ y0 ∧ y0 ≤ y1 ∧ y1 ≤ 1048576) ∧ cd f c = true := by
 unfold bxB offB
 simp only [Bool.and_eq_true, decide_eq_true_eq, List.any_cons, List.any_nil, Bool.or_false, Bool.not_eq_true', Bool.or_eq_false_iff, decide_eq_false_iff_not]
 constructor
 ·rintro ⟨a, b, c, d⟩; exact ⟨by omega, by omega, d⟩
 ·rintro ⟨a, b, d⟩; exact ⟨by omega, by omega, by omega, d⟩
def fK (f c : Int) : Bool := decide (0 ≤ f) && (decide (f < 256) && (decide (1 ≤ c) && (decide (c ≤ 256) && (decide (c < 256) || f == 0))))
theorem ib (f c : Int) : fK f c = cd f c := by
 rw [Bool.eq_iff_iff, bH]; unfold fK; simp only [Bool.and_eq_true, Bool.or_eq_true, decide_eq_true_eq, beq_iff_eq]; omega
def bxR (x0 y0 x1 y1 f c : Int) : Bool := decide (-1048576 ≤ x0) && (decide (x0 ≤ x1) && (decide (x1 ≤ 1048576) && (decide (-1048576 ≤ y0) && (decide (y0 ≤ y1) && (decide (y1 ≤ 1048576) && cd f c)))))
theorem iz (x0 y0 x1 y1 f c : Int) : bxR x0 y0 x1 y1 f c = bxB x0 y0 x1 y1 f c := by
 rw [Bool.eq_iff_iff, bL]; unfold bxR; simp only [Bool.and_eq_true, decide_eq_true_eq]
 constructor
 ·rintro ⟨a, b, c, d, e, f, g⟩; exact ⟨by omega, by omega, g⟩
 ·rintro ⟨a, b, g⟩; exact ⟨by omega, by omega, by omega, by omega, by omega, by omega, g⟩
def bD (b : T6) : Bool := bxB b.1 b.2.1 b.2.2.1 b.2.2.2.1 b.2.2.2.2.1 b.2.2.2.2.2
def bP (l : List T6) : Bool := decide (((l.length : Nat) : Int) ≤ 16) && !(l.any fun b => !bD b)
theorem bU {l : List T6} : bP l = true ↔ l.length ≤ 16 ∧ ∀ b ∈ l, bD b = true := by
 unfold bP
 rw [Bool.and_eq_true, decide_eq_true_eq, Bool.not_eq_true', List.any_eq_false]
 constructor
 ·rintro ⟨a, b⟩; exact ⟨by omega, fun x hx => by have := b x hx; simpa using this⟩
 ·rintro ⟨a, b⟩; exact ⟨by omega, fun x hx => by simp [b x hx]⟩
def mnI (a b : Int) : Int := if b < a then b else a
def mxI (a b : Int) : Int := if a < b then b else a
def ey (a b : T6) : T6 := (mnI a.1 b.1, mnI a.2.1 b.2.1, mxI a.2.2.1 b.2.2.1, mxI a.2.2.2.1 b.2.2.2.1, (cG a.2.2.2.2.1 a.2.2.2.2.2 b.2.2.2.2.1 b.2.2.2.2.2).1, (cG a.2.2.2.2.1 a.2.2.2.2.2 b.2.2.2.2.1 b.2.2.2.2.2).2)
theorem vP {s n bf bn : Int} (hs : 0 ≤ s ∧ s < 256) (hn : 1 ≤ n) (hb : cd bf bn = true) : cd (ex s n bf bn).1 (ex s n bf bn).2 = true := by
 rw [bH] at hb ⊢
 unfold ex
 split <;> simp only <;> omega
theorem hullA_ok {f c f' c' : Int} (h : cd f c = true) (h' : cd f' c' = true) : cd (cG f c f' c').1 (cG f c f' c').2 = true := by
 have k := bH.1 h
 have k' := bH.1 h'
 unfold cG
 refine vP k'.1 (by unfold bC; omega) (vP k.1 (by unfold bC; omega) (by decide))
theorem hulB_ok {a b : T6} (ha : bD a = true) (hb : bD b = true) : bD (ey a b) = true := by
 unfold bD at *
 rw [bL] at *
 unfold ey mnI mxI
 simp only
 refine ⟨by omega, by omega, hullA_ok ha.2.2 hb.2.2⟩
def hlS (f c f2 c2 : Int) : Nat → Int × Int
 | 0 => (0, 256)
 | 1 => ex f (max (bC f f c) (bC f f2 c2)) 0 256
 | _ + 2 => cG f c f2 c2
theorem d8 (f c f2 c2 : Int) : hlS f c f2 c2 2 = ex f2 (max (bC f2 f c) (bC f2 f2 c2)) (hlS f c f2 c2 1).1 (hlS f c f2 c2 1).2 := rfl
theorem max_i (a b : Int) : (if a < b then b else a) = max a b := by split <;> omega
theorem cL {l : List T6} {j : Nat} (h : j < l.length) : g6 l j ∈ l := by
 unfold g6; rw [List.getD_eq_getElem?_getD]; simp [h]
open Go.RowKit
def shF (bf bc t : Int) : Int := arcF (bf + (((t % 256).toNat : Nat) : Int)) bc
def grF (F C n : Int) : Int := arcF (F - n) (C + 2 * n)
def grC (C n : Int) : Int := cp (C + 2 * n)
def gI (bf bc t tu : Int) : List Int := bl (grF (shF bf bc t) (cp bc) tu) (grC (cp bc) tu).toNat
open Go.RowKit
def lnP (x y : Int) : Bool := bZ x 2097152 && bZ y 2097152
def lnR (x0 y0 x1 y1 : Int) : Bool := decide (-2097152 ≤ x0) && (decide (x0 ≤ x1) && (decide (x1 ≤ 2097152) && (decide (-2097152 ≤ y0) && (decide (y0 ≤ y1) && decide (y1 ≤ 2097152)))))
theorem dj {x y : Int} : lnP x y = true ↔ (-2097152 ≤ x ∧ x ≤ 2097152) ∧ -2097152 ≤ y ∧ y ≤ 2097152 := by unfold lnP; rw [Bool.and_eq_true, br, br]
theorem bN {x0 y0 x1 y1 : Int} : lnR x0 y0 x1 y1 = true ↔ (-2097152 ≤ x0 ∧ x0 ≤ x1 ∧ x1 ≤ 2097152) ∧ -2097152 ≤ y0 ∧ y0 ≤ y1 ∧ y1 ≤ 2097152 := by
 unfold lnR; simp only [Bool.and_eq_true, decide_eq_true_eq]; omega
open Go.RowKit
def gJ (a b : Vec) : Vec := fh (a.1 * b.1 - a.2.1 * b.2.1) (a.1 * b.2.1 + a.2.1 * b.1) (a.2.2 * b.2.2)
def aZ (h m : Int) : Vec := gJ (cB h) (cB m)
def cZ (x y d : Int) : Bool := decide (1 ≤ d) && (decide (d ≤ 67108864) && (decide (-d ≤ x) && (decide (x ≤ d) && (decide (-d ≤ y) && (decide (y ≤ d) && decide (x * x + y * y = d * d))))))
theorem bh {x y d : Int} : cZ x y d = true ↔ (1 ≤ d ∧ d ≤ 67108864) ∧ (-d ≤ x ∧ x ≤ d) ∧ (-d ≤ y ∧ y ≤ d) ∧ x * x + y * y = d * d := by
 unfold cZ
 simp only [Bool.and_eq_true, decide_eq_true_eq]
 exact ⟨fun ⟨a, b, c, d, e, f, g⟩ => ⟨⟨a, b⟩, ⟨c, d⟩, ⟨e, f⟩, g⟩, fun ⟨⟨a, b⟩, ⟨c, d⟩, ⟨e, f⟩, g⟩ => ⟨a, b, c, d, e, f, g⟩⟩
theorem sq_le_of {x y d : Int} (hd : 0 ≤ d) (h : x * x + y * y = d * d) : (-d ≤ x ∧ x ≤ d) ∧ -d ≤ y ∧ y ≤ d := by
 have k : ∀ a b : Int, a * a + b * b = d * d → -d ≤ a ∧ a ≤ d := fun a b e => by
  have hb : 0 ≤ b * b := by
   rcases Int.le_total 0 b with q | q
   ·exact Int.mul_nonneg q q
   ·exact Int.mul_nonneg_of_nonpos_of_nonpos q q
  constructor
  ·rcases Int.lt_or_le a (-d) with q | q
   ·have t1 := Int.mul_le_mul_of_nonneg_left (show d ≤ -a by omega) hd
    have t2 := Int.mul_lt_mul_of_pos_right (show d < -a by omega) (show 0 < -a by omega)
    rw [Int.neg_mul_neg] at t2; omega
   ·exact q
  ·rcases Int.lt_or_le d a with q | q
   ·have t1 := Int.mul_le_mul_of_nonneg_left (show d ≤ a by omega) hd
    have t2 := Int.mul_lt_mul_of_pos_right (show d < a by omega) (show 0 < a by omega)
    omega
   ·exact q
 exact ⟨k x y h, k y x (by omega)⟩
theorem tur_ok {a b : Vec} (ha : fm a = true) (hb : fm b = true) : cZ (gJ a b).1 (gJ a b).2.1 (gJ a b).2.2 = true := by
 obtain ⟨⟨a1, a2⟩, ⟨a3, a4⟩, ⟨a5, a6⟩, a7⟩ := dq.1 ha
 obtain ⟨⟨b1, b2⟩, ⟨b3, b4⟩, ⟨b5, b6⟩, b7⟩ := dq.1 hb
 unfold gJ
 have hd : 0 < a.2.2 * b.2.2 := Int.mul_pos (by omega) (by omega)
 have hD : a.2.2 * b.2.2 ≤ 8065 * 8065 := Int.mul_le_mul a2 b2 (by omega) (by omega)
 obtain ⟨g, hg, e1, e2, e3⟩ := lowV_mul (x := a.1 * b.1 - a.2.1 * b.2.1) (y := a.1 * b.2.1 + a.2.1 * b.1) (show a.2.2 * b.2.2 ≠ 0 by omega)
 have q : (a.1 * b.1 - a.2.1 * b.2.1) * (a.1 * b.1 - a.2.1 * b.2.1) + (a.1 * b.2.1 + a.2.1 * b.1) * (a.1 * b.2.1 + a.2.1 * b.1) = (a.2.2 * b.2.2) * (a.2.2 * b.2.2) := by
  have z1 : (a.1 * b.1 - a.2.1 * b.2.1) * (a.1 * b.1 - a.2.1 * b.2.1) + (a.1 * b.2.1 + a.2.1 * b.1) * (a.1 * b.2.1 + a.2.1 * b.1) = (a.1 * a.1 + a.2.1 * a.2.1) * (b.1 * b.1 + b.2.1 * b.2.1) := by grind
  rw [z1, a7, b7]; grind
 generalize fh (a.1 * b.1 - a.2.1 * b.2.1) (a.1 * b.2.1 + a.2.1 * b.1) (a.2.2 * b.2.2) = v at *
 rw [e1, e2, e3] at q
 rw [e3] at hd hD
 have vp : 0 < v.2.2 := by
  rcases Int.lt_or_le 0 v.2.2 with k | k
  ·exact k
  ·have := Int.mul_nonpos_of_nonpos_of_nonneg k (show 0 ≤ g by omega)
   omega
 have vl : v.2.2 ≤ v.2.2 * g := by
  have := Int.mul_le_mul_of_nonneg_left (show 1 ≤ g by omega) (show 0 ≤ v.2.2 by omega)
  omega
 have s : v.1 * v.1 + v.2.1 * v.2.1 = v.2.2 * v.2.2 := by
  have z : (v.1 * v.1 + v.2.1 * v.2.1) * (g * g) = v.2.2 * v.2.2 * (g * g) := by grind
  exact Int.eq_of_mul_eq_mul_right (show g * g ≠ 0 by have := Int.mul_pos hg hg; omega) z
 have r := sq_le_of (show 0 ≤ v.2.2 by omega) s
 exact bh.2 ⟨⟨by omega, by omega⟩, r.1, r.2, s⟩
theorem ic (h m : Int) : cZ (aZ h m).1 (aZ h m).2.1 (aZ h m).2.2 = true := tur_ok (fW h) (fW m)
theorem vecOK_B {v : Vec} (h : fm v = true) : cZ v.1 v.2.1 v.2.2 = true := by
 obtain ⟨a, b, c, d⟩ := dq.1 h
 exact bh.2 ⟨by omega, b, c, d⟩
theorem vec_nz {x y d : Int} (h : cZ x y d = true) : ¬ (x = 0 ∧ y = 0) := fun k => by
 obtain ⟨⟨h1, -⟩, -, -, h⟩ := bh.1 h
 rw [k.1, k.2] at h
 have := Int.mul_pos (show 0 < d by omega) (show 0 < d by omega)
 omega
open Go.RowKit
abbrev Fr2 := Int × Int
theorem eY {a b c d e f : Int} (hb : 0 < b) (hd : 0 < d) (hf : 0 < f) (h1 : a * d ≤ c * b) (h2 : c * f ≤ e * d) : a * f ≤ e * b := by
 have k1 := Int.mul_le_mul_of_nonneg_right h1 (show 0 ≤ f by omega)
 have k2 := Int.mul_le_mul_of_nonneg_right h2 (show 0 ≤ b by omega)
 have e1 : a * d * f = a * f * d := by grind
 have e2 : c * b * f = c * f * b := by grind
 have e3 : e * d * b = e * b * d := by grind
 rw [e1, e2] at k1
 rw [e3] at k2
 exact Int.le_of_mul_le_mul_right (Int.le_trans k1 k2) hd
theorem wD {a b c d e f : Int} (hb : 0 < b) (hd : 0 < d) (hf : 0 < f) (h1 : a * d ≤ c * b) (h2 : c * f < e * d) : a * f < e * b := by
 have k1 := Int.mul_le_mul_of_nonneg_right h1 (show 0 ≤ f by omega)
 have k2 := Int.mul_lt_mul_of_pos_right h2 hb
 have e1 : a * d * f = a * f * d := by grind
 have e2 : c * b * f = c * f * b := by grind
 have e3 : e * d * b = e * b * d := by grind
 rw [e1, e2] at k1
 rw [e3] at k2
 exact Int.lt_of_mul_lt_mul_right (Int.lt_of_le_of_lt k1 k2) (show 0 ≤ d by omega)
def mxF (s l : Fr2) : Fr2 := if s.1 * l.2 < l.1 * s.2 then l else s
def mnF (s h : Fr2) : Fr2 := if h.1 * s.2 < s.1 * h.2 then h else s
theorem mxF_pos {s l : Fr2} (hs : 0 < s.2) (hl : 0 < l.2) : 0 < (mxF s l).2 := by unfold mxF; split <;> assumption
theorem mnF_pos {s h : Fr2} (hs : 0 < s.2) (hh : 0 < h.2) : 0 < (mnF s h).2 := by unfold mnF; split <;> assumption
theorem mxF_le {s l : Fr2} {n m : Int} (hs : 0 < s.2) (hl : 0 < l.2) (hm : 0 < m) : (mxF s l).1 * m ≤ n * (mxF s l).2 ↔ s.1 * m ≤ n * s.2 ∧ l.1 * m ≤ n * l.2 := by
 unfold mxF
 split
 ·rename_i h
  exact ⟨fun k => ⟨eY hs hl hm (by omega) k, k⟩, fun k => k.2⟩
 ·rename_i h
  exact ⟨fun k => ⟨k, eY hl hs hm (by omega) k⟩, fun k => k.1⟩
theorem mnF_le {s h : Fr2} {n m : Int} (hs : 0 < s.2) (hh : 0 < h.2) (hm : 0 < m) : n * (mnF s h).2 ≤ (mnF s h).1 * m ↔ n * s.2 ≤ s.1 * m ∧ n * h.2 ≤ h.1 * m := by
 unfold mnF
 split
 ·rename_i g
  exact ⟨fun k => ⟨eY hm hh hs k (by omega), k⟩, fun k => k.2⟩
 ·rename_i g
  exact ⟨fun k => ⟨k, eY hm hs hh k (by omega)⟩, fun k => k.1⟩
def sbL (p d a b : Int) : Fr2 := if d < 0 then (p - b, -d) else (a - p, d)
def sbH (p d a b : Int) : Fr2 := if d < 0 then (p - a, -d) else (b - p, d)
theorem mU {p d a b : Int} (hd : ¬ d = 0) : 0 < (sbL p d a b).2 ∧ 0 < (sbH p d a b).2 := by
 unfold sbL sbH; split <;> exact ⟨by simp only; omega, by simp only; omega⟩
theorem sb_in {p d a b n m : Int} : ((sbL p d a b).1 * m ≤ n * (sbL p d a b).2 ∧ n * (sbH p d a b).2 ≤ (sbH p d a b).1 * m) ↔ (m * a ≤ m * p + n * d ∧ m * p + n * d ≤ m * b) := by
 unfold sbL sbH
 split
 ·simp only
  have e1 : (p - b) * m = m * p - m * b := by grind
  have e2 : (p - a) * m = m * p - m * a := by grind
  have e3 : n * -d = -(n * d) := by grind
  omega
 ·simp only
  have e1 : (a - p) * m = m * a - m * p := by grind
  have e2 : (b - p) * m = m * b - m * p := by grind
  omega
def dk (px py vx vy x0 y0 x1 y1 n m : Int) : Prop := (m * x0 ≤ m * px + n * vx ∧ m * px + n * vx ≤ m * x1) ∧ m * y0 ≤ m * py + n * vy ∧ m * py + n * vy ≤ m * y1
def bk (s : Fr2 × Fr2) (p d a b : Int) : Fr2 × Fr2 := if d = 0 then s else (mxF s.1 (sbL p d a b), mnF s.2 (sbH p d a b))
def bR (s : Fr2 × Fr2) (p d a b : Int) : Bool := if d = 0 then decide (a ≤ p) && decide (p ≤ b) else !decide ((bk s p d a b).2.1 * (bk s p d a b).1.2 < (bk s p d a b).1.1 * (bk s p d a b).2.2)
def okS (s : Fr2 × Fr2) : Prop := 0 < s.1.2 ∧ 0 < s.2.2
def inS (s : Fr2 × Fr2) (n m : Int) : Prop := s.1.1 * m ≤ n * s.1.2 ∧ n * s.2.2 ≤ s.2.1 * m
theorem du {s : Fr2 × Fr2} {p d a b : Int} (h : okS s) : okS (bk s p d a b) := by
 unfold bk; split
 ·exact h
 ·rename_i hd
  exact ⟨mxF_pos h.1 (mU hd).1, mnF_pos h.2 (mU hd).2⟩
theorem kI {s : Fr2 × Fr2} {p d a b n m : Int} (h : okS s) (hm : 0 < m) (hd0 : d = 0 → a ≤ p ∧ p ≤ b) : inS (bk s p d a b) n m ↔ inS s n m ∧ m * a ≤ m * p + n * d ∧ m * p + n * d ≤ m * b := by
 unfold bk; split
 ·rename_i hd
  have hh := hd0 hd
  have k1 := Int.mul_le_mul_of_nonneg_left hh.1 (show 0 ≤ m by omega)
  have k2 := Int.mul_le_mul_of_nonneg_left hh.2 (show 0 ≤ m by omega)
  rw [hd, Int.mul_zero, Int.add_zero]
  exact ⟨fun k => ⟨k, k1, k2⟩, fun k => k.1⟩
 ·rename_i hd
  unfold inS
  simp only
  rw [mxF_le h.1 (mU hd).1 hm, mnF_le h.2 (mU hd).2 hm, ← sb_in]
  exact ⟨fun k => ⟨⟨k.1.1, k.2.1⟩, k.1.2, k.2.2⟩, fun k => ⟨⟨k.1.1, k.2.1⟩, k.1.2, k.2.2⟩⟩
theorem inS_lo {s : Fr2 × Fr2} (h : okS s) : inS s s.1.1 s.1.2 ↔ ¬ s.2.1 * s.1.2 < s.1.1 * s.2.2 := by
 unfold inS
 exact ⟨fun k => by have := k.2; omega, fun k => ⟨by omega, by omega⟩⟩
theorem inS_ord {s : Fr2 × Fr2} {n m : Int} (h : okS s) (hm : 0 < m) (k : inS s n m) : ¬ s.2.1 * s.1.2 < s.1.1 * s.2.2 := by
 have := eY h.1 hm h.2 k.1 k.2; omega
def eI : Fr2 × Fr2 := ((0, 1), (8388608, 1))
def thS (px py vx vy x0 y0 x1 y1 : Int) : Fr2 × Fr2 := bk (bk eI px vx x0 x1) py vy y0 y1
def thB (px py vx vy x0 y0 x1 y1 : Int) : Bool := bR eI px vx x0 x1 && bR (bk eI px vx x0 x1) py vy y0 y1
theorem dl : okS eI := ⟨by decide, by decide⟩
theorem gC {px py vx vy x0 y0 x1 y1 : Int} : okS (thS px py vx vy x0 y0 x1 y1) := du (du dl)
theorem thS0_in {n m : Int} : inS eI n m ↔ 0 ≤ n ∧ n ≤ 8388608 * m := by
 unfold inS eI; simp only; omega
theorem ray_far {px py vx vy x0 y0 x1 y1 n m : Int} (hv : ¬ (vx = 0 ∧ vy = 0)) (hx : px - x0 ≤ 8388608 ∧ x1 - px ≤ 8388608) (hy : py - y0 ≤ 8388608 ∧ y1 - py ≤ 8388608) (hn : 0 ≤ n) (hm : 0 < m) (h : dk px py vx vy x0 y0 x1 y1 n m) : n ≤ 8388608 * m := by
 obtain ⟨⟨h1, h2⟩, h3, h4⟩ := h
 have one : ∀ {p v a b : Int}, ¬ v = 0 → p - a ≤ 8388608 → b - p ≤ 8388608 → m * a ≤ m * p + n * v → m * p + n * v ≤ m * b → n ≤ 8388608 * m := fun {p v a b} hv ha hb k1 k2 => by
  rcases (by omega : 1 ≤ v ∨ v ≤ -1) with h | h
  ·have a1 := Int.mul_le_mul_of_nonneg_left h hn
   have a2 := Int.mul_le_mul_of_nonneg_left hb (show 0 ≤ m by omega)
   have e : m * (b - p) = m * b - m * p := by grind
   omega
  ·have a1 := Int.mul_le_mul_of_nonneg_left h hn
   have a2 := Int.mul_le_mul_of_nonneg_left ha (show 0 ≤ m by omega)
   have e : m * (p - a) = m * p - m * a := by grind
   omega
 by_cases hx0 : vx = 0
 ·exact one (fun h0 => hv ⟨hx0, h0⟩) hy.1 hy.2 h3 h4
 ·exact one hx0 hx.1 hx.2 h1 h2
theorem fB {s : Fr2 × Fr2} {p d a b : Int} (h : okS s) : bR s p d a b = true ↔ (d = 0 → a ≤ p ∧ p ≤ b) ∧ (¬ d = 0 → inS (bk s p d a b) (bk s p d a b).1.1 (bk s p d a b).1.2) := by
 unfold bR
 split
 ·rename_i hd
  simp only [Bool.and_eq_true, decide_eq_true_eq]
  exact ⟨fun k => ⟨fun _ => k, fun h => absurd hd h⟩, fun k => k.1 hd⟩
 ·rename_i hd
  rw [inS_lo (du h)]
  simp only [Bool.not_eq_true', decide_eq_false_iff_not]
  exact ⟨fun k => ⟨fun h => absurd h hd, fun _ => k⟩, fun k => k.2 hd⟩
theorem kJ {px py vx vy x0 y0 x1 y1 n m : Int} (hm : 0 < m) (hb : thB px py vx vy x0 y0 x1 y1 = true) : inS (thS px py vx vy x0 y0 x1 y1) n m ↔ (0 ≤ n ∧ n ≤ 8388608 * m) ∧ dk px py vx vy x0 y0 x1 y1 n m := by
 unfold thB at hb
 rw [Bool.and_eq_true, fB dl, fB (du dl)] at hb
 unfold thS dk
 rw [kI (du dl) hm hb.2.1, kI dl hm hb.1.1, thS0_in]
 exact ⟨fun k => ⟨k.1.1, k.1.2, k.2⟩, fun k => ⟨⟨k.1, k.2.1⟩, k.2.2⟩⟩
theorem th_lo {px py vx vy x0 y0 x1 y1 : Int} (hv : ¬ (vx = 0 ∧ vy = 0)) (hb : thB px py vx vy x0 y0 x1 y1 = true) : inS (thS px py vx vy x0 y0 x1 y1) (thS px py vx vy x0 y0 x1 y1).1.1 (thS px py vx vy x0 y0 x1 y1).1.2 := by
 have hb' := hb
 unfold thB at hb
 rw [Bool.and_eq_true, fB dl, fB (du dl)] at hb
 by_cases hy : vy = 0
 ·have hx : ¬ vx = 0 := fun h => hv ⟨h, hy⟩
  have e : thS px py vx vy x0 y0 x1 y1 = bk eI px vx x0 x1 := if_pos hy
  rw [e]; exact hb.1.2 hx
 ·exact hb.2.2 hy
theorem th_none {px py vx vy x0 y0 x1 y1 n m : Int} (hm : 0 < m) (hb : thB px py vx vy x0 y0 x1 y1 = false) (hn : 0 ≤ n ∧ n ≤ 8388608 * m) : ¬ dk px py vx vy x0 y0 x1 y1 n m := fun k => by
 have : thB px py vx vy x0 y0 x1 y1 = true := by
  have hx : vx = 0 → x0 ≤ px ∧ px ≤ x1 := fun h => by
   have k1 := k.1
   rw [h, Int.mul_zero, Int.add_zero] at k1
   exact ⟨Int.le_of_mul_le_mul_left k1.1 hm, Int.le_of_mul_le_mul_left k1.2 hm⟩
  have hy : vy = 0 → y0 ≤ py ∧ py ≤ y1 := fun h => by
   have k1 := k.2
   rw [h, Int.mul_zero, Int.add_zero] at k1
   exact ⟨Int.le_of_mul_le_mul_left k1.1 hm, Int.le_of_mul_le_mul_left k1.2 hm⟩
  have i1 : inS (bk eI px vx x0 x1) n m := (kI dl hm hx).2 ⟨thS0_in.2 hn, k.1⟩
  have i2 : inS (bk (bk eI px vx x0 x1) py vy y0 y1) n m := (kI (du dl) hm hy).2 ⟨i1, k.2⟩
  unfold thB
  rw [Bool.and_eq_true, fB dl, fB (du dl)]
  exact ⟨⟨hx, fun _ => (inS_lo (du dl)).2 (inS_ord (du dl) hm i1)⟩, hy, fun _ => (inS_lo (du (du dl))).2 (inS_ord (du (du dl)) hm i2)⟩
 rw [hb] at this; cases this
def bfrB (px py vx vy vd hi x0 y0 x1 y1 : Int) : Bool := thB px py vx vy x0 y0 x1 y1 && decide ((thS px py vx vy x0 y0 x1 y1).1.1 * vd < hi * (thS px py vx vy x0 y0 x1 y1).1.2)
def ga (px py vx vy vd lo hi x0 y0 x1 y1 : Int) : Bool := thB px py vx vy x0 y0 x1 y1 && (decide (lo * (thS px py vx vy x0 y0 x1 y1).2.2 ≤ (thS px py vx vy x0 y0 x1 y1).2.1 * vd) && decide ((thS px py vx vy x0 y0 x1 y1).1.1 * vd ≤ hi * (thS px py vx vy x0 y0 x1 y1).1.2))
theorem nk {px py vx vy vd hi x0 y0 x1 y1 : Int} (hd : 0 < vd) (hv : ¬ (vx = 0 ∧ vy = 0)) (hx : px - x0 ≤ 8388608 ∧ x1 - px ≤ 8388608) (hy : py - y0 ≤ 8388608 ∧ y1 - py ≤ 8388608) :
  bfrB px py vx vy vd hi x0 y0 x1 y1 = true ↔ ∃ n m : Int, 0 ≤ n ∧ 0 < m ∧ n * vd < hi * m ∧ dk px py vx vy x0 y0 x1 y1 n m := by
 unfold bfrB
 rw [Bool.and_eq_true, decide_eq_true_eq]
 constructor
 ·rintro ⟨hb, h⟩
  have hl := (kJ gC.1 hb).1 (th_lo hv hb)
  exact ⟨_, _, hl.1.1, gC.1, h, hl.2⟩
 ·rintro ⟨n, m, hn, hm, h, hr⟩
  have hf := ray_far hv hx hy hn hm hr
  have hb : thB px py vx vy x0 y0 x1 y1 = true := by
   cases hq : thB px py vx vy x0 y0 x1 y1
   ·exact absurd hr (th_none hm hq ⟨hn, hf⟩)
   ·rfl
  have hi' := (kJ hm hb).2 ⟨⟨hn, hf⟩, hr⟩
  refine ⟨hb, ?_⟩
  have hp : 0 < (thS px py vx vy x0 y0 x1 y1).1.2 := gC.1
  have h1 := hi'.1
  generalize (thS px py vx vy x0 y0 x1 y1).1.1 = a at *
  generalize (thS px py vx vy x0 y0 x1 y1).1.2 = b at *
  have k := wD (a := a) (b := b) (c := n) (d := m) (e := hi) (f := vd) hp hm hd h1 h
  exact k
theorem kK {px py vx vy vd lo hi x0 y0 x1 y1 : Int} (hd : 0 < vd) (hv : ¬ (vx = 0 ∧ vy = 0)) (hx : px - x0 ≤ 8388608 ∧ x1 - px ≤ 8388608) (hy : py - y0 ≤ 8388608 ∧ y1 - py ≤ 8388608) (h0 : 0 ≤ lo) (hlh : lo ≤ hi) :
  ga px py vx vy vd lo hi x0 y0 x1 y1 = true ↔ ∃ n m : Int, 0 ≤ n ∧ 0 < m ∧ lo * m ≤ n * vd ∧ n * vd ≤ hi * m ∧ dk px py vx vy x0 y0 x1 y1 n m := by
 unfold ga
 rw [Bool.and_eq_true, Bool.and_eq_true, decide_eq_true_eq, decide_eq_true_eq]
 constructor
 ·rintro ⟨hb, h1, h2⟩
  have hl := th_lo hv hb
  have hp : okS (thS px py vx vy x0 y0 x1 y1) := gC
  have hin : ∀ n m : Int, 0 < m → inS (thS px py vx vy x0 y0 x1 y1) n m → (0 ≤ n ∧ n ≤ 8388608 * m) ∧ dk px py vx vy x0 y0 x1 y1 n m := fun n m hm => (kJ hm hb).1
  generalize thS px py vx vy x0 y0 x1 y1 = s at *
  by_cases hc : lo * s.1.2 ≤ s.1.1 * vd
  ·have k := hin _ _ hp.1 hl
   exact ⟨_, _, k.1.1, hp.1, hc, h2, k.2⟩
  ·have i : inS s lo vd := by
    refine ⟨by omega, ?_⟩
    omega
   have k := hin _ _ hd i
   have m1 := Int.mul_le_mul_of_nonneg_right hlh (show 0 ≤ vd by omega)
   exact ⟨_, _, k.1.1, hd, by omega, by omega, k.2⟩
 ·rintro ⟨n, m, hn, hm, h1, h2, hr⟩
  have hf := ray_far hv hx hy hn hm hr
  have hb : thB px py vx vy x0 y0 x1 y1 = true := by
   cases hq : thB px py vx vy x0 y0 x1 y1
   ·exact absurd hr (th_none hm hq ⟨hn, hf⟩)
   ·rfl
  have hi' := (kJ hm hb).2 ⟨⟨hn, hf⟩, hr⟩
  have hp : okS (thS px py vx vy x0 y0 x1 y1) := gC
  refine ⟨hb, ?_, ?_⟩
  ·generalize thS px py vx vy x0 y0 x1 y1 = s at *
   have k := eY (a := lo) (b := vd) (c := n) (d := m) (e := s.2.1) (f := s.2.2) hd hm hp.2 h1 hi'.2
   exact k
  ·generalize thS px py vx vy x0 y0 x1 y1 = s at *
   have k := eY (a := s.1.1) (b := s.1.2) (c := n) (d := m) (e := hi) (f := vd) hp.1 hm hd hi'.1 h2
   exact k
theorem low_lt {g n d k : Int} (hg : 0 < g) (h1 : g ∣ n) (h2 : g ∣ d) : n / g < k * (d / g) ↔ n < k * d := by
 obtain ⟨a, rfl⟩ := h1
 obtain ⟨b, rfl⟩ := h2
 rw [Int.mul_ediv_cancel_left _ (by omega), Int.mul_ediv_cancel_left _ (by omega)]
 have e : k * (g * b) = g * (k * b) := by grind
 rw [e]
 exact (Int.mul_lt_mul_left hg).symm
theorem low_le {g n d k : Int} (hg : 0 < g) (h1 : g ∣ n) (h2 : g ∣ d) : (n / g ≤ k * (d / g) ↔ n ≤ k * d) ∧ (k * (d / g) ≤ n / g ↔ k * d ≤ n) := by
 obtain ⟨a, rfl⟩ := h1
 obtain ⟨b, rfl⟩ := h2
 rw [Int.mul_ediv_cancel_left _ (by omega), Int.mul_ediv_cancel_left _ (by omega)]
 have e : k * (g * b) = g * (k * b) := by grind
 rw [e]
 exact ⟨(Int.mul_le_mul_left hg).symm, (Int.mul_le_mul_left hg).symm⟩
theorem reach_bd {v D lo hi n m mn mx : Int} (hD : 0 < D) (hm : 0 < m) (h1 : lo * m ≤ n * D) (h2 : n * D ≤ hi * m) (k1 : mn ≤ lo * v) (k2 : mn ≤ hi * v) (k3 : lo * v ≤ mx) (k4 : hi * v ≤ mx) : m * (mn / D) ≤ n * v ∧ n * v ≤ m * (mx / D + 1) := by
 have q1 : D * (mn / D) ≤ mn := Int.mul_ediv_self_le (by omega)
 have q2 : mx < D * (mx / D + 1) := by
  have := Int.lt_mul_ediv_self_add (x := mx) hD
  have e : D * (mx / D + 1) = D * (mx / D) + D := by grind
  omega
 have w1 : m * mn ≤ n * v * D ∧ n * v * D ≤ m * mx := by
  have a1 := Int.mul_le_mul_of_nonneg_left k1 (show 0 ≤ m by omega)
  have a2 := Int.mul_le_mul_of_nonneg_left k2 (show 0 ≤ m by omega)
  have a3 := Int.mul_le_mul_of_nonneg_left k3 (show 0 ≤ m by omega)
  have a4 := Int.mul_le_mul_of_nonneg_left k4 (show 0 ≤ m by omega)
  rcases Int.le_total 0 v with hv | hv
  ·have b1 := Int.mul_le_mul_of_nonneg_right h1 hv
   have b2 := Int.mul_le_mul_of_nonneg_right h2 hv
   have e1 : lo * m * v = m * (lo * v) := by grind
   have e2 : n * D * v = n * v * D := by grind
   have e3 : hi * m * v = m * (hi * v) := by grind
   omega
  ·have b1 := Int.mul_le_mul_of_nonpos_right h1 hv
   have b2 := Int.mul_le_mul_of_nonpos_right h2 hv
   have e1 : lo * m * v = m * (lo * v) := by grind
   have e2 : n * D * v = n * v * D := by grind
   have e3 : hi * m * v = m * (hi * v) := by grind
   omega
 constructor
 ·have a1 := Int.mul_le_mul_of_nonneg_left q1 (show 0 ≤ m by omega)
  have e : m * (D * (mn / D)) = m * (mn / D) * D := by grind
  exact Int.le_of_mul_le_mul_right (show m * (mn / D) * D ≤ n * v * D by omega) hD
 ·have a1 := Int.mul_le_mul_of_nonneg_left (show mx ≤ D * (mx / D + 1) by omega) (show 0 ≤ m by omega)
  have e : m * (D * (mx / D + 1)) = m * (mx / D + 1) * D := by grind
  exact Int.le_of_mul_le_mul_right (show n * v * D ≤ m * (mx / D + 1) * D by omega) hD
theorem mV {v D lo hi n m mn mx c X0 X1 : Int} (hD : 0 < D) (hm : 0 < m) (h1 : lo * m ≤ n * D) (h2 : n * D ≤ hi * m) (k1 : mn ≤ lo * v) (k2 : mn ≤ hi * v) (k3 : lo * v ≤ mx) (k4 : hi * v ≤ mx)
  (hr : m * (c * 64 - X1) ≤ m * 0 + n * v ∧ m * 0 + n * v ≤ m * (c * 64 + 64 - X0)) : X0 + mn / D ≤ c * 64 + 64 ∧ c * 64 ≤ X1 + mx / D + 1 := by
 have q := reach_bd hD hm h1 h2 k1 k2 k3 k4
 rw [Int.mul_zero, Int.zero_add] at hr
 have a := Int.le_of_mul_le_mul_left (Int.le_trans q.1 hr.2) hm
 have b := Int.le_of_mul_le_mul_left (Int.le_trans hr.1 q.2) hm
 omega
theorem bef_mee {px py vx vy vd hi x0 y0 x1 y1 : Int} (h : ∃ n m : Int, 0 ≤ n ∧ 0 < m ∧ n * vd < hi * m ∧ dk px py vx vy x0 y0 x1 y1 n m) (hd : 0 < vd) : ∃ n m : Int, 0 ≤ n ∧ 0 < m ∧ 0 * m ≤ n * vd ∧ n * vd ≤ hi * m ∧ dk px py vx vy x0 y0 x1 y1 n m := by
 obtain ⟨n, m, hn, hm, h, hr⟩ := h
 have := Int.mul_nonneg hn (show 0 ≤ vd by omega)
 exact ⟨n, m, hn, hm, by omega, by omega, hr⟩
theorem ray_sh {px py vx vy x0 y0 x1 y1 n m : Int} : dk px py vx vy x0 y0 x1 y1 n m ↔ dk 0 0 vx vy (x0 - px) (y0 - py) (x1 - px) (y1 - py) n m := by
 unfold dk
 have e1 : m * (x0 - px) = m * x0 - m * px := by grind
 have e2 : m * (x1 - px) = m * x1 - m * px := by grind
 have e3 : m * (y0 - py) = m * y0 - m * py := by grind
 have e4 : m * (y1 - py) = m * y1 - m * py := by grind
 rw [e1, e2, e3, e4]
 omega
theorem ray_conv {px qx py vx vy x0 y0 x1 y1 n m n' m' a T vd hi : Int} (hT : 0 < T) (ha : 0 ≤ a ∧ a ≤ T) (hn : 0 ≤ n) (hm : 0 < m) (hn' : 0 ≤ n') (hm' : 0 < m') (hb : n * vd < hi * m) (hb' : n' * vd < hi * m') (h : dk px py vx vy x0 y0 x1 y1 n m) (h' : dk qx py vx vy x0 y0 x1 y1 n' m')
  {rx : Int} (hx : T * rx = (T - a) * px + a * qx) : ∃ k l : Int, 0 ≤ k ∧ 0 < l ∧ k * vd < hi * l ∧ dk rx py vx vy x0 y0 x1 y1 k l := by
 obtain ⟨⟨a1, a2⟩, a3, a4⟩ := h
 obtain ⟨⟨b1, b2⟩, b3, b4⟩ := h'
 -- the point (T-a)*(n/m) + a*(n'/m') over T
 have hTa : 0 ≤ T - a := by omega
 have A : 0 ≤ (T - a) * m' := Int.mul_nonneg hTa (by omega)
 have B : 0 ≤ a * m := Int.mul_nonneg ha.1 (by omega)
 have Tmm : 0 < T * m * m' := Int.mul_pos (Int.mul_pos hT hm) hm'
 refine ⟨(T - a) * m' * n + a * m * n', T * m * m', by have := Int.mul_nonneg A hn; have := Int.mul_nonneg B hn'; omega, Tmm, ?_, ⟨?_, ?_⟩, ?_, ?_⟩
 ·have s : 0 < (T - a) * m' ∨ 0 < a * m := by
   rcases (by omega : 0 < T - a ∨ 0 < a) with h | h
   ·exact .inl (Int.mul_pos h hm')
   ·exact .inr (Int.mul_pos h hm)
  have e1 : ((T - a) * m' * n + a * m * n') * vd = (T - a) * m' * (n * vd) + a * m * (n' * vd) := by grind
  have e2 : hi * (T * m * m') = (T - a) * m' * (hi * m) + a * m * (hi * m') := by grind
  rw [e1, e2]
  rcases s with s | s
  ·have p1 := Int.mul_lt_mul_of_pos_left hb s
   have p2 := Int.mul_le_mul_of_nonneg_left (Int.le_of_lt hb') B
   omega
  ·have p1 := Int.mul_le_mul_of_nonneg_left (Int.le_of_lt hb) A
   have p2 := Int.mul_lt_mul_of_pos_left hb' s
   omega
 ·have p1 := Int.mul_le_mul_of_nonneg_left a1 A
  have p2 := Int.mul_le_mul_of_nonneg_left b1 B
  have e : T * m * m' * rx + ((T - a) * m' * n + a * m * n') * vx = (T - a) * m' * (m * px + n * vx) + a * m * (m' * qx + n' * vx) := by grind
  have e2 : T * m * m' * x0 = (T - a) * m' * (m * x0) + a * m * (m' * x0) := by grind
  omega
 ·have p1 := Int.mul_le_mul_of_nonneg_left a2 A
  have p2 := Int.mul_le_mul_of_nonneg_left b2 B
  have e : T * m * m' * rx + ((T - a) * m' * n + a * m * n') * vx = (T - a) * m' * (m * px + n * vx) + a * m * (m' * qx + n' * vx) := by grind
  have e2 : T * m * m' * x1 = (T - a) * m' * (m * x1) + a * m * (m' * x1) := by grind
  omega
 ·have p1 := Int.mul_le_mul_of_nonneg_left a3 A
  have p2 := Int.mul_le_mul_of_nonneg_left b3 B
  have e : T * m * m' * py + ((T - a) * m' * n + a * m * n') * vy = (T - a) * m' * (m * py + n * vy) + a * m * (m' * py + n' * vy) := by grind
  have e2 : T * m * m' * y0 = (T - a) * m' * (m * y0) + a * m * (m' * y0) := by grind
  omega
 ·have p1 := Int.mul_le_mul_of_nonneg_left a4 A
  have p2 := Int.mul_le_mul_of_nonneg_left b4 B
  have e : T * m * m' * py + ((T - a) * m' * n + a * m * n') * vy = (T - a) * m' * (m * py + n * vy) + a * m * (m' * py + n' * vy) := by grind
  have e2 : T * m * m' * y1 = (T - a) * m' * (m * y1) + a * m * (m' * y1) := by grind
  omega
theorem ju {px py vx vy x0 y0 x1 y1 n m : Int} : dk px py vx vy x0 y0 x1 y1 n m ↔ dk py px vy vx y0 x0 y1 x1 n m := ⟨fun h => ⟨h.2, h.1⟩, fun h => ⟨h.2, h.1⟩⟩
def gK (px py vx vy vd hi x0 y0 x1 y1 : Int) : Prop := ∃ n m : Int, 0 ≤ n ∧ 0 < m ∧ n * vd < hi * m ∧ dk px py vx vy x0 y0 x1 y1 n m
theorem lC {px py vx vy vd hi x0 y0 x1 y1 : Int} : gK px py vx vy vd hi x0 y0 x1 y1 ↔ gK py px vy vx vd hi y0 x0 y1 x1 :=
 ⟨fun ⟨n, m, a, b, c, d⟩ => ⟨n, m, a, b, c, ju.1 d⟩, fun ⟨n, m, a, b, c, d⟩ => ⟨n, m, a, b, c, ju.2 d⟩⟩
theorem lD {ax bx py vx vy vd hi x0 y0 x1 y1 rx : Int} (hr : ax ≤ rx ∧ rx ≤ bx) (h : gK ax py vx vy vd hi x0 y0 x1 y1) (k : gK bx py vx vy vd hi x0 y0 x1 y1) : gK rx py vx vy vd hi x0 y0 x1 y1 := by
 by_cases e : ax = bx
 ·rw [show rx = ax by omega]; exact h
 ·obtain ⟨n, m, h1, h2, h3, h4⟩ := h
  obtain ⟨n', m', k1, k2, k3, k4⟩ := k
  exact ray_conv (T := bx - ax) (a := rx - ax) (by omega) (by omega) h1 h2 k1 k2 h3 k3 h4 k4 (by grind)
theorem bef_box {ax ay bx by' vx vy vd hi x0 y0 x1 y1 rx ry : Int} (hx : ax ≤ rx ∧ rx ≤ bx) (hy : ay ≤ ry ∧ ry ≤ by') (h1 : gK ax ay vx vy vd hi x0 y0 x1 y1) (h2 : gK bx ay vx vy vd hi x0 y0 x1 y1) (h3 : gK ax by' vx vy vd hi x0 y0 x1 y1) (h4 : gK bx by' vx vy vd hi x0 y0 x1 y1) : gK rx ry vx vy vd hi x0 y0 x1 y1 :=
 lC.1 (lD hy (lC.1 (lD hx h1 h2)) (lC.1 (lD hx h3 h4)))
theorem mee_box {ax ay bx by' vx vy vd lo hi x0 y0 x1 y1 rx ry : Int} (hx : ax ≤ rx ∧ rx ≤ bx) (hy : ay ≤ ry ∧ ry ≤ by') (h : ∃ n m : Int, 0 ≤ n ∧ 0 < m ∧ lo * m ≤ n * vd ∧ n * vd ≤ hi * m ∧ dk rx ry vx vy x0 y0 x1 y1 n m) :
  ∃ n m : Int, 0 ≤ n ∧ 0 < m ∧ lo * m ≤ n * vd ∧ n * vd ≤ hi * m ∧ dk 0 0 vx vy (x0 - bx) (y0 - by') (x1 - ax) (y1 - ay) n m := by
 obtain ⟨n, m, h1, h2, h3, h4, ⟨a1, a2⟩, a3, a4⟩ := h
 refine ⟨n, m, h1, h2, h3, h4, ⟨?_, ?_⟩, ?_, ?_⟩
 ·have := Int.mul_le_mul_of_nonneg_left hx.2 (show 0 ≤ m by omega)
  have e : m * (x0 - bx) = m * x0 - m * bx := by grind
  omega
 ·have := Int.mul_le_mul_of_nonneg_left hx.1 (show 0 ≤ m by omega)
  have e : m * (x1 - ax) = m * x1 - m * ax := by grind
  omega
 ·have := Int.mul_le_mul_of_nonneg_left hy.2 (show 0 ≤ m by omega)
  have e : m * (y0 - by') = m * y0 - m * by' := by grind
  omega
 ·have := Int.mul_le_mul_of_nonneg_left hy.1 (show 0 ≤ m by omega)
  have e : m * (y1 - ay) = m * y1 - m * ay := by grind
  omega
theorem wU {px py vx vy vd far cx cy mnx mxx mny mxy : Int} (hd : 0 < vd) (hv : ¬ (vx = 0 ∧ vy = 0)) (hpx : -1048576 ≤ px ∧ px ≤ 1048576) (hpy : -1048576 ≤ py ∧ py ≤ 1048576) (hcx : -16384 ≤ cx ∧ cx ≤ 16384) (hcy : -16384 ≤ cy ∧ cy ≤ 16384) (hfar : 0 ≤ far)
  (x1 : mnx ≤ 0 * vx) (x2 : mnx ≤ far * vx) (x3 : 0 * vx ≤ mxx) (x4 : far * vx ≤ mxx) (y1 : mny ≤ 0 * vy) (y2 : mny ≤ far * vy) (y3 : 0 * vy ≤ mxy) (y4 : far * vy ≤ mxy)
  (h : bfrB px py vx vy vd far (cx * 64) (cy * 64) (cx * 64 + 64) (cy * 64 + 64) = true) :
  ga 0 0 vx vy vd 0 far (cx * 64 - px) (cy * 64 - py) (cx * 64 + 64 - px) (cy * 64 + 64 - py) = true ∧ (px + mnx / vd ≤ cx * 64 + 64 ∧ cx * 64 ≤ px + mxx / vd + 1) ∧ py + mny / vd ≤ cy * 64 + 64 ∧ cy * 64 ≤ py + mxy / vd + 1 := by
 have q := bef_mee ((nk hd hv (by omega) (by omega)).1 h) hd
 obtain ⟨n, m, hn, hm, h1, h2, hr⟩ := q
 have hs := ray_sh.1 hr
 refine ⟨(kK hd hv (by omega) (by omega) (by omega) hfar).2 ⟨n, m, hn, hm, h1, h2, hs⟩, ?_, ?_⟩
 ·exact mV (X0 := px) (X1 := px) hd hm h1 h2 x1 x2 x3 x4 hs.1
 ·exact mV (X0 := py) (X1 := py) hd hm h1 h2 y1 y2 y3 y4 hs.2
theorem mee_range {X0 Y0 X1 Y1 vx vy vd lo hi cx cy mnx mxx mny mxy : Int} (hd : 0 < vd) (hv : ¬ (vx = 0 ∧ vy = 0)) (hX : -1048576 ≤ X0 ∧ X1 ≤ 1048576 ∧ X0 ≤ X1) (hY : -1048576 ≤ Y0 ∧ Y1 ≤ 1048576 ∧ Y0 ≤ Y1) (hcx : -32768 ≤ cx ∧ cx ≤ 32768) (hcy : -32768 ≤ cy ∧ cy ≤ 32768) (hlo : 0 ≤ lo) (hlh : lo ≤ hi)
  (x1 : mnx ≤ lo * vx) (x2 : mnx ≤ hi * vx) (x3 : lo * vx ≤ mxx) (x4 : hi * vx ≤ mxx) (y1 : mny ≤ lo * vy) (y2 : mny ≤ hi * vy) (y3 : lo * vy ≤ mxy) (y4 : hi * vy ≤ mxy)
  (h : ga 0 0 vx vy vd lo hi (cx * 64 - X1) (cy * 64 - Y1) (cx * 64 + 64 - X0) (cy * 64 + 64 - Y0) = true) :
  (X0 + mnx / vd ≤ cx * 64 + 64 ∧ cx * 64 ≤ X1 + mxx / vd + 1) ∧ Y0 + mny / vd ≤ cy * 64 + 64 ∧ cy * 64 ≤ Y1 + mxy / vd + 1 := by
 obtain ⟨n, m, hn, hm, h1, h2, hr⟩ := (kK hd hv (by omega) (by omega) hlo hlh).1 h
 exact ⟨mV hd hm h1 h2 x1 x2 x3 x4 hr.1, mV hd hm h1 h2 y1 y2 y3 y4 hr.2⟩
open Go.RowKit
def thG (px py vx vy vd x0 y0 x1 y1 : Int) : Bool := lnP px py && (cZ vx vy vd && lnR x0 y0 x1 y1)
def dD (px py vx vy vd lo hi x0 y0 x1 y1 : Int) : Bool := decide (0 ≤ lo) && (decide (lo ≤ hi) && (decide (hi ≤ 65536) && (thG px py vx vy vd x0 y0 x1 y1 && ga px py vx vy vd lo hi x0 y0 x1 y1)))
def c6 (px py vx vy vd hi x0 y0 x1 y1 : Int) : Bool := decide (0 ≤ hi) && (decide (hi ≤ 65536) && (thG px py vx vy vd x0 y0 x1 y1 && bfrB px py vx vy vd hi x0 y0 x1 y1))
theorem cA {px py vx vy vd x0 y0 x1 y1 : Int} : thG px py vx vy vd x0 y0 x1 y1 = true ↔ lnP px py = true ∧ cZ vx vy vd = true ∧ lnR x0 y0 x1 y1 = true := by
 unfold thG; simp only [Bool.and_eq_true]
theorem eF {px py vx vy vd x0 y0 x1 y1 : Int} (h : thG px py vx vy vd x0 y0 x1 y1 = true) : 0 < vd ∧ ¬ (vx = 0 ∧ vy = 0) := by
 have h := (cA.1 h).2.1
 exact ⟨by have := (bh.1 h).1; omega, vec_nz h⟩
theorem jv {px py vx vy vd x0 y0 x1 y1 : Int} (h : thG px py vx vy vd x0 y0 x1 y1 = true) : (px - x0 ≤ 8388608 ∧ x1 - px ≤ 8388608) ∧ (py - y0 ≤ 8388608 ∧ y1 - py ≤ 8388608) := by
 obtain ⟨h1, -, h2⟩ := cA.1 h
 have h1 := dj.1 h1
 have h2 := bN.1 h2
 omega
def bdSp (s : Fr2 × Fr2) : Prop := ((-8388608 ≤ s.1.1 ∧ s.1.1 ≤ 8388608) ∧ 1 ≤ s.1.2 ∧ s.1.2 ≤ 67108864) ∧ (-8388608 ≤ s.2.1 ∧ s.2.1 ≤ 8388608) ∧ 1 ≤ s.2.2 ∧ s.2.2 ≤ 67108864
def bdF (f : Fr2) : Prop := (-8388608 ≤ f.1 ∧ f.1 ≤ 8388608) ∧ 1 ≤ f.2 ∧ f.2 ≤ 67108864
theorem mxF_bd {s l : Fr2} (hs : bdF s) (hl : bdF l) : bdF (mxF s l) := by unfold mxF; split <;> assumption
theorem mnF_bd {s l : Fr2} (hs : bdF s) (hl : bdF l) : bdF (mnF s l) := by unfold mnF; split <;> assumption
theorem sb_bd {p d a b : Int} (hp : -2097152 ≤ p ∧ p ≤ 2097152) (ha : -2097152 ≤ a ∧ a ≤ 2097152) (hb : -2097152 ≤ b ∧ b ≤ 2097152) (hd : -67108864 ≤ d ∧ d ≤ 67108864) (h0 : ¬ d = 0) : bdF (sbL p d a b) ∧ bdF (sbH p d a b) := by
 unfold sbL sbH bdF; split <;> (simp only; omega)
theorem slab_bd {s : Fr2 × Fr2} {p d a b : Int} (h : bdSp s) (hp : -2097152 ≤ p ∧ p ≤ 2097152) (ha : -2097152 ≤ a ∧ a ≤ 2097152) (hb : -2097152 ≤ b ∧ b ≤ 2097152) (hd : -67108864 ≤ d ∧ d ≤ 67108864) : bdSp (bk s p d a b) := by
 unfold bk; split
 ·exact h
 ·rename_i h0
  have k := sb_bd hp ha hb hd h0
  exact ⟨mxF_bd h.1 k.1, mnF_bd h.2 k.2⟩
theorem thS0_bd : bdSp eI := by unfold bdSp eI; decide
theorem kh {px py vx vy vd x0 y0 x1 y1 : Int} (h : thG px py vx vy vd x0 y0 x1 y1 = true) : bdSp (bk eI px vx x0 x1) ∧ bdSp (thS px py vx vy x0 y0 x1 y1) := by
 obtain ⟨h1, h3, h2⟩ := cA.1 h
 have h1 := dj.1 h1
 have h2 := bN.1 h2
 have h3 := bh.1 h3
 have k := slab_bd (a := x0) (b := x1) (p := px) (d := vx) thS0_bd (by omega) (by omega) (by omega) (by omega)
 exact ⟨k, slab_bd k (by omega) (by omega) (by omega) (by omega)⟩
def dS (a0 b0 a1 b1 x0 y0 x1 y1 : Int) : Bool := lnR a0 b0 a1 b1 && (lnR x0 y0 x1 y1 && lnR (a0 - x1) (b0 - y1) (a1 - x0) (b1 - y0))
def aJ (a n d lo hi : Int) : Int := a + (if hi * n < lo * n then hi * n else lo * n) / d
def bQ (b n d lo hi : Int) : Int := b + (if lo * n < hi * n then hi * n else lo * n) / d + 1
def cz (x0 y0 x1 y1 vx vy vd lo hi : Int) (cx cy : Int) : Bool := dS (cx * 64) (cy * 64) (cx * 64 + 64) (cy * 64 + 64) x0 y0 x1 y1 && dD 0 0 vx vy vd lo hi (cx * 64 - x1) (cy * 64 - y1) (cx * 64 + 64 - x0) (cy * 64 + 64 - y0)
def dE (x0 y0 x1 y1 vx vy vd lo hi : Int) : List (Int × Int) := cN (cz x0 y0 x1 y1 vx vy vd lo hi) (spl (aJ x0 vx vd lo hi)) (cC (aJ x0 vx vd lo hi) (bQ x1 vx vd lo hi)) (spl (aJ y0 vy vd lo hi)) (cC (aJ y0 vy vd lo hi) (bQ y1 vy vd lo hi))
theorem ja {a b n d lo hi : Int} (hd : 0 < d) (hn : -d ≤ n ∧ n ≤ d) (h0 : 0 ≤ lo) (hh : lo ≤ hi) (h1 : hi ≤ 2048) : (a - 2048 ≤ aJ a n d lo hi ∧ aJ a n d lo hi ≤ a + 2048) ∧ (b - 2047 ≤ bQ b n d lo hi ∧ bQ b n d lo hi ≤ b + 2049) ∧ (a ≤ b → aJ a n d lo hi ≤ bQ b n d lo hi) := by
 have k : ∀ m : Int, 0 ≤ m → m ≤ 2048 → -2048 * d ≤ m * n ∧ m * n ≤ 2048 * d := fun m m0 m1 => by
  have a1 := Int.mul_le_mul_of_nonneg_left hn.1 m0
  have a2 := Int.mul_le_mul_of_nonneg_left hn.2 m0
  have a3 := Int.mul_le_mul_of_nonneg_right m1 (show 0 ≤ d by omega)
  have e : m * -d = -(m * d) := Int.mul_neg _ _
  omega
 have q : ∀ m : Int, -2048 * d ≤ m → m ≤ 2048 * d → -2048 ≤ m / d ∧ m / d ≤ 2048 := fun m h h' => ⟨(Int.le_ediv_iff_mul_le hd).2 h, Int.ediv_le_of_le_mul hd h'⟩
 have k1 := k lo h0 (by omega)
 have k2 := k hi (by omega) h1
 have m1 : ∀ m : Int, m = (if hi * n < lo * n then hi * n else lo * n) → -2048 ≤ m / d ∧ m / d ≤ 2048 := fun m e => q m (by rw [e]; split <;> omega) (by rw [e]; split <;> omega)
 have m2 : ∀ m : Int, m = (if lo * n < hi * n then hi * n else lo * n) → -2048 ≤ m / d ∧ m / d ≤ 2048 := fun m e => q m (by rw [e]; split <;> omega) (by rw [e]; split <;> omega)
 have r1 := m1 _ rfl
 have r2 := m2 _ rfl
 have r3 : (if hi * n < lo * n then hi * n else lo * n) / d ≤ (if lo * n < hi * n then hi * n else lo * n) / d := Int.ediv_le_ediv hd (by split <;> split <;> omega)
 unfold aJ bQ
 omega
theorem kL {a b : Int} (h : -1050624 ≤ a ∧ a ≤ b ∧ b ≤ 1050625) : (-16418 ≤ spl a ∧ spl a ≤ 16416) ∧ (-16417 ≤ sph b ∧ sph b ≤ 16416) ∧ spl a ≤ sph b ∧ spl a + (cC a b : Int) = sph b + 1 ∧ 1 ≤ cC a b ∧ cC a b ≤ 32900 := by
 unfold cC spl sph; omega
theorem swp_range {x0 y0 x1 y1 vx vy vd lo hi cx cy : Int} (hx : -1048576 ≤ x0 ∧ x0 ≤ x1 ∧ x1 ≤ 1048576) (hy : -1048576 ≤ y0 ∧ y0 ≤ y1 ∧ y1 ≤ 1048576) (h : cz x0 y0 x1 y1 vx vy vd lo hi cx cy = true) :
  (aJ x0 vx vd lo hi ≤ cx * 64 + 64 ∧ cx * 64 ≤ bQ x1 vx vd lo hi) ∧ aJ y0 vy vd lo hi ≤ cy * 64 + 64 ∧ cy * 64 ≤ bQ y1 vy vd lo hi := by
 unfold cz dD at h
 simp only [Bool.and_eq_true, decide_eq_true_eq] at h
 obtain ⟨hm, h0, hl, h6, hg, hmee⟩ := h
 unfold dS at hm
 simp only [Bool.and_eq_true, bN] at hm
 have hv := eF hg
 have k := mee_range (X0 := x0) (Y0 := y0) (X1 := x1) (Y1 := y1) hv.1 hv.2 (by omega) (by omega) (cx := cx) (cy := cy) (by omega) (by omega) h0 hl
  (mnx := if hi * vx < lo * vx then hi * vx else lo * vx) (mxx := if lo * vx < hi * vx then hi * vx else lo * vx) (mny := if hi * vy < lo * vy then hi * vy else lo * vy) (mxy := if lo * vy < hi * vy then hi * vy else lo * vy)
  (by split <;> omega) (by split <;> omega) (by split <;> omega) (by split <;> omega) (by split <;> omega) (by split <;> omega) (by split <;> omega) (by split <;> omega) hmee
 unfold aJ bQ
 omega
theorem spl_le {a c : Int} : spl a ≤ c ↔ a ≤ c * 64 + 64 := by unfold spl; omega
theorem le_sph {b c : Int} : c ≤ sph b ↔ c * 64 ≤ b := by unfold sph; omega
def lwN (n d : Int) : Int := n / (Int.gcd n d : Int)
def lwD (n d : Int) : Int := d / (Int.gcd n d : Int)
theorem kM {n d : Int} (hd : 0 < d) : 0 < (Int.gcd n d : Int) := by
 have : Int.gcd n d ≠ 0 := fun h => by have := (Int.gcd_eq_zero_iff.1 h).2; omega
 omega
theorem lw_lt {n d k : Int} (hd : 0 < d) : lwN n d < k * lwD n d ↔ n < k * d := low_lt (kM hd) (Int.gcd_dvd_left ..) (Int.gcd_dvd_right ..)
theorem lw_le {n d k : Int} (hd : 0 < d) : (lwN n d ≤ k * lwD n d ↔ n ≤ k * d) ∧ (k * lwD n d ≤ lwN n d ↔ k * d ≤ n) := low_le (kM hd) (Int.gcd_dvd_left ..) (Int.gcd_dvd_right ..)
theorem lw_bd {n d B : Int} (hn : 0 ≤ n ∧ n ≤ B) (hd : 0 < d) : (0 ≤ lwN n d ∧ lwN n d ≤ B) ∧ (0 < lwD n d ∧ lwD n d ≤ d) := by
 have hg := kM (n := n) hd
 unfold lwN lwD
 obtain ⟨a, ha⟩ : (Int.gcd n d : Int) ∣ n := Int.gcd_dvd_left ..
 obtain ⟨b, hb⟩ : (Int.gcd n d : Int) ∣ d := Int.gcd_dvd_right ..
 generalize (Int.gcd n d : Int) = g at *
 subst ha hb
 rw [Int.mul_ediv_cancel_left _ (by omega), Int.mul_ediv_cancel_left _ (by omega)]
 have hb : 0 < b := by
  rcases Int.lt_or_le 0 b with h | h
  ·exact h
  ·have := Int.mul_nonpos_of_nonneg_of_nonpos (show 0 ≤ g by omega) h; omega
 have ha : 0 ≤ a := by
  rcases Int.lt_or_le a 0 with h | h
  ·have := Int.mul_neg_of_pos_of_neg hg h; omega
  ·exact h
 have e1 := Int.mul_le_mul_of_nonneg_right (show 1 ≤ g by omega) ha
 have e2 := Int.mul_le_mul_of_nonneg_right (show 1 ≤ g by omega) (show 0 ≤ b by omega)
 omega
open Go.RowKit
theorem set_last {H : ac} {a b : ABlk} : (H ++ [a]).set H.length b = H ++ [b] := by
 rw [List.set_append_right _ _ (Nat.le_refl _), Nat.sub_self]; rfl
theorem eG {P : Program} {fn : Func} {H l1 : ac} {b0 b1 : ABlk} {R : AV → ac → Prop} {F : Fr} {e : Exit} (he : e = .ret ∨ e = .normal) (hbel : HBel (H ++ [b0]).length (H ++ [b0])) (hb : b1.bel (H ++ [b0]).length = true) {x : AV} (hx : cW P fn F (H ++ b1 :: l1) = some x) (hp : x.bel 0 = true) (hR : R x (H ++ [b1])) : dK P fn (H ++ [b0]).length R e F (H ++ b1 :: l1) := by
 have h := hbel.put H.length hb
 rw [set_last] at h
 have hl : (H ++ [b1]).length = (H ++ [b0]).length := by rw [List.length_append, List.length_append]; rfl
 have ha : (H ++ [b1]) ++ l1 = H ++ b1 :: l1 := by rw [List.append_assoc]; rfl
 have k : dK P fn (H ++ [b1]).length R e F ((H ++ [b1]) ++ l1) := ae he (by rw [hl]; exact h) (x := x) (by rw [ha]; exact hx) hp hR
 rw [hl, ha] at k; exact k
theorem gw {P : Program} {N n : Nat} {Q : Exit → Fr → ac → Prop} {ops : Array Oper} {id : Nat} {F : Fr} {H : ac} (q : Bool) (hm : P.follows .mixedOrders = true) (reps : List (List Nat)) (hok : kc q false N ops reps = true) (I : Fr → ac → Prop)
  (h1 : ∀ τ ∈ reps, ∀ J : Fr → ac → Prop, (∀ F' H', (∃ σ F2 H2, I F2 H2 ∧ Abs n σ F' H' F2 H2) → J F' H') → AGo P N n q Q [.opsD H.length (dO ops.toList τ), .inv J] F H) (h2 : ∀ F2 H2, I F2 H2 → Q .normal F2 H2) : AW P N n (.region id ops true) Q F H := by
 intro E w a k1 k2 k3 k4 k5
 have key := ni (id := id) (q := q) (Q := fl (fun F' H' => ∃ σ F2 H2, I F2 H2 ∧ Abs n σ F' H' F2 H2) Q) hm reps hok (.inl rfl) (fun τ hτ => h1 τ hτ (fun F' H' => ∃ σ F2 H2, I F2 H2 ∧ Abs n σ F' H' F2 H2) (fun _ _ h => h)) E w a k1 k2 k3 k4 k5
 refine wp_mono key fun e a w hh => ?_
 obtain ⟨E', F', H', hq, l, s, d, f, m⟩ := hh
 cases e with
 | normal =>
  obtain ⟨σ, F2, H2, hi, ab⟩ := hq
  obtain ⟨E2, l2, f2, m2⟩ := ab.emb l.n f m
  exact ⟨E2, F2, H2, h2 F2 H2 hi, l.trans l2, s, d, f2, m2⟩
 | _ => exact ⟨E', F', H', hq, l, s, d, f, m⟩
theorem AcN {P : Program} (q : Bool) {f : FuncId} {fn : Func} {args : List AV} {R : AV → ac → Prop} {H : ac} (hf : P.funcs[f]? = some fn) {c : Code} (h : HBel H.length H → ∀ Q : Exit → Fr → ac → Prop, (∀ F H', dK P fn H.length R .normal F H' → Q .normal F H') → AGo P fn.ntmps H.length q Q [.code c] (argF 0 args) H)
  (hb : fn.body = some c := by rfl) (hm : P.follows .mixedOrders = true := by exact try_mixed) (ha : args.length ≤ fn.ntmps := by exact Nat.le_of_ble_eq_true (by kernel_rfl)) (hc : dg fn.ntmps q c = true := by kernel_rfl) : ACalls P f args H R :=
 cr hm hf q _ rfl ha (by rw [hb]; exact congrArg some hc) fun hbel Q _ hQ c' hc' => by
  rw [hb] at hc'
  injection hc' with hc'
  subst hc'
  exact h hbel Q hQ
open Go.RowKit
def mkV (b : Bool) (n : Int) : Int := if b = true then n else 0
def thO (px py vx vy vd x0 y0 x1 y1 : Int) : Bool := thG px py vx vy vd x0 y0 x1 y1 && thB px py vx vy x0 y0 x1 y1
def thV (px py vx vy vd x0 y0 x1 y1 : Int) : Fr2 × Fr2 := if thO px py vx vy vd x0 y0 x1 y1 = true then thS px py vx vy x0 y0 x1 y1 else ((0, 0), (0, 0))
theorem iP {px py vx vy vd x0 y0 x1 y1 : Int} (h : thO px py vx vy vd x0 y0 x1 y1 = true) : thG px py vx vy vd x0 y0 x1 y1 = true ∧ thB px py vx vy x0 y0 x1 y1 = true := by unfold thO at h; rwa [Bool.and_eq_true] at h
theorem thO_me {px py vx vy vd x0 y0 x1 y1 lo hi : Int} (h : thO px py vx vy vd x0 y0 x1 y1 = false) : dD px py vx vy vd lo hi x0 y0 x1 y1 = false ∧ c6 px py vx vy vd hi x0 y0 x1 y1 = false := by
 unfold dD c6 ga bfrB
 unfold thO at h
 cases hg : thG px py vx vy vd x0 y0 x1 y1
 ·simp
 ·rw [hg, Bool.true_and] at h; rw [h]; simp
theorem ig (H : ac) (n : Int) : ACalls Tryz.prog 214 [.int .i64 n] H (fun v H' => v = .bool (bZ n 2097152) ∧ H' = H) := by
 refine AcT true Tryz.func214 ?_; intro hbel Q hQ
 refine aY ?_
 refine aj (fun h1 => ?_) (fun h1 => ?_)
 ·have h1d := bsT h1
  have g'1 := (jn @h1 @h1d)
  refine aa g'1 ?_
  exact hQ _ _ (aF (.inl rfl) hbel (x := .bool (decide (n ≤ 2097152))) (ag Tryz.results214) rfl ⟨by simp [bZ, h1d], rfl⟩)
 ·have h1d := bsT h1
  have g'2 := (jn @h1 @h1d)
  refine aa g'2 ?_
  exact hQ _ _ (aF (.inl rfl) hbel (x := .bool false) (ag Tryz.results214) rfl ⟨by simp [bZ, h1d], rfl⟩)
theorem svpt_c (H : ac) (x : Int) (y : Int) : ACalls Tryz.prog 184 [.agg [.int .i64 x, .int .i64 y]] H (fun v H' => v = .bool (lnP x y) ∧ H' = H) := by
 refine AcT true Tryz.func184 ?_; intro hbel Q hQ
 refine aY ?_
 refine af (by kernel_rfl) (ig _ x) ?_
 refine aY ?_
 refine aj (fun h1 => ?_) (fun h1 => ?_)
 ·have h1d := bsT h1
  have g'3 := (jn @h1 @h1d)
  refine aa g'3 ?_
  refine af (by kernel_rfl) (ig _ y) ?_
  refine aa g'3 ?_
  exact hQ _ _ (ae (.inl rfl) hbel (x := .bool (bZ y 2097152)) (ag Tryz.results184) rfl ⟨by simp [lnP, h1d], rfl⟩)
 ·have h1d := bsT h1
  have g'4 := (jn @h1 @h1d)
  refine aa g'4 ?_
  exact hQ _ _ (ae (.inl rfl) hbel (x := .bool false) (ag Tryz.results184) rfl ⟨by simp [lnP, h1d], rfl⟩)
theorem svv_c (H : ac) (x : Int) (y : Int) (d : Int) : ACalls Tryz.prog 221 [.agg [.int .i64 x, .int .i64 y, .int .i64 d]] H (fun v H' => v = .bool (cZ x y d) ∧ H' = H) := by
 refine AcT true Tryz.func221 ?_; intro hbel Q hQ
 refine aY ?_
 refine aj (fun h1 => ?_) (fun h1 => ?_)
 ·have h1d := bsT h1
  have g'5 := (jn @h1 @h1d)
  refine aa g'5 ?_
  refine aj (fun h2 => ?_) (fun h2 => ?_)
  ·have h2d := bsT h2
   have g'6 := (jn @h2 (jn @h2d g'5))
   refine aa g'6 ?_
   refine aj (fun h3 => ?_) (fun h3 => ?_)
   ·have h3d := bsT h3
    have g'7 := (jn @h3 (jn @h3d g'6))
    refine aa g'7 ?_
    refine aj (fun h4 => ?_) (fun h4 => ?_)
    ·have h4d := bsT h4
     have g'8 := (jn @h4 (jn @h4d g'7))
     refine aa g'8 ?_
     refine aj (fun h5 => ?_) (fun h5 => ?_)
     ·have h5d := bsT h5
      have g'9 := (jn @h5 (jn @h5d g'8))
      refine aa g'9 ?_
      refine ai (fun h6 => ?_) (fun h6 => ?_)
      ·have h6d := bsT h6
       have g'10 := (jn @h6 (jn @h6d g'9))
       refine aa g'10 ?_
       exact hQ _ _ (ae (.inl rfl) hbel (x := .bool false) (ag Tryz.results221) rfl ⟨by first | (refine congrArg AV.bool ?_; rw [Bool.eq_iff_iff, bh, beq_iff_eq]; exact ⟨fun e => ⟨⟨by omega, by omega⟩, ⟨by omega, by omega⟩, ⟨by omega, by omega⟩, e⟩, fun e => e.2.2.2⟩) | (refine congrArg AV.bool ?_; rw [Bool.eq_iff_iff, bh]; exact ⟨fun e => (by cases e), fun k => (by omega)⟩), rfl⟩)
      ·have h6d := bsT h6
       have hm1 := bS (a := x) (b := x) (A := 67108864) (B := 67108864) (by omega) (by omega)
       have hm2 := bS (a := y) (b := y) (A := 67108864) (B := 67108864) (by omega) (by omega)
       have hm3 := bS (a := d) (b := d) (A := 67108864) (B := 67108864) (by omega) (by omega)
       have g'11 := (jn @h6 (jn @h6d g'9))
       refine aa g'11 ?_
       exact hQ _ _ (ae (.inl rfl) hbel (x := .bool (((x * x) + (y * y)) == (d * d))) (ag Tryz.results221) rfl ⟨by first | (refine congrArg AV.bool ?_; rw [Bool.eq_iff_iff, bh, beq_iff_eq]; exact ⟨fun e => ⟨⟨by omega, by omega⟩, ⟨by omega, by omega⟩, ⟨by omega, by omega⟩, e⟩, fun e => e.2.2.2⟩) | (refine congrArg AV.bool ?_; rw [Bool.eq_iff_iff, bh]; exact ⟨fun e => (by cases e), fun k => (by omega)⟩), rfl⟩)
     ·have h5d := bsT h5
      have g'12 := (jn @h5 (jn @h5d g'8))
      refine aa g'12 ?_
      exact hQ _ _ (ae (.inl rfl) hbel (x := .bool false) (ag Tryz.results221) rfl ⟨by first | (refine congrArg AV.bool ?_; rw [Bool.eq_iff_iff, bh, beq_iff_eq]; exact ⟨fun e => ⟨⟨by omega, by omega⟩, ⟨by omega, by omega⟩, ⟨by omega, by omega⟩, e⟩, fun e => e.2.2.2⟩) | (refine congrArg AV.bool ?_; rw [Bool.eq_iff_iff, bh]; exact ⟨fun e => (by cases e), fun k => (by omega)⟩), rfl⟩)
    ·have h4d := bsT h4
     have g'13 := (jn @h4 (jn @h4d g'7))
     refine aa g'13 ?_
     exact hQ _ _ (ae (.inl rfl) hbel (x := .bool false) (ag Tryz.results221) rfl ⟨by first | (refine congrArg AV.bool ?_; rw [Bool.eq_iff_iff, bh, beq_iff_eq]; exact ⟨fun e => ⟨⟨by omega, by omega⟩, ⟨by omega, by omega⟩, ⟨by omega, by omega⟩, e⟩, fun e => e.2.2.2⟩) | (refine congrArg AV.bool ?_; rw [Bool.eq_iff_iff, bh]; exact ⟨fun e => (by cases e), fun k => (by omega)⟩), rfl⟩)
   ·have h3d := bsT h3
    have g'14 := (jn @h3 (jn @h3d g'6))
    refine aa g'14 ?_
    exact hQ _ _ (ae (.inl rfl) hbel (x := .bool false) (ag Tryz.results221) rfl ⟨by first | (refine congrArg AV.bool ?_; rw [Bool.eq_iff_iff, bh, beq_iff_eq]; exact ⟨fun e => ⟨⟨by omega, by omega⟩, ⟨by omega, by omega⟩, ⟨by omega, by omega⟩, e⟩, fun e => e.2.2.2⟩) | (refine congrArg AV.bool ?_; rw [Bool.eq_iff_iff, bh]; exact ⟨fun e => (by cases e), fun k => (by omega)⟩), rfl⟩)
  ·have h2d := bsT h2
   have g'15 := (jn @h2 (jn @h2d g'5))
   refine aa g'15 ?_
   exact hQ _ _ (ae (.inl rfl) hbel (x := .bool false) (ag Tryz.results221) rfl ⟨by first | (refine congrArg AV.bool ?_; rw [Bool.eq_iff_iff, bh, beq_iff_eq]; exact ⟨fun e => ⟨⟨by omega, by omega⟩, ⟨by omega, by omega⟩, ⟨by omega, by omega⟩, e⟩, fun e => e.2.2.2⟩) | (refine congrArg AV.bool ?_; rw [Bool.eq_iff_iff, bh]; exact ⟨fun e => (by cases e), fun k => (by omega)⟩), rfl⟩)
 ·have h1d := bsT h1
  have g'16 := (jn @h1 @h1d)
  refine aa g'16 ?_
  exact hQ _ _ (ae (.inl rfl) hbel (x := .bool false) (ag Tryz.results221) rfl ⟨by first | (refine congrArg AV.bool ?_; rw [Bool.eq_iff_iff, bh, beq_iff_eq]; exact ⟨fun e => ⟨⟨by omega, by omega⟩, ⟨by omega, by omega⟩, ⟨by omega, by omega⟩, e⟩, fun e => e.2.2.2⟩) | (refine congrArg AV.bool ?_; rw [Bool.eq_iff_iff, bh]; exact ⟨fun e => (by cases e), fun k => (by omega)⟩), rfl⟩)
theorem mW (H : ac) (x0 : Int) (y0 : Int) (x1 : Int) (y1 : Int) : ACalls Tryz.prog 185 [.agg [.int .i64 x0, .int .i64 y0, .int .i64 x1, .int .i64 y1]] H (fun v H' => v = .bool (lnR x0 y0 x1 y1) ∧ H' = H) := by
 refine AcT true Tryz.func185 ?_; intro hbel Q hQ
 refine aY ?_
 refine af (by kernel_rfl) (ig _ x0) ?_
 refine aY ?_
 refine aj (fun h1 => ?_) (fun h1 => ?_)
 ·have h1d := bsT h1
  have wx0 := br.1 h1d
  have g'17 := (jn @h1 @h1d)
  refine aa g'17 ?_
  refine af (by kernel_rfl) (ig _ y0) ?_
  refine aa g'17 ?_
  refine aj (fun h2 => ?_) (fun h2 => ?_)
  ·have h2d := bsT h2
   have wy0 := br.1 h2d
   have g'18 := (jn @h2 (jn @h2d g'17))
   refine aa g'18 ?_
   refine af (by kernel_rfl) (ig _ x1) ?_
   refine aa g'18 ?_
   refine aj (fun h3 => ?_) (fun h3 => ?_)
   ·have h3d := bsT h3
    have wx1 := br.1 h3d
    have g'19 := (jn @h3 (jn @h3d g'18))
    refine aa g'19 ?_
    refine af (by kernel_rfl) (ig _ y1) ?_
    refine aa g'19 ?_
    refine aj (fun h4 => ?_) (fun h4 => ?_)
    ·have h4d := bsT h4
     have wy1 := br.1 h4d
     have g'20 := (jn @h4 (jn @h4d g'19))
     refine aa g'20 ?_
     refine aj (fun h5 => ?_) (fun h5 => ?_)
     ·have h5d := bsT h5
      have g'21 := (jn @h5 (jn @h5d g'20))
      refine aa g'21 ?_
      exact hQ _ _ (ae (.inl rfl) hbel (x := .bool (decide (y0 ≤ y1))) (ag Tryz.results185) rfl ⟨by first | (refine congrArg AV.bool ?_; rw [Bool.eq_iff_iff, bN, decide_eq_true_eq]; omega) | (refine congrArg AV.bool ?_; rw [Bool.eq_iff_iff, bN]; exact ⟨fun e => (by cases e), fun k => (by omega)⟩), rfl⟩)
     ·have h5d := bsT h5
      have g'22 := (jn @h5 (jn @h5d g'20))
      refine aa g'22 ?_
      exact hQ _ _ (ae (.inl rfl) hbel (x := .bool false) (ag Tryz.results185) rfl ⟨by first | (refine congrArg AV.bool ?_; rw [Bool.eq_iff_iff, bN, decide_eq_true_eq]; omega) | (refine congrArg AV.bool ?_; rw [Bool.eq_iff_iff, bN]; exact ⟨fun e => (by cases e), fun k => (by omega)⟩), rfl⟩)
    ·have h4d := bsT h4
     have wy1 : ¬ (-2097152 ≤ y1 ∧ y1 ≤ 2097152) := mt br.2 (by rw [h4d]; decide)
     have g'23 := (jn @h4 (jn @h4d g'19))
     refine aa g'23 ?_
     exact hQ _ _ (ae (.inl rfl) hbel (x := .bool false) (ag Tryz.results185) rfl ⟨by first | (refine congrArg AV.bool ?_; rw [Bool.eq_iff_iff, bN, decide_eq_true_eq]; omega) | (refine congrArg AV.bool ?_; rw [Bool.eq_iff_iff, bN]; exact ⟨fun e => (by cases e), fun k => (by omega)⟩), rfl⟩)
   ·have h3d := bsT h3
    have wx1 : ¬ (-2097152 ≤ x1 ∧ x1 ≤ 2097152) := mt br.2 (by rw [h3d]; decide)
    have g'24 := (jn @h3 (jn @h3d g'18))
    refine aa g'24 ?_
    exact hQ _ _ (ae (.inl rfl) hbel (x := .bool false) (ag Tryz.results185) rfl ⟨by first | (refine congrArg AV.bool ?_; rw [Bool.eq_iff_iff, bN, decide_eq_true_eq]; omega) | (refine congrArg AV.bool ?_; rw [Bool.eq_iff_iff, bN]; exact ⟨fun e => (by cases e), fun k => (by omega)⟩), rfl⟩)
  ·have h2d := bsT h2
   have wy0 : ¬ (-2097152 ≤ y0 ∧ y0 ≤ 2097152) := mt br.2 (by rw [h2d]; decide)
   have g'25 := (jn @h2 (jn @h2d g'17))
   refine aa g'25 ?_
   exact hQ _ _ (ae (.inl rfl) hbel (x := .bool false) (ag Tryz.results185) rfl ⟨by first | (refine congrArg AV.bool ?_; rw [Bool.eq_iff_iff, bN, decide_eq_true_eq]; omega) | (refine congrArg AV.bool ?_; rw [Bool.eq_iff_iff, bN]; exact ⟨fun e => (by cases e), fun k => (by omega)⟩), rfl⟩)
 ·have h1d := bsT h1
  have wx0 : ¬ (-2097152 ≤ x0 ∧ x0 ≤ 2097152) := mt br.2 (by rw [h1d]; decide)
  have g'26 := (jn @h1 @h1d)
  refine aa g'26 ?_
  exact hQ _ _ (ae (.inl rfl) hbel (x := .bool false) (ag Tryz.results185) rfl ⟨by first | (refine congrArg AV.bool ?_; rw [Bool.eq_iff_iff, bN, decide_eq_true_eq]; omega) | (refine congrArg AV.bool ?_; rw [Bool.eq_iff_iff, bN]; exact ⟨fun e => (by cases e), fun k => (by omega)⟩), rfl⟩)
theorem dw (H : ac) (p1 : Int) (p2 : Int) (q1 : Int) (q2 : Int) (k1 : -8388608 ≤ p1 ∧ p1 ≤ 8388608) (k2 : 1 ≤ p2 ∧ p2 ≤ 67108864) (k3 : -8388608 ≤ q1 ∧ q1 ≤ 8388608) (k4 : 1 ≤ q2 ∧ q2 ≤ 67108864) : ACalls Tryz.prog 236 [.agg [.int .i64 p1, .int .i64 p2], .agg [.int .i64 q1, .int .i64 q2]] H (fun v H' => v = .bool (decide (p1 * q2 < q1 * p2)) ∧ H' = H) := by
 have hm1 := bS (a := p1) (b := q2) (A := 8388608) (B := 67108864) (by omega) (by omega)
 have hm2 := bS (a := q1) (b := p2) (A := 8388608) (B := 67108864) (by omega) (by omega)
 refine AcT true Tryz.func236 ?_; intro hbel Q hQ
 refine aY ?_
 exact hQ _ _ (ae (.inl rfl) hbel (x := .bool (decide ((p1 * q2) < (q1 * p2)))) (ag Tryz.results236) rfl ⟨rfl, rfl⟩)
theorem slab_c (H : ac) (S : Fr2 × Fr2) (p : Int) (d : Int) (a : Int) (b : Int) (hS : bdSp S) (hp : -2097152 ≤ p ∧ p ≤ 2097152) (hd : -67108864 ≤ d ∧ d ≤ 67108864) (ha : -2097152 ≤ a ∧ a ≤ 2097152) (hb : -2097152 ≤ b ∧ b ≤ 2097152) : ACalls Tryz.prog 222 [.ptr (some (H.length, 0)), .int .i64 p, .int .i64 d, .int .i64 a, .int .i64 b] (H ++ [.cells true 0 [.int .i64 S.1.1, .int .i64 S.1.2, .int .i64 S.2.1, .int .i64 S.2.2]]) (fun v H' => v = .bool (bR S p d a b) ∧ H' = H ++ [.cells true 0 [.int .i64 ((bk S p d a b).1.1), .int .i64 ((bk S p d a b).1.2), .int .i64 ((bk S p d a b).2.1), .int .i64 ((bk S p d a b).2.2)]]) := by
 obtain ⟨⟨hS1, hS2⟩, hS3, hS4⟩ := id hS
 refine AcT true Tryz.func222 ?_; intro hbel Q hQ
 refine aY ?_
 refine ai (fun h1 => ?_) (fun h1 => ?_)
 ·have h1d := bsT h1
  have h1n := bnT h1
  have hd0 : d = 0 := by simpa using h1d
  have g'27 := (jn @h1 (jn @h1n (jn @aU @aT)))
  refine aa g'27 ?_
  refine aj (fun h2 => ?_) (fun h2 => ?_)
  ·have h2d := bsT h2
   have g'28 := (jn @h2 (jn @h2d g'27))
   refine aa g'28 ?_
   exact hQ _ _ (eG (b1 := .cells true 0 [.int .i64 S.1.1, .int .i64 S.1.2, .int .i64 S.2.1, .int .i64 S.2.2]) (.inl rfl) hbel (by simp only [ABlk.bel, AV.bels, AV.bel, Bool.true_and]) (x := .bool (decide (p ≤ b))) (ag Tryz.results222) rfl ⟨by (try simp only [Int.zero_sub] at *); first | (simp [bR, bk, hd0, h2d, h1d]; done) | (simp [bR, bk, mxF, mnF, sbL, sbH, hd0, h2d, h1d]; done) | skip, by (try simp only [Int.zero_sub] at *); first | (simp [bR, bk, hd0, h2d, h1d]; done) | (simp [bR, bk, mxF, mnF, sbL, sbH, hd0, h2d, h1d]; done) | skip⟩)
  ·have h2d := bsT h2
   have g'29 := (jn @h2 (jn @h2d g'27))
   refine aa g'29 ?_
   exact hQ _ _ (eG (b1 := .cells true 0 [.int .i64 S.1.1, .int .i64 S.1.2, .int .i64 S.2.1, .int .i64 S.2.2]) (.inl rfl) hbel (by simp only [ABlk.bel, AV.bels, AV.bel, Bool.true_and]) (x := .bool false) (ag Tryz.results222) rfl ⟨by (try simp only [Int.zero_sub] at *); first | (simp [bR, bk, hd0, h2d, h1d]; done) | (simp [bR, bk, mxF, mnF, sbL, sbH, hd0, h2d, h1d]; done) | skip, by (try simp only [Int.zero_sub] at *); first | (simp [bR, bk, hd0, h2d, h1d]; done) | (simp [bR, bk, mxF, mnF, sbL, sbH, hd0, h2d, h1d]; done) | skip⟩)
 ·have h1d := bsT h1
  have h1n := bnT h1
  have hd0 : ¬ d = 0 := by simpa using h1d
  have g'30 := (jn @h1 (jn @h1n (jn @aU @aT)))
  refine aa g'30 ?_
  refine ai (fun h3 => ?_) (fun h3 => ?_)
  ·have h3d := bsT h3
   have g'31 := (jn @h3 (jn @h3d g'30))
   refine aa g'31 ?_
   refine aK (by kernel_rfl) (dw _ S.1.1 S.1.2 (p - b) (0 - d) (by omega) (by omega) (by omega) (by omega)) ?_
   refine aa g'31 ?_
   refine ai (fun h4 => ?_) (fun h4 => ?_)
   ·have h4d := bsT h4
    have g'32 := (jn @h4 (jn @h4d g'31))
    refine aa g'32 ?_
    refine aK (by kernel_rfl) (dw _ (p - a) (0 - d) S.2.1 S.2.2 (by omega) (by omega) (by omega) (by omega)) ?_
    refine aa g'32 ?_
    refine ai (fun h5 => ?_) (fun h5 => ?_)
    ·have h5d := bsT h5
     have g'33 := (jn @h5 (jn @h5d g'32))
     refine aa g'33 ?_
     refine aK (by kernel_rfl) (dw _ (p - a) (0 - d) (p - b) (0 - d) (by omega) (by omega) (by omega) (by omega)) ?_
     refine aa g'33 ?_
     exact hQ _ _ (eG (b1 := .cells true 0 [.int .i64 (p - b), .int .i64 (0 - d), .int .i64 (p - a), .int .i64 (0 - d)]) (.inl rfl) hbel (by simp only [ABlk.bel, AV.bels, AV.bel, Bool.true_and]) (x := .bool (!(decide ((p - a) * (0 - d) < (p - b) * (0 - d))))) (ag Tryz.results222) rfl ⟨by (try simp only [Int.zero_sub] at *); first | (simp [bR, bk, hd0, h3d, h4d, h5d, h1d]; done) | (simp [bR, bk, mxF, mnF, sbL, sbH, hd0, h3d, h4d, h5d, h1d]; done) | skip, by (try simp only [Int.zero_sub] at *); first | (simp [bR, bk, hd0, h3d, h4d, h5d, h1d]; done) | (simp [bR, bk, mxF, mnF, sbL, sbH, hd0, h3d, h4d, h5d, h1d]; done) | skip⟩)
    ·have h5d := bsT h5
     have g'34 := (jn @h5 (jn @h5d g'32))
     refine aa g'34 ?_
     refine aK (by kernel_rfl) (dw _ S.2.1 S.2.2 (p - b) (0 - d) (by omega) (by omega) (by omega) (by omega)) ?_
     refine aa g'34 ?_
     exact hQ _ _ (eG (b1 := .cells true 0 [.int .i64 (p - b), .int .i64 (0 - d), .int .i64 S.2.1, .int .i64 S.2.2]) (.inl rfl) hbel (by simp only [ABlk.bel, AV.bels, AV.bel, Bool.true_and]) (x := .bool (!(decide (S.2.1 * (0 - d) < (p - b) * S.2.2)))) (ag Tryz.results222) rfl ⟨by (try simp only [Int.zero_sub] at *); first | (simp [bR, bk, hd0, h3d, h4d, h5d, h1d]; done) | (simp [bR, bk, mxF, mnF, sbL, sbH, hd0, h3d, h4d, h5d, h1d]; done) | skip, by (try simp only [Int.zero_sub] at *); first | (simp [bR, bk, hd0, h3d, h4d, h5d, h1d]; done) | (simp [bR, bk, mxF, mnF, sbL, sbH, hd0, h3d, h4d, h5d, h1d]; done) | skip⟩)
   ·have h4d := bsT h4
    have g'35 := (jn @h4 (jn @h4d g'31))
    refine aa g'35 ?_
    refine aK (by kernel_rfl) (dw _ (p - a) (0 - d) S.2.1 S.2.2 (by omega) (by omega) (by omega) (by omega)) ?_
    refine aa g'35 ?_
    refine ai (fun h6 => ?_) (fun h6 => ?_)
    ·have h6d := bsT h6
     have g'36 := (jn @h6 (jn @h6d g'35))
     refine aa g'36 ?_
     refine aK (by kernel_rfl) (dw _ (p - a) (0 - d) S.1.1 S.1.2 (by omega) (by omega) (by omega) (by omega)) ?_
     refine aa g'36 ?_
     exact hQ _ _ (eG (b1 := .cells true 0 [.int .i64 S.1.1, .int .i64 S.1.2, .int .i64 (p - a), .int .i64 (0 - d)]) (.inl rfl) hbel (by simp only [ABlk.bel, AV.bels, AV.bel, Bool.true_and]) (x := .bool (!(decide ((p - a) * S.1.2 < S.1.1 * (0 - d))))) (ag Tryz.results222) rfl ⟨by (try simp only [Int.zero_sub] at *); first | (simp [bR, bk, hd0, h3d, h4d, h6d, h1d]; done) | (simp [bR, bk, mxF, mnF, sbL, sbH, hd0, h3d, h4d, h6d, h1d]; done) | skip, by (try simp only [Int.zero_sub] at *); first | (simp [bR, bk, hd0, h3d, h4d, h6d, h1d]; done) | (simp [bR, bk, mxF, mnF, sbL, sbH, hd0, h3d, h4d, h6d, h1d]; done) | skip⟩)
    ·have h6d := bsT h6
     have g'37 := (jn @h6 (jn @h6d g'35))
     refine aa g'37 ?_
     refine aK (by kernel_rfl) (dw _ S.2.1 S.2.2 S.1.1 S.1.2 (by omega) (by omega) (by omega) (by omega)) ?_
     refine aa g'37 ?_
     exact hQ _ _ (eG (b1 := .cells true 0 [.int .i64 S.1.1, .int .i64 S.1.2, .int .i64 S.2.1, .int .i64 S.2.2]) (.inl rfl) hbel (by simp only [ABlk.bel, AV.bels, AV.bel, Bool.true_and]) (x := .bool (!(decide (S.2.1 * S.1.2 < S.1.1 * S.2.2)))) (ag Tryz.results222) rfl ⟨by (try simp only [Int.zero_sub] at *); first | (simp [bR, bk, hd0, h3d, h4d, h6d, h1d]; done) | (simp [bR, bk, mxF, mnF, sbL, sbH, hd0, h3d, h4d, h6d, h1d]; done) | skip, by (try simp only [Int.zero_sub] at *); first | (simp [bR, bk, hd0, h3d, h4d, h6d, h1d]; done) | (simp [bR, bk, mxF, mnF, sbL, sbH, hd0, h3d, h4d, h6d, h1d]; done) | skip⟩)
  ·have h3d := bsT h3
   have g'38 := (jn @h3 (jn @h3d g'30))
   refine aa g'38 ?_
   refine aK (by kernel_rfl) (dw _ S.1.1 S.1.2 (a - p) d (by omega) (by omega) (by omega) (by omega)) ?_
   refine aa g'38 ?_
   refine ai (fun h7 => ?_) (fun h7 => ?_)
   ·have h7d := bsT h7
    have g'39 := (jn @h7 (jn @h7d g'38))
    refine aa g'39 ?_
    refine aK (by kernel_rfl) (dw _ (b - p) d S.2.1 S.2.2 (by omega) (by omega) (by omega) (by omega)) ?_
    refine aa g'39 ?_
    refine ai (fun h8 => ?_) (fun h8 => ?_)
    ·have h8d := bsT h8
     have g'40 := (jn @h8 (jn @h8d g'39))
     refine aa g'40 ?_
     refine aK (by kernel_rfl) (dw _ (b - p) d (a - p) d (by omega) (by omega) (by omega) (by omega)) ?_
     refine aa g'40 ?_
     exact hQ _ _ (eG (b1 := .cells true 0 [.int .i64 (a - p), .int .i64 d, .int .i64 (b - p), .int .i64 d]) (.inl rfl) hbel (by simp only [ABlk.bel, AV.bels, AV.bel, Bool.true_and]) (x := .bool (!(decide ((b - p) * d < (a - p) * d)))) (ag Tryz.results222) rfl ⟨by (try simp only [Int.zero_sub] at *); first | (simp [bR, bk, hd0, h3d, h7d, h8d, h1d]; done) | (simp [bR, bk, mxF, mnF, sbL, sbH, hd0, h3d, h7d, h8d, h1d]; done) | skip, by (try simp only [Int.zero_sub] at *); first | (simp [bR, bk, hd0, h3d, h7d, h8d, h1d]; done) | (simp [bR, bk, mxF, mnF, sbL, sbH, hd0, h3d, h7d, h8d, h1d]; done) | skip⟩)
    ·have h8d := bsT h8
     have g'41 := (jn @h8 (jn @h8d g'39))
     refine aa g'41 ?_
     refine aK (by kernel_rfl) (dw _ S.2.1 S.2.2 (a - p) d (by omega) (by omega) (by omega) (by omega)) ?_
     refine aa g'41 ?_
     exact hQ _ _ (eG (b1 := .cells true 0 [.int .i64 (a - p), .int .i64 d, .int .i64 S.2.1, .int .i64 S.2.2]) (.inl rfl) hbel (by simp only [ABlk.bel, AV.bels, AV.bel, Bool.true_and]) (x := .bool (!(decide (S.2.1 * d < (a - p) * S.2.2)))) (ag Tryz.results222) rfl ⟨by (try simp only [Int.zero_sub] at *); first | (simp [bR, bk, hd0, h3d, h7d, h8d, h1d]; done) | (simp [bR, bk, mxF, mnF, sbL, sbH, hd0, h3d, h7d, h8d, h1d]; done) | skip, by (try simp only [Int.zero_sub] at *); first | (simp [bR, bk, hd0, h3d, h7d, h8d, h1d]; done) | (simp [bR, bk, mxF, mnF, sbL, sbH, hd0, h3d, h7d, h8d, h1d]; done) | skip⟩)
   ·have h7d := bsT h7
    have g'42 := (jn @h7 (jn @h7d g'38))
    refine aa g'42 ?_
    refine aK (by kernel_rfl) (dw _ (b - p) d S.2.1 S.2.2 (by omega) (by omega) (by omega) (by omega)) ?_
    refine aa g'42 ?_
    refine ai (fun h9 => ?_) (fun h9 => ?_)
    ·have h9d := bsT h9
     have g'43 := (jn @h9 (jn @h9d g'42))
     refine aa g'43 ?_
     refine aK (by kernel_rfl) (dw _ (b - p) d S.1.1 S.1.2 (by omega) (by omega) (by omega) (by omega)) ?_
     refine aa g'43 ?_
     exact hQ _ _ (eG (b1 := .cells true 0 [.int .i64 S.1.1, .int .i64 S.1.2, .int .i64 (b - p), .int .i64 d]) (.inl rfl) hbel (by simp only [ABlk.bel, AV.bels, AV.bel, Bool.true_and]) (x := .bool (!(decide ((b - p) * S.1.2 < S.1.1 * d)))) (ag Tryz.results222) rfl ⟨by (try simp only [Int.zero_sub] at *); first | (simp [bR, bk, hd0, h3d, h7d, h9d, h1d]; done) | (simp [bR, bk, mxF, mnF, sbL, sbH, hd0, h3d, h7d, h9d, h1d]; done) | skip, by (try simp only [Int.zero_sub] at *); first | (simp [bR, bk, hd0, h3d, h7d, h9d, h1d]; done) | (simp [bR, bk, mxF, mnF, sbL, sbH, hd0, h3d, h7d, h9d, h1d]; done) | skip⟩)
    ·have h9d := bsT h9
     have g'44 := (jn @h9 (jn @h9d g'42))
     refine aa g'44 ?_
     refine aK (by kernel_rfl) (dw _ S.2.1 S.2.2 S.1.1 S.1.2 (by omega) (by omega) (by omega) (by omega)) ?_
     refine aa g'44 ?_
     exact hQ _ _ (eG (b1 := .cells true 0 [.int .i64 S.1.1, .int .i64 S.1.2, .int .i64 S.2.1, .int .i64 S.2.2]) (.inl rfl) hbel (by simp only [ABlk.bel, AV.bels, AV.bel, Bool.true_and]) (x := .bool (!(decide (S.2.1 * S.1.2 < S.1.1 * S.2.2)))) (ag Tryz.results222) rfl ⟨by (try simp only [Int.zero_sub] at *); first | (simp [bR, bk, hd0, h3d, h7d, h9d, h1d]; done) | (simp [bR, bk, mxF, mnF, sbL, sbH, hd0, h3d, h7d, h9d, h1d]; done) | skip, by (try simp only [Int.zero_sub] at *); first | (simp [bR, bk, hd0, h3d, h7d, h9d, h1d]; done) | (simp [bR, bk, mxF, mnF, sbL, sbH, hd0, h3d, h7d, h9d, h1d]; done) | skip⟩)
theorem slab4_c (H : ac) (A B C D : ABlk) (S : Fr2 × Fr2) (p d a b : Int) (hS : bdSp S) (hp : -2097152 ≤ p ∧ p ≤ 2097152) (hd : -67108864 ≤ d ∧ d ≤ 67108864) (ha : -2097152 ≤ a ∧ a ≤ 2097152) (hb : -2097152 ≤ b ∧ b ≤ 2097152) :
  ACalls Tryz.prog 222 [.ptr (some (H.length + 4, 0)), .int .i64 p, .int .i64 d, .int .i64 a, .int .i64 b] (H ++ [A, B, C, D, .cells true 0 [.int .i64 S.1.1, .int .i64 S.1.2, .int .i64 S.2.1, .int .i64 S.2.2]]) (fun v H' => v = .bool (bR S p d a b) ∧ H' = H ++ [A, B, C, D, .cells true 0 [.int .i64 (bk S p d a b).1.1, .int .i64 (bk S p d a b).1.2, .int .i64 (bk S p d a b).2.1, .int .i64 (bk S p d a b).2.2]]) := by
 have h := slab_c (H ++ [A, B, C, D]) S p d a b hS hp hd ha hb
 simpa only [List.append_assoc, List.cons_append, List.nil_append, List.length_append, List.length_cons, List.length_nil, Nat.zero_add, Nat.reduceAdd] using h
theorem rj (H : ac) (px : Int) (py : Int) (vx : Int) (vy : Int) (vd : Int) (x0 : Int) (y0 : Int) (x1 : Int) (y1 : Int) : ACalls Tryz.prog 190 [.agg [.int .i64 px, .int .i64 py], .agg [.int .i64 vx, .int .i64 vy, .int .i64 vd], .agg [.int .i64 x0, .int .i64 y0, .int .i64 x1, .int .i64 y1]] H (fun v H' => v = .tup [.agg [.int .i64 ((thV px py vx vy vd x0 y0 x1 y1).1.1), .int .i64 ((thV px py vx vy vd x0 y0 x1 y1).1.2), .int .i64 ((thV px py vx vy vd x0 y0 x1 y1).2.1), .int .i64 ((thV px py vx vy vd x0 y0 x1 y1).2.2)], .bool (thO px py vx vy vd x0 y0 x1 y1)] ∧ H' = H) := by
 refine AcT true Tryz.func190 ?_; intro hbel Q hQ
 refine aY ?_
 refine af (by kernel_rfl) (svpt_c _ px py) ?_
 refine aY ?_
 refine aj (fun h1 => ?_) (fun h1 => ?_)
 ·have h1d := bsT h1
  have hvP := h1d
  have hvp := dj.1 h1d
  have g'45 := (jn @h1 @h1d)
  refine aa g'45 ?_
  refine af (by kernel_rfl) (svv_c _ vx vy vd) ?_
  refine aa g'45 ?_
  refine aj (fun h2 => ?_) (fun h2 => ?_)
  ·have h2d := bsT h2
   have hvV := h2d
   have hvv := bh.1 h2d
   have g'46 := (jn @h2 (jn @h2d g'45))
   refine aa g'46 ?_
   refine af (by kernel_rfl) (mW _ x0 y0 x1 y1) ?_
   refine aa g'46 ?_
   refine ai (fun h3 => ?_) (fun h3 => ?_)
   ·have h3d := bsT h3
    have hfinO : thO px py vx vy vd x0 y0 x1 y1 = false := by simp [thO, thG, h3d]
    have g'47 := (jn @h3 (jn @h3d g'46))
    refine aa g'47 ?_
    exact hQ _ _ (ae (.inl rfl) hbel (x := .tup [.agg [.int .i64 0, .int .i64 0, .int .i64 0, .int .i64 0], .bool false]) (ag Tryz.results190) rfl ⟨by unfold thV; rw [hfinO]; rfl, rfl⟩)
   ·have h3d := bsT h3
    have hvr := bN.1 h3d
    have hgT : thG px py vx vy vd x0 y0 x1 y1 = true := cA.2 ⟨hvP, hvV, h3d⟩
    have hb0 := thS0_bd
    have hb1 := (kh hgT).1
    have g'48 := (jn @h3 (jn @h3d g'46))
    refine aa g'48 ?_
    refine af (by kernel_rfl) (slab4_c _ _ _ _ _ eI px vx x0 x1 (by assumption) (by omega) (by omega) (by omega) (by omega)) ?_
    refine aa g'48 ?_
    refine aj (fun h4 => ?_) (fun h4 => ?_)
    ·have h4d := bsT h4
     have hs1 := h4d
     have g'49 := (jn @h4 (jn @h4d g'48))
     refine aa g'49 ?_
     refine af (by kernel_rfl) (slab4_c _ _ _ _ _ (bk eI px vx x0 x1) py vy y0 y1 (by assumption) (by omega) (by omega) (by omega) (by omega)) ?_
     refine aa g'49 ?_
     refine ai (fun h5 => ?_) (fun h5 => ?_)
     ·have h5d := bsT h5
      have hfinO : thO px py vx vy vd x0 y0 x1 y1 = false := by simp [thO, thB, h5d]
      have g'50 := (jn @h5 (jn @h5d g'49))
      refine aa g'50 ?_
      exact hQ _ _ (ae (.inl rfl) hbel (x := .tup [.agg [.int .i64 0, .int .i64 0, .int .i64 0, .int .i64 0], .bool false]) (ag Tryz.results190) rfl ⟨by unfold thV; rw [hfinO]; rfl, rfl⟩)
     ·have h5d := bsT h5
      have hfinO : thO px py vx vy vd x0 y0 x1 y1 = true := by unfold thO thB; rw [hgT, hs1, h5d]; rfl
      have g'51 := (jn @h5 (jn @h5d g'49))
      refine aa g'51 ?_
      exact hQ _ _ (ae (.inl rfl) hbel (x := .tup [.agg [.int .i64 ((bk (bk eI px vx x0 x1) py vy y0 y1).1.1), .int .i64 ((bk (bk eI px vx x0 x1) py vy y0 y1).1.2), .int .i64 ((bk (bk eI px vx x0 x1) py vy y0 y1).2.1), .int .i64 ((bk (bk eI px vx x0 x1) py vy y0 y1).2.2)], .bool true]) (ag Tryz.results190) rfl ⟨by unfold thV; rw [hfinO]; rfl, rfl⟩)
    ·have h4d := bsT h4
     have hfinO : thO px py vx vy vd x0 y0 x1 y1 = false := by simp [thO, thB, h4d]
     have g'52 := (jn @h4 (jn @h4d g'48))
     refine aa g'52 ?_
     exact hQ _ _ (ae (.inl rfl) hbel (x := .tup [.agg [.int .i64 0, .int .i64 0, .int .i64 0, .int .i64 0], .bool false]) (ag Tryz.results190) rfl ⟨by unfold thV; rw [hfinO]; rfl, rfl⟩)
  ·have h2d := bsT h2
   have hfinO : thO px py vx vy vd x0 y0 x1 y1 = false := by simp [thO, thG, h2d]
   have g'53 := (jn @h2 (jn @h2d g'45))
   refine aa g'53 ?_
   exact hQ _ _ (ae (.inl rfl) hbel (x := .tup [.agg [.int .i64 0, .int .i64 0, .int .i64 0, .int .i64 0], .bool false]) (ag Tryz.results190) rfl ⟨by unfold thV; rw [hfinO]; rfl, rfl⟩)
 ·have h1d := bsT h1
  have hfinO : thO px py vx vy vd x0 y0 x1 y1 = false := by simp [thO, thG, h1d]
  have g'54 := (jn @h1 @h1d)
  refine aa g'54 ?_
  exact hQ _ _ (ae (.inl rfl) hbel (x := .tup [.agg [.int .i64 0, .int .i64 0, .int .i64 0, .int .i64 0], .bool false]) (ag Tryz.results190) rfl ⟨by unfold thV; rw [hfinO]; rfl, rfl⟩)
theorem ki (H : ac) (px py vx vy vd x0 y0 x1 y1 : Int) (h : thO px py vx vy vd x0 y0 x1 y1 = true) : ACalls Tryz.prog 190 [.agg [.int .i64 px, .int .i64 py], .agg [.int .i64 vx, .int .i64 vy, .int .i64 vd], .agg [.int .i64 x0, .int .i64 y0, .int .i64 x1, .int .i64 y1]] H (fun v H' => v = .tup [.agg [.int .i64 (thS px py vx vy x0 y0 x1 y1).1.1, .int .i64 (thS px py vx vy x0 y0 x1 y1).1.2, .int .i64 (thS px py vx vy x0 y0 x1 y1).2.1, .int .i64 (thS px py vx vy x0 y0 x1 y1).2.2], .bool true] ∧ H' = H) := by
 have q := rj H px py vx vy vd x0 y0 x1 y1
 simp only [thV, h, if_true] at q; exact q
theorem rl (H : ac) (px py vx vy vd x0 y0 x1 y1 : Int) (h : thO px py vx vy vd x0 y0 x1 y1 = false) : ACalls Tryz.prog 190 [.agg [.int .i64 px, .int .i64 py], .agg [.int .i64 vx, .int .i64 vy, .int .i64 vd], .agg [.int .i64 x0, .int .i64 y0, .int .i64 x1, .int .i64 y1]] H (fun v H' => v = .tup [.agg [.int .i64 0, .int .i64 0, .int .i64 0, .int .i64 0], .bool false] ∧ H' = H) := by
 have q := rj H px py vx vy vd x0 y0 x1 y1
 simp only [thV, h, if_false, Bool.false_eq_true] at q; exact q
theorem iA (H : ac) (px : Int) (py : Int) (vx : Int) (vy : Int) (vd : Int) (lo : Int) (hi : Int) (x0 : Int) (y0 : Int) (x1 : Int) (y1 : Int) : ACalls Tryz.prog 213 [.agg [.int .i64 px, .int .i64 py], .agg [.int .i64 vx, .int .i64 vy, .int .i64 vd], .int .i64 lo, .int .i64 hi, .agg [.int .i64 x0, .int .i64 y0, .int .i64 x1, .int .i64 y1]] H (fun v H' => v = .bool (dD px py vx vy vd lo hi x0 y0 x1 y1) ∧ H' = H) := by
 refine AcT true Tryz.func213 ?_; intro hbel Q hQ
 refine aY ?_
 refine aj (fun h1 => ?_) (fun h1 => ?_)
 ·have h1d := bsT h1
  have g'55 := (jn @h1 @h1d)
  refine aa g'55 ?_
  refine aj (fun h2 => ?_) (fun h2 => ?_)
  ·have h2d := bsT h2
   have g'56 := (jn @h2 (jn @h2d g'55))
   refine aa g'56 ?_
   refine ai (fun h3 => ?_) (fun h3 => ?_)
   ·have h3d := bsT h3
    have g'57 := (jn @h3 (jn @h3d g'56))
    refine aa g'57 ?_
    exact hQ _ _ (ae (.inl rfl) hbel (x := .bool false) (ag Tryz.results213) rfl ⟨by first | (rw [hfinN]; done) | (refine congrArg AV.bool ?_; rw [Bool.eq_iff_iff]; unfold dD ga; simp only [Bool.and_eq_true, decide_eq_true_eq]; first | (simp only [hfinG, hfinB, true_and]; omega) | exact ⟨fun e => (by cases e), fun e => (by omega)⟩), rfl⟩)
   ·have h3d := bsT h3
    have g'58 := (jn @h3 (jn @h3d g'56))
    refine aa g'58 ?_
    rcases Bool.eq_false_or_eq_true (thO px py vx vy vd x0 y0 x1 y1) with h4 | h4
    ·have h4d := h4
     have hgT := iP h4d
     have hbS := (kh hgT.1).2
     obtain ⟨⟨hb1, hb2⟩, hb3, hb4⟩ := hbS
     have hvT := bh.1 (cA.1 hgT.1).2.1
     have hm1 := bS (a := lo) (b := (thS px py vx vy x0 y0 x1 y1).2.2) (A := 65536) (B := 67108864) (by omega) (by omega)
     have hm2 := bS (a := (thS px py vx vy x0 y0 x1 y1).2.1) (b := vd) (A := 8388608) (B := 67108864) (by omega) (by omega)
     have hm3 := bS (a := (thS px py vx vy x0 y0 x1 y1).1.1) (b := vd) (A := 8388608) (B := 67108864) (by omega) (by omega)
     have hm4 := bS (a := hi) (b := (thS px py vx vy x0 y0 x1 y1).1.2) (A := 65536) (B := 67108864) (by omega) (by omega)
     have hfinG := hgT.1
     have hfinB := hgT.2
     refine af (by kernel_rfl) (ki _ px py vx vy vd x0 y0 x1 y1 (by assumption)) ?_
     have g'59 := (jn @h4 (jn @h4d g'58))
     refine aa g'59 ?_
     refine aj (fun h5 => ?_) (fun h5 => ?_)
     ·have h5d := bsT h5
      have g'60 := (jn @h5 (jn @h5d g'59))
      refine aa g'60 ?_
      exact hQ _ _ (ae (.inl rfl) hbel (x := .bool (decide ((((thS px py vx vy x0 y0 x1 y1).1.1) * vd) ≤ (hi * ((thS px py vx vy x0 y0 x1 y1).1.2))))) (ag Tryz.results213) rfl ⟨by first | (rw [hfinN]; done) | (refine congrArg AV.bool ?_; rw [Bool.eq_iff_iff]; unfold dD ga; simp only [Bool.and_eq_true, decide_eq_true_eq]; first | (simp only [hfinG, hfinB, true_and]; omega) | exact ⟨fun e => (by cases e), fun e => (by omega)⟩), rfl⟩)
     ·have h5d := bsT h5
      have g'61 := (jn @h5 (jn @h5d g'59))
      refine aa g'61 ?_
      exact hQ _ _ (ae (.inl rfl) hbel (x := .bool false) (ag Tryz.results213) rfl ⟨by first | (rw [hfinN]; done) | (refine congrArg AV.bool ?_; rw [Bool.eq_iff_iff]; unfold dD ga; simp only [Bool.and_eq_true, decide_eq_true_eq]; first | (simp only [hfinG, hfinB, true_and]; omega) | exact ⟨fun e => (by cases e), fun e => (by omega)⟩), rfl⟩)
    ·have h4d := h4
     have hfinN := (thO_me (lo := lo) (hi := hi) h4d).1
     refine af (by kernel_rfl) (rl _ px py vx vy vd x0 y0 x1 y1 (by assumption)) ?_
     have g'62 := (jn @h4 (jn @h4d g'58))
     refine aa g'62 ?_
     exact hQ _ _ (ae (.inl rfl) hbel (x := .bool false) (ag Tryz.results213) rfl ⟨by first | (rw [hfinN]; done) | (refine congrArg AV.bool ?_; rw [Bool.eq_iff_iff]; unfold dD ga; simp only [Bool.and_eq_true, decide_eq_true_eq]; first | (simp only [hfinG, hfinB, true_and]; omega) | exact ⟨fun e => (by cases e), fun e => (by omega)⟩), rfl⟩)
  ·have h2d := bsT h2
   have g'63 := (jn @h2 (jn @h2d g'55))
   refine aa g'63 ?_
   exact hQ _ _ (ae (.inl rfl) hbel (x := .bool false) (ag Tryz.results213) rfl ⟨by first | (rw [hfinN]; done) | (refine congrArg AV.bool ?_; rw [Bool.eq_iff_iff]; unfold dD ga; simp only [Bool.and_eq_true, decide_eq_true_eq]; first | (simp only [hfinG, hfinB, true_and]; omega) | exact ⟨fun e => (by cases e), fun e => (by omega)⟩), rfl⟩)
 ·have h1d := bsT h1
  have g'64 := (jn @h1 @h1d)
  refine aa g'64 ?_
  exact hQ _ _ (ae (.inl rfl) hbel (x := .bool false) (ag Tryz.results213) rfl ⟨by first | (rw [hfinN]; done) | (refine congrArg AV.bool ?_; rw [Bool.eq_iff_iff]; unfold dD ga; simp only [Bool.and_eq_true, decide_eq_true_eq]; first | (simp only [hfinG, hfinB, true_and]; omega) | exact ⟨fun e => (by cases e), fun e => (by omega)⟩), rfl⟩)
theorem eo (H : ac) (px : Int) (py : Int) (vx : Int) (vy : Int) (vd : Int) (hi : Int) (x0 : Int) (y0 : Int) (x1 : Int) (y1 : Int) : ACalls Tryz.prog 197 [.agg [.int .i64 px, .int .i64 py], .agg [.int .i64 vx, .int .i64 vy, .int .i64 vd], .int .i64 hi, .agg [.int .i64 x0, .int .i64 y0, .int .i64 x1, .int .i64 y1]] H (fun v H' => v = .bool (c6 px py vx vy vd hi x0 y0 x1 y1) ∧ H' = H) := by
 refine AcT true Tryz.func197 ?_; intro hbel Q hQ
 refine aY ?_
 refine aj (fun h1 => ?_) (fun h1 => ?_)
 ·have h1d := bsT h1
  have g'65 := (jn @h1 @h1d)
  refine aa g'65 ?_
  refine ai (fun h2 => ?_) (fun h2 => ?_)
  ·have h2d := bsT h2
   have g'66 := (jn @h2 (jn @h2d g'65))
   refine aa g'66 ?_
   exact hQ _ _ (ae (.inl rfl) hbel (x := .bool false) (ag Tryz.results197) rfl ⟨by first | (rw [hfinN]; done) | (refine congrArg AV.bool ?_; rw [Bool.eq_iff_iff]; unfold c6 bfrB; simp only [Bool.and_eq_true, decide_eq_true_eq]; first | (simp only [hfinG, hfinB, true_and]; omega) | exact ⟨fun e => (by cases e), fun e => (by omega)⟩), rfl⟩)
  ·have h2d := bsT h2
   have g'67 := (jn @h2 (jn @h2d g'65))
   refine aa g'67 ?_
   rcases Bool.eq_false_or_eq_true (thO px py vx vy vd x0 y0 x1 y1) with h3 | h3
   ·have h3d := h3
    have hgT := iP h3d
    have hbS := (kh hgT.1).2
    obtain ⟨⟨hb1, hb2⟩, hb3, hb4⟩ := hbS
    have hvT := bh.1 (cA.1 hgT.1).2.1
    have hm3 := bS (a := (thS px py vx vy x0 y0 x1 y1).1.1) (b := vd) (A := 8388608) (B := 67108864) (by omega) (by omega)
    have hm4 := bS (a := hi) (b := (thS px py vx vy x0 y0 x1 y1).1.2) (A := 65536) (B := 67108864) (by omega) (by omega)
    have hfinG := hgT.1
    have hfinB := hgT.2
    refine af (by kernel_rfl) (ki _ px py vx vy vd x0 y0 x1 y1 (by assumption)) ?_
    have g'68 := (jn @h3 (jn @h3d g'67))
    refine aa g'68 ?_
    exact hQ _ _ (ae (.inl rfl) hbel (x := .bool (decide ((((thS px py vx vy x0 y0 x1 y1).1.1) * vd) < (hi * ((thS px py vx vy x0 y0 x1 y1).1.2))))) (ag Tryz.results197) rfl ⟨by first | (rw [hfinN]; done) | (refine congrArg AV.bool ?_; rw [Bool.eq_iff_iff]; unfold c6 bfrB; simp only [Bool.and_eq_true, decide_eq_true_eq]; first | (simp only [hfinG, hfinB, true_and]; omega) | exact ⟨fun e => (by cases e), fun e => (by omega)⟩), rfl⟩)
   ·have h3d := h3
    have hfinN := (thO_me (lo := 0) (hi := hi) h3d).2
    refine af (by kernel_rfl) (rl _ px py vx vy vd x0 y0 x1 y1 (by assumption)) ?_
    have g'69 := (jn @h3 (jn @h3d g'67))
    refine aa g'69 ?_
    exact hQ _ _ (ae (.inl rfl) hbel (x := .bool false) (ag Tryz.results197) rfl ⟨by first | (rw [hfinN]; done) | (refine congrArg AV.bool ?_; rw [Bool.eq_iff_iff]; unfold c6 bfrB; simp only [Bool.and_eq_true, decide_eq_true_eq]; first | (simp only [hfinG, hfinB, true_and]; omega) | exact ⟨fun e => (by cases e), fun e => (by omega)⟩), rfl⟩)
 ·have h1d := bsT h1
  have g'70 := (jn @h1 @h1d)
  refine aa g'70 ?_
  exact hQ _ _ (ae (.inl rfl) hbel (x := .bool false) (ag Tryz.results197) rfl ⟨by first | (rw [hfinN]; done) | (refine congrArg AV.bool ?_; rw [Bool.eq_iff_iff]; unfold c6 bfrB; simp only [Bool.and_eq_true, decide_eq_true_eq]; first | (simp only [hfinG, hfinB, true_and]; omega) | exact ⟨fun e => (by cases e), fun e => (by omega)⟩), rfl⟩)
theorem lE (H : ac) (a0 : Int) (b0 : Int) (a1 : Int) (b1 : Int) (x0 : Int) (y0 : Int) (x1 : Int) (y1 : Int) (kba0 : -1099511627776 ≤ a0 ∧ a0 ≤ 1099511627776) (kbb0 : -1099511627776 ≤ b0 ∧ b0 ≤ 1099511627776) (kba1 : -1099511627776 ≤ a1 ∧ a1 ≤ 1099511627776) (kbb1 : -1099511627776 ≤ b1 ∧ b1 ≤ 1099511627776) (kbx0 : -1099511627776 ≤ x0 ∧ x0 ≤ 1099511627776) (kby0 : -1099511627776 ≤ y0 ∧ y0 ≤ 1099511627776) (kbx1 : -1099511627776 ≤ x1 ∧ x1 ≤ 1099511627776) (kby1 : -1099511627776 ≤ y1 ∧ y1 ≤ 1099511627776) : ACalls Tryz.prog 212 [.agg [.int .i64 a0, .int .i64 b0, .int .i64 a1, .int .i64 b1], .agg [.int .i64 x0, .int .i64 y0, .int .i64 x1, .int .i64 y1]] H (fun v H' => v = .tup [.agg [.int .i64 (mkV (dS a0 b0 a1 b1 x0 y0 x1 y1) (a0 - x1)), .int .i64 (mkV (dS a0 b0 a1 b1 x0 y0 x1 y1) (b0 - y1)), .int .i64 (mkV (dS a0 b0 a1 b1 x0 y0 x1 y1) (a1 - x0)), .int .i64 (mkV (dS a0 b0 a1 b1 x0 y0 x1 y1) (b1 - y0))], .bool (dS a0 b0 a1 b1 x0 y0 x1 y1)] ∧ H' = H) := by
 refine AcT true Tryz.func212 ?_; intro hbel Q hQ
 refine aY ?_
 refine af (by kernel_rfl) (mW _ a0 b0 a1 b1) ?_
 refine aY ?_
 refine aj (fun h1 => ?_) (fun h1 => ?_)
 ·have h1d := bsT h1
  have g'71 := (jn @h1 @h1d)
  refine aa g'71 ?_
  refine af (by kernel_rfl) (mW _ x0 y0 x1 y1) ?_
  refine aa g'71 ?_
  refine aj (fun h2 => ?_) (fun h2 => ?_)
  ·have h2d := bsT h2
   have g'72 := (jn @h2 (jn @h2d g'71))
   refine aa g'72 ?_
   refine af (by kernel_rfl) (mW _ (a0 - x1) (b0 - y1) (a1 - x0) (b1 - y0)) ?_
   refine aa g'72 ?_
   refine ai (fun h3 => ?_) (fun h3 => ?_)
   ·have h3d := bsT h3
    have g'73 := (jn @h3 (jn @h3d g'72))
    refine aa g'73 ?_
    exact hQ _ _ (ae (.inl rfl) hbel (x := .tup [.agg [.int .i64 0, .int .i64 0, .int .i64 0, .int .i64 0], .bool false]) (ag Tryz.results212) rfl ⟨by simp [dS, mkV, h1d, h2d, h3d], rfl⟩)
   ·have h3d := bsT h3
    have g'74 := (jn @h3 (jn @h3d g'72))
    refine aa g'74 ?_
    exact hQ _ _ (ae (.inl rfl) hbel (x := .tup [.agg [.int .i64 (a0 - x1), .int .i64 (b0 - y1), .int .i64 (a1 - x0), .int .i64 (b1 - y0)], .bool true]) (ag Tryz.results212) rfl ⟨by simp [dS, mkV, h1d, h2d, h3d], rfl⟩)
  ·have h2d := bsT h2
   have g'75 := (jn @h2 (jn @h2d g'71))
   refine aa g'75 ?_
   exact hQ _ _ (ae (.inl rfl) hbel (x := .tup [.agg [.int .i64 0, .int .i64 0, .int .i64 0, .int .i64 0], .bool false]) (ag Tryz.results212) rfl ⟨by simp [dS, mkV, h1d, h2d], rfl⟩)
 ·have h1d := bsT h1
  have g'76 := (jn @h1 @h1d)
  refine aa g'76 ?_
  exact hQ _ _ (ae (.inl rfl) hbel (x := .tup [.agg [.int .i64 0, .int .i64 0, .int .i64 0, .int .i64 0], .bool false]) (ag Tryz.results212) rfl ⟨by simp [dS, mkV, h1d], rfl⟩)
open Go.RowKit
theorem hvv_c (H : ac) (vx : Int) (vy : Int) (vd : Int) : ACalls Tryz.prog 192 [.agg [.int .i64 vx, .int .i64 vy, .int .i64 vd]] H (fun v H' => v = .bool (cZ vx vy vd) ∧ H' = H) := by
 refine AcT true Tryz.func192 ?_; intro hbel Q hQ
 refine aY ?_
 refine aj (fun h1 => ?_) (fun h1 => ?_)
 ·have h1d := bsT h1
  have g'1 := (jn @h1 @h1d)
  refine aa g'1 ?_
  refine aj (fun h2 => ?_) (fun h2 => ?_)
  ·have h2d := bsT h2
   have g'2 := (jn @h2 (jn @h2d g'1))
   refine aa g'2 ?_
   refine aj (fun h3 => ?_) (fun h3 => ?_)
   ·have h3d := bsT h3
    have g'3 := (jn @h3 (jn @h3d g'2))
    refine aa g'3 ?_
    refine aj (fun h4 => ?_) (fun h4 => ?_)
    ·have h4d := bsT h4
     have g'4 := (jn @h4 (jn @h4d g'3))
     refine aa g'4 ?_
     refine aj (fun h5 => ?_) (fun h5 => ?_)
     ·have h5d := bsT h5
      have g'5 := (jn @h5 (jn @h5d g'4))
      refine aa g'5 ?_
      refine ai (fun h6 => ?_) (fun h6 => ?_)
      ·have h6d := bsT h6
       have g'6 := (jn @h6 (jn @h6d g'5))
       refine aa g'6 ?_
       exact hQ _ _ (ae (.inl rfl) hbel (x := .bool false) (ag Tryz.results192) rfl ⟨by first | (refine congrArg AV.bool ?_; rw [Bool.eq_iff_iff, bh, beq_iff_eq]; exact ⟨fun e => ⟨⟨by omega, by omega⟩, ⟨by omega, by omega⟩, ⟨by omega, by omega⟩, e⟩, fun e => e.2.2.2⟩) | (refine congrArg AV.bool ?_; rw [Bool.eq_iff_iff, bh]; exact ⟨fun e => (by cases e), fun k => (by omega)⟩), rfl⟩)
      ·have h6d := bsT h6
       have hm1 := bS (a := vx) (b := vx) (A := 67108864) (B := 67108864) (by omega) (by omega)
       have hm2 := bS (a := vy) (b := vy) (A := 67108864) (B := 67108864) (by omega) (by omega)
       have hm3 := bS (a := vd) (b := vd) (A := 67108864) (B := 67108864) (by omega) (by omega)
       have g'7 := (jn @h6 (jn @h6d g'5))
       refine aa g'7 ?_
       exact hQ _ _ (ae (.inl rfl) hbel (x := .bool (((vx * vx) + (vy * vy)) == (vd * vd))) (ag Tryz.results192) rfl ⟨by first | (refine congrArg AV.bool ?_; rw [Bool.eq_iff_iff, bh, beq_iff_eq]; exact ⟨fun e => ⟨⟨by omega, by omega⟩, ⟨by omega, by omega⟩, ⟨by omega, by omega⟩, e⟩, fun e => e.2.2.2⟩) | (refine congrArg AV.bool ?_; rw [Bool.eq_iff_iff, bh]; exact ⟨fun e => (by cases e), fun k => (by omega)⟩), rfl⟩)
     ·have h5d := bsT h5
      have g'8 := (jn @h5 (jn @h5d g'4))
      refine aa g'8 ?_
      exact hQ _ _ (ae (.inl rfl) hbel (x := .bool false) (ag Tryz.results192) rfl ⟨by first | (refine congrArg AV.bool ?_; rw [Bool.eq_iff_iff, bh, beq_iff_eq]; exact ⟨fun e => ⟨⟨by omega, by omega⟩, ⟨by omega, by omega⟩, ⟨by omega, by omega⟩, e⟩, fun e => e.2.2.2⟩) | (refine congrArg AV.bool ?_; rw [Bool.eq_iff_iff, bh]; exact ⟨fun e => (by cases e), fun k => (by omega)⟩), rfl⟩)
    ·have h4d := bsT h4
     have g'9 := (jn @h4 (jn @h4d g'3))
     refine aa g'9 ?_
     exact hQ _ _ (ae (.inl rfl) hbel (x := .bool false) (ag Tryz.results192) rfl ⟨by first | (refine congrArg AV.bool ?_; rw [Bool.eq_iff_iff, bh, beq_iff_eq]; exact ⟨fun e => ⟨⟨by omega, by omega⟩, ⟨by omega, by omega⟩, ⟨by omega, by omega⟩, e⟩, fun e => e.2.2.2⟩) | (refine congrArg AV.bool ?_; rw [Bool.eq_iff_iff, bh]; exact ⟨fun e => (by cases e), fun k => (by omega)⟩), rfl⟩)
   ·have h3d := bsT h3
    have g'10 := (jn @h3 (jn @h3d g'2))
    refine aa g'10 ?_
    exact hQ _ _ (ae (.inl rfl) hbel (x := .bool false) (ag Tryz.results192) rfl ⟨by first | (refine congrArg AV.bool ?_; rw [Bool.eq_iff_iff, bh, beq_iff_eq]; exact ⟨fun e => ⟨⟨by omega, by omega⟩, ⟨by omega, by omega⟩, ⟨by omega, by omega⟩, e⟩, fun e => e.2.2.2⟩) | (refine congrArg AV.bool ?_; rw [Bool.eq_iff_iff, bh]; exact ⟨fun e => (by cases e), fun k => (by omega)⟩), rfl⟩)
  ·have h2d := bsT h2
   have g'11 := (jn @h2 (jn @h2d g'1))
   refine aa g'11 ?_
   exact hQ _ _ (ae (.inl rfl) hbel (x := .bool false) (ag Tryz.results192) rfl ⟨by first | (refine congrArg AV.bool ?_; rw [Bool.eq_iff_iff, bh, beq_iff_eq]; exact ⟨fun e => ⟨⟨by omega, by omega⟩, ⟨by omega, by omega⟩, ⟨by omega, by omega⟩, e⟩, fun e => e.2.2.2⟩) | (refine congrArg AV.bool ?_; rw [Bool.eq_iff_iff, bh]; exact ⟨fun e => (by cases e), fun k => (by omega)⟩), rfl⟩)
 ·have h1d := bsT h1
  have g'12 := (jn @h1 @h1d)
  refine aa g'12 ?_
  exact hQ _ _ (ae (.inl rfl) hbel (x := .bool false) (ag Tryz.results192) rfl ⟨by first | (refine congrArg AV.bool ?_; rw [Bool.eq_iff_iff, bh, beq_iff_eq]; exact ⟨fun e => ⟨⟨by omega, by omega⟩, ⟨by omega, by omega⟩, ⟨by omega, by omega⟩, e⟩, fun e => e.2.2.2⟩) | (refine congrArg AV.bool ?_; rw [Bool.eq_iff_iff, bh]; exact ⟨fun e => (by cases e), fun k => (by omega)⟩), rfl⟩)
theorem hturn_c (H : ac) (a : Vec) (b : Vec) (ha : fm a = true) (hb : fm b = true) : ACalls Tryz.prog 158 [.agg [.int .i64 a.1, .int .i64 a.2.1, .int .i64 a.2.2], .agg [.int .i64 b.1, .int .i64 b.2.1, .int .i64 b.2.2]] H (fun v H' => v = .tup [.agg [.int .i64 ((gJ a b).1), .int .i64 ((gJ a b).2.1), .int .i64 ((gJ a b).2.2)], .int .i64 0] ∧ H' = H) := by
 have hka := dq.1 ha
 have hkb := dq.1 hb
 have hBa := vecOK_B ha
 have hBb := vecOK_B hb
 have hT := (bh.1 (tur_ok ha hb)).1
 unfold gJ at hT
 have hm0 := bS (a := a.1) (b := b.1) (A := 8065) (B := 8065) (by omega) (by omega)
 have hm1 := bS (a := a.2.1) (b := b.2.1) (A := 8065) (B := 8065) (by omega) (by omega)
 have hm2 := bS (a := a.1) (b := b.2.1) (A := 8065) (B := 8065) (by omega) (by omega)
 have hm3 := bS (a := a.2.1) (b := b.1) (A := 8065) (B := 8065) (by omega) (by omega)
 have hm4 := bS (a := a.2.2) (b := b.2.2) (A := 8065) (B := 8065) (by omega) (by omega)
 have hpd : 0 < a.2.2 * b.2.2 := Int.mul_pos (by omega) (by omega)
 have hnr : decide (67108864 < (fh (a.1 * b.1 - a.2.1 * b.2.1) (a.1 * b.2.1 + a.2.1 * b.1) (a.2.2 * b.2.2)).2.2) = false := decide_eq_false (by omega)
 refine AcT true Tryz.func158 ?_; intro hbel Q hQ
 have g'15 := (jn @hBa (jn @hBb @hnr))
 refine aa g'15 ?_
 refine af (by kernel_rfl) (hvv_c _ a.1 a.2.1 a.2.2) ?_
 refine aa g'15 ?_
 refine af (by kernel_rfl) (hvv_c _ b.1 b.2.1 b.2.2) ?_
 refine aa g'15 ?_
 refine af (by kernel_rfl) (low_c _ ((a.1 * b.1) - (a.2.1 * b.2.1)) ((a.1 * b.2.1) + (a.2.1 * b.1)) (a.2.2 * b.2.2) (by omega) (by omega) (by omega) (by omega)) ?_
 refine aa g'15 ?_
 exact hQ _ _ (ae (.inl rfl) hbel (x := .tup [.agg [.int .i64 ((fh ((a.1 * b.1) - (a.2.1 * b.2.1)) ((a.1 * b.2.1) + (a.2.1 * b.1)) (a.2.2 * b.2.2)).1), .int .i64 ((fh ((a.1 * b.1) - (a.2.1 * b.2.1)) ((a.1 * b.2.1) + (a.2.1 * b.1)) (a.2.2 * b.2.2)).2.1), .int .i64 ((fh ((a.1 * b.1) - (a.2.1 * b.2.1)) ((a.1 * b.2.1) + (a.2.1 * b.1)) (a.2.2 * b.2.2)).2.2)], .int .i64 0]) (ag Tryz.results158) rfl ⟨rfl, rfl⟩)
theorem dz (H : ac) (h : Int) (m : Int) : ACalls Tryz.prog 116 [.int .i64 h, .int .i64 m] H (fun v H' => v = .agg [.int .i64 ((aZ h m).1), .int .i64 ((aZ h m).2.1), .int .i64 ((aZ h m).2.2)] ∧ H' = H) := by
 refine AcT true Tryz.func116 ?_; intro hbel Q hQ
 refine aY ?_
 refine af (by kernel_rfl) (dir_c _ h) ?_
 refine aY ?_
 refine af (by kernel_rfl) (dir_c _ m) ?_
 refine aY ?_
 refine af (by kernel_rfl) (hturn_c _ (cB h) (cB m) (fW _) (fW _)) ?_
 refine aY ?_
 exact hQ _ _ (ae (.inl rfl) hbel (x := .agg [.int .i64 ((gJ (cB h) (cB m)).1), .int .i64 ((gJ (cB h) (cB m)).2.1), .int .i64 ((gJ (cB h) (cB m)).2.2)]) (ag Tryz.results116) rfl ⟨rfl, rfl⟩)
open Go.RowKit
open Go.RowKit
theorem lw_tdiv {n d : Int} (hn : 0 ≤ n) (hd : 0 < d) : Int.tdiv n (Int.gcd n d : Int) = lwN n d ∧ Int.tdiv d (Int.gcd n d : Int) = lwD n d := ⟨Int.tdiv_eq_ediv_of_nonneg hn, Int.tdiv_eq_ediv_of_nonneg (by omega)⟩
open Go.RowKit
open Go.RowKit
open Go.RowKit
def ee (Q : Int × Int → Bool) (D : Int × Int → Int × Int) (s : Option (Int × Int)) (c : Int × Int) : Option (Int × Int) :=
 if Q c = true ∧ (∀ b, s = some b → (D c).1 * (D b).2 < (D b).1 * (D c).2) then some c else s
def fsF (Q : Int × Int → Bool) (D : Int × Int → Int × Int) (l : List (Int × Int)) : Option (Int × Int) := l.foldl (ee Q D) none
theorem fs_law {Q : Int × Int → Bool} {D : Int × Int → Int × Int} (hD : ∀ c, 0 < (D c).2) : ∀ (l : List (Int × Int)) (s : Option (Int × Int)), (∀ b, s = some b → Q b = true) →
  (l.foldl (ee Q D) s = none ↔ s = none ∧ ∀ c ∈ l, Q c = false) ∧
  (∀ b, l.foldl (ee Q D) s = some b → (s = some b ∨ b ∈ l) ∧ Q b = true ∧ (∀ c, s = some c → (D b).1 * (D c).2 ≤ (D c).1 * (D b).2) ∧ ∀ c ∈ l, Q c = true → (D b).1 * (D c).2 ≤ (D c).1 * (D b).2)
 | [], s, hs => ⟨by simp, fun b h => ⟨.inl h, hs b h, fun c hc => by
   have h : s = some b := h
   rw [hc] at h; cases h; exact Int.le_refl _, fun c hc => absurd hc (by simp)⟩⟩
 | c :: l, s, hs => by
  rw [List.foldl_cons]
  have hs' : ∀ b, ee Q D s c = some b → Q b = true := fun b hb => by
   unfold ee at hb
   split at hb
   ·rename_i h; cases hb; exact h.1
   ·exact hs b hb
  have ih := fs_law hD l (ee Q D s c) hs'
  have tr : ∀ {x y z : Int × Int}, (D x).1 * (D y).2 ≤ (D y).1 * (D x).2 → (D y).1 * (D z).2 ≤ (D z).1 * (D y).2 → (D x).1 * (D z).2 ≤ (D z).1 * (D x).2 := fun {x y z} h1 h2 => eY (hD x) (hD y) (hD z) h1 h2
  by_cases hq : Q c = true ∧ (∀ b, s = some b → (D c).1 * (D b).2 < (D b).1 * (D c).2)
  ·have e : ee Q D s c = some c := if_pos hq
   rw [e] at ih ⊢
   refine ⟨⟨fun h => absurd (ih.1.1 h).1 (by simp), fun h => absurd (h.2 c (List.mem_cons_self ..)) (by rw [hq.1]; decide)⟩, fun b hb => ?_⟩
   obtain ⟨i1, i2, i3, i4⟩ := ih.2 b hb
   have hbc := i3 c rfl
   refine ⟨?_, i2, fun x hx => tr hbc (Int.le_of_lt (hq.2 x hx)), fun x hx hQ => ?_⟩
   ·rcases i1 with i1 | i1
    ·cases i1; exact .inr (List.mem_cons_self ..)
    ·exact .inr (List.mem_cons_of_mem _ i1)
   ·rcases List.mem_cons.1 hx with q | q
    ·rw [q]; exact hbc
    ·exact i4 x q hQ
  ·have e : ee Q D s c = s := if_neg hq
   rw [e] at ih ⊢
   have hc : Q c = true → ∃ b, s = some b ∧ (D b).1 * (D c).2 ≤ (D c).1 * (D b).2 := fun hQ => by
    cases hs0 : s with
    | none => exact absurd ⟨hQ, fun b hb => by rw [hs0] at hb; cases hb⟩ hq
    | some b => exact ⟨b, rfl, by
      rcases Int.lt_or_le ((D c).1 * (D b).2) ((D b).1 * (D c).2) with h | h
      ·exact absurd ⟨hQ, fun b' hb' => by rw [hs0] at hb'; cases hb'; exact h⟩ hq
      ·exact h⟩
   refine ⟨⟨fun h => ?_, fun h => ih.1.2 ⟨h.1, fun x hx => h.2 x (List.mem_cons_of_mem _ hx)⟩⟩, fun b hb => ?_⟩
   ·obtain ⟨h1, h2⟩ := ih.1.1 h
    refine ⟨h1, fun x hx => ?_⟩
    rcases List.mem_cons.1 hx with q | q
    ·rw [q]
     cases hQ : Q c
     ·rfl
     ·obtain ⟨b, hb, -⟩ := hc hQ
      rw [h1] at hb; cases hb
    ·exact h2 x q
   ·obtain ⟨i1, i2, i3, i4⟩ := ih.2 b hb
    refine ⟨i1.elim .inl fun k => .inr (List.mem_cons_of_mem _ k), i2, i3, fun x hx hQ => ?_⟩
    rcases List.mem_cons.1 hx with q | q
    ·rw [q] at hQ ⊢
     obtain ⟨b', hb', h⟩ := hc hQ
     exact tr (i3 b' hb') h
    ·exact i4 x q hQ
theorem fs_some {Q : Int × Int → Bool} {D : Int × Int → Int × Int} (hD : ∀ c, 0 < (D c).2) {l : List (Int × Int)} {b : Int × Int} (h : fsF Q D l = some b) : b ∈ l ∧ Q b = true ∧ ∀ c ∈ l, Q c = true → (D b).1 * (D c).2 ≤ (D c).1 * (D b).2 := by
 obtain ⟨i1, i2, -, i4⟩ := (fs_law hD l none (fun b hb => by cases hb)).2 b h
 exact ⟨i1.resolve_left (by simp), i2, i4⟩
theorem fs_none {Q : Int × Int → Bool} {D : Int × Int → Int × Int} (hD : ∀ c, 0 < (D c).2) {l : List (Int × Int)} : fsF Q D l = none ↔ ∀ c ∈ l, Q c = false := by
 have := (fs_law (Q := Q) hD l none (fun b hb => by cases hb)).1
 exact this.trans ⟨fun h => h.2, fun h => ⟨rfl, h⟩⟩
def oX (s : Option (Int × Int)) : Int := match s with | none => 0 | some c => c.1
def oY (s : Option (Int × Int)) : Int := match s with | none => 0 | some c => c.2
theorem fsStep_no {Q : Int × Int → Bool} {D : Int × Int → Int × Int} {s : Option (Int × Int)} {c : Int × Int} (h : Q c = false) : ee Q D s c = s := if_neg (by rw [h]; simp)
theorem wV {Q : Int × Int → Bool} {D : Int × Int → Int × Int} {b c : Int × Int} (h : ¬ (D c).1 * (D b).2 < (D b).1 * (D c).2) : ee Q D (some b) c = some b := if_neg fun k => h (k.2 b rfl)
theorem wW {Q : Int × Int → Bool} {D : Int × Int → Int × Int} {c : Int × Int} (h : Q c = true) : ee Q D none c = some c := if_pos ⟨h, fun b hb => by cases hb⟩
theorem wE {Q : Int × Int → Bool} {D : Int × Int → Int × Int} {b c : Int × Int} (h : Q c = true) (k : (D c).1 * (D b).2 < (D b).1 * (D c).2) : ee Q D (some b) c = some c := if_pos ⟨h, fun b' hb => by cases hb; exact k⟩
open Go.RowKit
section
variable (H : ac)
theorem psize_c (x : Int) : ACalls Tryz.prog 70 [.int .i64 x] H (fun v H' => v = .bool (decide (1 ≤ x) && decide (x ≤ 64)) ∧ H' = H) := by
 (refine cr try_mixed Tryz.func70 true _ rfl (Nat.le_of_ble_eq_true (by kernel_rfl)) (by kernel_rfl) ?_; intro hbel Q hQ hQ' c hc; unfold Tryz.f70 at hc; simp only [Option.some.injEq] at hc; subst hc; clear hQ')
 by_cases h1 : 1 ≤ x
 ·simp -implicitDefEqProofs (disch := omega) only [h1, simprocAttr, aB, aC, Function.comp_apply, one1, lenV, ak, ar, au, aop, AV.ofValue, AV.ofCell, AV.cells, AV.flat, AV.one, arep, aN, aD, az]
  exact hQ _ _ (aF (.inl rfl) hbel (x := .bool (decide (x ≤ 64))) (ag Tryz.results70) rfl ⟨by simp only [h1, decide_true, Bool.true_and], rfl⟩)
 ·simp -implicitDefEqProofs (disch := omega) only [h1, simprocAttr, aB, aC, Function.comp_apply, one1, lenV, ak, ar, au, aop, AV.ofValue, AV.ofCell, AV.cells, AV.flat, AV.one, arep, aN, aD, az]
  exact hQ _ _ (aF (.inl rfl) hbel (x := .bool false) (ag Tryz.results70) rfl ⟨by simp only [h1, decide_false, Bool.false_and], rfl⟩)
set_option maxRecDepth 100000 in
theorem max_c (xs : List Int) (b : Nat) (own : Bool) (cap : Option Nat) (hb : H[b]? = some (.cells own 1 (ints .u8 xs))) (h0 : 0 < xs.length) (hn : xs.length ≤ 1000000) : ACalls Tryz.prog 71 [.sl (some (b, 0)) xs.length cap] H (fun v H' => ∃ m, v = .int .u8 m ∧ m ∈ xs ∧ (∀ x ∈ xs, x ≤ m) ∧ H' = H) := by
 have hbl := getElem?_lt hb
 have hg0 := cV (k := .u8) (xs := xs) (j := 0) h0
 (refine cr try_mixed Tryz.func71 true _ rfl (Nat.le_of_ble_eq_true (by kernel_rfl)) (by kernel_rfl) ?_; intro hbel Q hQ hQ' c hc; unfold Tryz.f71 at hc; simp only [Option.some.injEq] at hc; subst hc; clear hQ')
 have h1 : ¬ (xs.length : Int) < 1 := by omega
 simp -implicitDefEqProofs (disch := omega) only [h1, hb, hg0, simprocAttr, aB, aC, Function.comp_apply, one1, lenV, ak, ar, au, aop, AV.ofValue, AV.ofCell, AV.cells, AV.flat, AV.one, arep, aN, aD, az]
 repeat refine And.intro (by omega) ?_
 refine go_loop try_mixed (by kernel_rfl) (fun k F Hx => ∃ (i : Nat) (m : Int), i + k = xs.length ∧ 1 ≤ i ∧ m ∈ xs ∧ (∀ j, j < i → gi xs j ≤ m) ∧ F = [(0, .sl (some (b, 0)) xs.length none), (3, .int .u8 m), (4, .int .i64 (i : Nat))] ∧ Hx = H) (xs.length - 1) ?_ ?_
 ·refine ⟨_, _, _, ⟨1, gi xs 0, by omega, by omega, lY h0, fun j hj => by obtain rfl : j = 0 := by omega
                                                                          exact Int.le_refl _, rfl, rfl⟩, Abs.by0 hbel ?_⟩
  exact absT
 ·rintro k F Hx ⟨i, m, hik, hi1, hm, hle, rfl, rfl⟩ J hJ
  by_cases hi : i < xs.length
  ·have hii : (i : Int) < (xs.length : Int) := by omega
   have hg := cV (k := .u8) (xs := xs) (j := i) hi
   simp -implicitDefEqProofs (disch := omega) only [hii, hb, hg, simprocAttr, aB, aC, Function.comp_apply, one1, lenV, ak, ar, au, aop, AV.ofValue, AV.ofCell, AV.cells, AV.flat, AV.one, arep, aN, aD, az]
   repeat refine And.intro (by omega) ?_
   refine hJ _ _ ⟨k - 1, by omega, _, _, _, ⟨i + 1, if m < gi xs i then gi xs i else m, by omega, by omega, by split; exact lY hi; exact hm, fun j hj => ?_, rfl, rfl⟩, Abs.by0 hbel ?_⟩
   ·by_cases hji : j = i
    ·subst hji; split <;> omega
    ·have := hle j (by omega); split <;> omega
   ·exact absT
  ·have hnn : ¬ ((i : Int) < (xs.length : Int)) := by omega
   simp -implicitDefEqProofs (disch := omega) only [hnn, simprocAttr, aB, aC, Function.comp_apply, one1, lenV, ak, ar, au, aop, AV.ofValue, AV.ofCell, AV.cells, AV.flat, AV.one, arep, aN, aD, az]
   exact hQ _ _ (aF (.inl rfl) hbel (x := .int .u8 m) (ag Tryz.results71) rfl ⟨m, rfl, hm, fun x hx => by
    obtain ⟨j, hj, rfl⟩ := List.getElem_of_mem hx
    rw [← gi_lt hj]; exact hle j (by omega), rfl⟩)
theorem eZ {W Hh : Int} {xs : List Int} (h : ¬ (1 ≤ W ∧ W ≤ 64 ∧ 1 ≤ Hh ∧ Hh ≤ 64 ∧ (xs.length : Int) = W * Hh)) : bW W Hh xs = false := rb.2 fun v => h ⟨v.w0, v.w1, v.h0, v.h1, v.len⟩
set_option maxRecDepth 100000 in
theorem gb (W Hh : Int) (s : AV) (xs : List Int) (hs : IsI H .u8 s xs) : ACalls Tryz.prog 40 [.agg [.int .i64 W, .int .i64 Hh, s]] H (fun v H' => v = .bool (bW W Hh xs) ∧ H' = H) := by
 have hs1 : ∃ a c, s = .sl a xs.length c := by
  rcases hs with ⟨rfl, rfl⟩ | ⟨b, own, cap, rfl, hb⟩
  ·exact ⟨_, _, rfl⟩
  ·exact ⟨_, _, rfl⟩
 obtain ⟨a1, c1, rfl⟩ := hs1
 (refine cr try_mixed Tryz.func40 true _ rfl (Nat.le_of_ble_eq_true (by kernel_rfl)) (by kernel_rfl) ?_; intro hbel Q hQ hQ' c hc; unfold Tryz.f40 at hc; simp only [Option.some.injEq] at hc; subst hc; clear hQ')
 simp -implicitDefEqProofs (disch := omega) only [simprocAttr, aB, aC, Function.comp_apply, one1, lenV, ak, ar, au, aop, AV.ofValue, AV.ofCell, AV.cells, AV.flat, AV.one, arep, aN, aD, az]
 refine af (by kernel_rfl) (psize_c _ _) ?_
 cases h1 : (decide (1 ≤ W) && decide (W ≤ 64))
 ·simp only [Bool.and_eq_false_iff, decide_eq_false_iff_not] at h1
  simp -implicitDefEqProofs (disch := omega) only [simprocAttr, aB, aC, Function.comp_apply, one1, lenV, ak, ar, au, aop, AV.ofValue, AV.ofCell, AV.cells, AV.flat, AV.one, arep, aN, aD, az]
  exact hQ _ _ (ae (.inl rfl) hbel (x := .bool false) (ag Tryz.results40) rfl ⟨by rw [eZ (by omega)], rfl⟩)
 simp only [Bool.and_eq_true, decide_eq_true_eq] at h1
 simp -implicitDefEqProofs (disch := omega) only [simprocAttr, aB, aC, Function.comp_apply, one1, lenV, ak, ar, au, aop, AV.ofValue, AV.ofCell, AV.cells, AV.flat, AV.one, arep, aN, aD, az]
 refine af (by kernel_rfl) (psize_c _ _) ?_
 cases h2 : (decide (1 ≤ Hh) && decide (Hh ≤ 64))
 ·simp only [Bool.and_eq_false_iff, decide_eq_false_iff_not] at h2
  simp -implicitDefEqProofs (disch := omega) only [simprocAttr, aB, aC, Function.comp_apply, one1, lenV, ak, ar, au, aop, AV.ofValue, AV.ofCell, AV.cells, AV.flat, AV.one, arep, aN, aD, az]
  exact hQ _ _ (ae (.inl rfl) hbel (x := .bool false) (ag Tryz.results40) rfl ⟨by rw [eZ (by omega)], rfl⟩)
 simp only [Bool.and_eq_true, decide_eq_true_eq] at h2
 have hm := iL (a := W) (b := Hh) (by omega) (by omega) (by omega) (by omega)
 have hm1 := Int.mul_le_mul (a := 1) (b := 1) (c := W) (d := Hh) h1.1 h2.1 (by omega) (by omega)
 by_cases h3 : (xs.length : Int) = W * Hh
 ·have h3' : ((xs.length : Int) != W * Hh) = false := by simp [h3]
  have h4 : ((xs.length : Int) == 0) = false := beq_eq_false_iff_ne.2 (by omega)
  obtain ⟨b, own, cap, e1, hb⟩ := hs.resolve_left (fun h => by rw [h.1] at h3; simp at h3; omega)
  injection e1 with e1 _ e1'; subst e1 e1'
  have hb0 := fun l => aw (l := l) hb
  have hbl := getElem?_lt hb
  simp -implicitDefEqProofs (disch := omega) only [h3', h4, simprocAttr, aB, aC, Function.comp_apply, one1, lenV, ak, ar, au, aop, AV.ofValue, AV.ofCell, AV.cells, AV.flat, AV.one, arep, aN, aD, az]
  refine call_of (by kernel_rfl) (max_c _ xs b own c1 (hb0 _) (by omega) (by omega)) ?_
  rintro x H' ⟨m, rfl, hm, hle, rfl⟩
  simp -implicitDefEqProofs (disch := omega) only [simprocAttr, aB, aC, Function.comp_apply, one1, lenV, ak, ar, au, aop, AV.ofValue, AV.ofCell, AV.cells, AV.flat, AV.one, arep, aN, aD, az]
  exact hQ _ _ (ae (.inl rfl) hbel (x := .bool (decide (m ≤ 2))) (ag Tryz.results40) rfl ⟨by
   congr 1
   rw [Bool.eq_iff_iff, bM, decide_eq_true_eq]
   exact ⟨fun h => ⟨h1.1, h1.2, h2.1, h2.2, h3, fun v hv => Int.le_trans (hle v hv) h⟩, fun h => h.le m hm⟩, rfl⟩)
 ·have h3' : ((xs.length : Int) != W * Hh) = true := by simp [h3]
  simp -implicitDefEqProofs (disch := omega) only [h3', simprocAttr, aB, aC, Function.comp_apply, one1, lenV, ak, ar, au, aop, AV.ofValue, AV.ofCell, AV.cells, AV.flat, AV.one, arep, aN, aD, az]
  exact hQ _ _ (ae (.inl rfl) hbel (x := .bool false) (ag Tryz.results40) rfl ⟨by rw [eZ (by omega)], rfl⟩)
set_option maxRecDepth 100000 in
theorem rplan_a (W Hh : Int) (s : AV) (xs : List Int) (hs : IsI H .u8 s xs) : ACalls Tryz.prog 34 [.agg [.int .i64 W, .int .i64 Hh, s]] H (fun v H' => v = .bool (bW W Hh xs) ∧ H' = H) := by
 have hs1 : ∃ a c, s = .sl a xs.length c := by
  rcases hs with ⟨rfl, rfl⟩ | ⟨b, own, cap, rfl, hb⟩
  ·exact ⟨_, _, rfl⟩
  ·exact ⟨_, _, rfl⟩
 obtain ⟨a1, c1, rfl⟩ := hs1
 (refine cr try_mixed Tryz.func34 true _ rfl (Nat.le_of_ble_eq_true (by kernel_rfl)) (by kernel_rfl) ?_; intro hbel Q hQ hQ' c hc; unfold Tryz.f34 at hc; simp only [Option.some.injEq] at hc; subst hc; clear hQ')
 by_cases h1 : W < 1
 ·simp -implicitDefEqProofs (disch := omega) only [h1, simprocAttr, aB, aC, Function.comp_apply, one1, lenV, ak, ar, au, aop, AV.ofValue, AV.ofCell, AV.cells, AV.flat, AV.one, arep, aN, aD, az]
  exact hQ _ _ (ae (.inl rfl) hbel (x := .bool false) (ag Tryz.results34) rfl ⟨by rw [eZ (by omega)], rfl⟩)
 by_cases h2 : 64 < W
 ·simp -implicitDefEqProofs (disch := omega) only [h1, h2, simprocAttr, aB, aC, Function.comp_apply, one1, lenV, ak, ar, au, aop, AV.ofValue, AV.ofCell, AV.cells, AV.flat, AV.one, arep, aN, aD, az]
  exact hQ _ _ (ae (.inl rfl) hbel (x := .bool false) (ag Tryz.results34) rfl ⟨by rw [eZ (by omega)], rfl⟩)
 by_cases h3 : Hh < 1
 ·simp -implicitDefEqProofs (disch := omega) only [h1, h2, h3, simprocAttr, aB, aC, Function.comp_apply, one1, lenV, ak, ar, au, aop, AV.ofValue, AV.ofCell, AV.cells, AV.flat, AV.one, arep, aN, aD, az]
  exact hQ _ _ (ae (.inl rfl) hbel (x := .bool false) (ag Tryz.results34) rfl ⟨by rw [eZ (by omega)], rfl⟩)
 by_cases h4 : 64 < Hh
 ·simp -implicitDefEqProofs (disch := omega) only [h1, h2, h3, h4, simprocAttr, aB, aC, Function.comp_apply, one1, lenV, ak, ar, au, aop, AV.ofValue, AV.ofCell, AV.cells, AV.flat, AV.one, arep, aN, aD, az]
  exact hQ _ _ (ae (.inl rfl) hbel (x := .bool false) (ag Tryz.results34) rfl ⟨by rw [eZ (by omega)], rfl⟩)
 have hm := iL (a := W) (b := Hh) (by omega) (by omega) (by omega) (by omega)
 have hm1 := Int.mul_le_mul (a := 1) (b := 1) (c := W) (d := Hh) (by omega) (by omega) (by omega) (by omega)
 by_cases h5 : (xs.length : Int) = W * Hh
 ·have h5' : ((xs.length : Int) != W * Hh) = false := by simp [h5]
  obtain ⟨b, own, cap, e1, hb⟩ := hs.resolve_left (fun h => by rw [h.1] at h5; simp at h5; omega)
  injection e1 with e1 _ e1'; subst e1 e1'
  have hb0 := fun l => aw (l := l) hb
  have hbl := getElem?_lt hb
  simp -implicitDefEqProofs (disch := omega) only [h1, h2, h3, h4, h5', simprocAttr, aB, aC, Function.comp_apply, one1, lenV, ak, ar, au, aop, AV.ofValue, AV.ofCell, AV.cells, AV.flat, AV.one, arep, aN, aD, az]
  refine go_loop try_mixed (by kernel_rfl) (fun k F Hx => ∃ (i : Nat), i + k = xs.length ∧ (∀ j, j < i → gi xs j ≤ 2) ∧ F = [(1, .ptr (some (H.length, 0))), (3, .int .i64 (i : Nat))] ∧ Hx = H ++ [.cells true 0 [.int .i64 W, .int .i64 Hh, .sl (some (b, 0)) xs.length c1]]) xs.length ?_ ?_
  ·refine ⟨_, _, _, ⟨0, by omega, fun j hj => absurd hj (Nat.not_lt_zero j), rfl, rfl⟩, Abs.by hbel [0] (by decide) ?_⟩
   exact absT
  ·rintro k F Hx ⟨i, hik, hle, rfl, rfl⟩ J hJ
   by_cases hi : i < xs.length
   ·have hii : (i : Int) < (xs.length : Int) := by omega
    have hg := cV (k := .u8) (xs := xs) (j := i) hi
    by_cases h6 : 2 < gi xs i
    ·simp -implicitDefEqProofs (disch := omega) only [hii, hb0, hg, h6, simprocAttr, aB, aC, Function.comp_apply, one1, lenV, ak, ar, au, aop, AV.ofValue, AV.ofCell, AV.cells, AV.flat, AV.one, arep, aN, aD, az]
     repeat refine And.intro (by omega) ?_
     exact hQ _ _ (ae (.inl rfl) hbel (x := .bool false) (ag Tryz.results34) rfl ⟨by rw [rb.2 fun v => absurd (v.le _ (lY hi)) (by omega)], rfl⟩)
    ·simp -implicitDefEqProofs (disch := omega) only [hii, hb0, hg, h6, simprocAttr, aB, aC, Function.comp_apply, one1, lenV, ak, ar, au, aop, AV.ofValue, AV.ofCell, AV.cells, AV.flat, AV.one, arep, aN, aD, az]
     repeat refine And.intro (by omega) ?_
     refine hJ _ _ ⟨k - 1, by omega, _, _, _, ⟨i + 1, by omega, fun j hj => ?_, rfl, rfl⟩, Abs.by hbel [0] (by decide) ?_⟩
     ·by_cases hji : j = i
      ·subst hji; omega
      ·exact hle j (by omega)
     ·exact absT
   ·have hnn : ¬ ((i : Int) < (xs.length : Int)) := by omega
    simp -implicitDefEqProofs (disch := omega) only [hnn, simprocAttr, aB, aC, Function.comp_apply, one1, lenV, ak, ar, au, aop, AV.ofValue, AV.ofCell, AV.cells, AV.flat, AV.one, arep, aN, aD, az]
    exact hQ _ _ (ae (.inl rfl) hbel (x := .bool true) (ag Tryz.results34) rfl ⟨by rw [bM.2 ⟨by omega, by omega, by omega, by omega, h5, fun x hx => by
     obtain ⟨j, hj, rfl⟩ := List.getElem_of_mem hx
     rw [← gi_lt hj]; exact hle j (by omega)⟩], rfl⟩)
 ·have h5' : ((xs.length : Int) != W * Hh) = true := by simp [h5]
  simp -implicitDefEqProofs (disch := omega) only [h1, h2, h3, h4, h5', simprocAttr, aB, aC, Function.comp_apply, one1, lenV, ak, ar, au, aop, AV.ofValue, AV.ofCell, AV.cells, AV.flat, AV.one, arep, aN, aD, az]
  exact hQ _ _ (ae (.inl rfl) hbel (x := .bool false) (ag Tryz.results34) rfl ⟨by rw [eZ (by omega)], rfl⟩)
end
set_option linter.unusedSimpArgs false
set_option linter.unusedVariables false
open Go.RowKit
section
variable {H : ac} {W Hh x y : Int} {s : AV} {xs : List Int} {g : Nat} {own : Bool} {cap : Option Nat} {n : Nat}
end
set_option linter.unusedSimpArgs false
set_option linter.unusedVariables false
open Go.RowKit
set_option maxRecDepth 100000 in
theorem idx_int (H : ac) (s : AV) (l : List Int) (hs : Sl H 1 s l.length (ints .i64 l)) (hl : l.length ≤ 1000000000) (g : FuncId) (caps : List AV) (hok : dR Tryz.prog g = true) (hc : AV.bels H.length caps = true) (p : Int → Bool) (hf : ∀ j, j < l.length → ACalls Tryz.prog g (.int .i64 (gi l j) :: caps) H (fun v H' => v = .bool (p (gi l j)) ∧ H' = H)) :
  ACalls Tryz.prog 147 [s, .fn g caps] H (fun v H' => v = .int .i64 (eW p l) ∧ H' = H) := by
 obtain ⟨b, own, cap, rfl, hb⟩ := hs
 have hbl := getElem?_lt hb
 have hmv := fun m sel => fZ (n := H.length) (m := m) (sel := sel) hc
 (refine cr try_mixed Tryz.func147 true _ rfl (Nat.le_of_ble_eq_true (by kernel_rfl)) (by kernel_rfl) ?_; intro hbel Q hQ hQ' c hc; unfold Tryz.f147 at hc; simp only [Option.some.injEq] at hc; subst hc; clear hQ')
 simp -implicitDefEqProofs (disch := omega) only [simprocAttr, aB, aC, Function.comp_apply, one1, lenV, ak, ar, au, aop, AV.ofValue, AV.ofCell, AV.cells, AV.flat, AV.one, arep, aN, aD, az]
 refine go_loop try_mixed (by kernel_rfl) (fun k F Hx => ∃ i : Nat, i + k = l.length ∧ (l.take i).any p = false ∧ F = [(0, .sl (some (b, 0)) l.length none), (1, .fn g caps), (7, .int .i64 l.length), (8, .int .i64 (i : Nat))] ∧ Hx = H) l.length ?_ ?_
 ·refine ⟨_, _, _, ⟨0, by omega, rfl, rfl, rfl⟩, Abs.by0 hbel ?_⟩
  exact bp @hmv
 ·rintro k F Hx ⟨i, hik, ht, rfl, rfl⟩ J hJ
  by_cases hi : i < l.length
  ·have hii : (i : Int) < (l.length : Int) := by omega
   have q1 := cV (k := .i64) hi
   have hg := iN hi
   simp -implicitDefEqProofs (disch := omega) only [hii, hb, q1, ck, cH, simprocAttr, aB, aC, Function.comp_apply, one1, lenV, ak, ar, au, aop, AV.ofValue, AV.ofCell, AV.cells, AV.flat, AV.one, arep, aN, aD, az]
   refine And.intro (by omega) ?_
   refine af hok (hf i hi) ?_
   have hst := ix (p := p) hi
   rw [ht, Bool.false_or, ← hg] at hst
   cases h1 : p (gi l i)
   ·rw [h1] at hst
    simp -implicitDefEqProofs (disch := omega) only [h1, simprocAttr, aB, aC, Function.comp_apply, one1, lenV, ak, ar, au, aop, AV.ofValue, AV.ofCell, AV.cells, AV.flat, AV.one, arep, aN, aD, az]
    refine hJ _ _ ⟨k - 1, by omega, _, _, _, ⟨i + 1, by omega, hst, rfl, rfl⟩, Abs.by0 hbel ?_⟩
    exact bp @hmv
   ·simp -implicitDefEqProofs (disch := omega) only [h1, simprocAttr, aB, aC, Function.comp_apply, one1, lenV, ak, ar, au, aop, AV.ofValue, AV.ofCell, AV.cells, AV.flat, AV.one, arep, aN, aD, az]
    exact hQ _ _ (aF (.inl rfl) hbel (x := .int .i64 (i : Nat)) (ag Tryz.results147) rfl ⟨by rw [ia hi ht (by rw [← hg]; exact h1)], rfl⟩)
  ·have hnn : ¬ ((i : Int) < (l.length : Int)) := by omega
   simp -implicitDefEqProofs (disch := omega) only [hnn, simprocAttr, aB, aC, Function.comp_apply, one1, lenV, ak, ar, au, aop, AV.ofValue, AV.ofCell, AV.cells, AV.flat, AV.one, arep, aN, aD, az]
   rw [List.take_of_length_le (by omega)] at ht
   exact hQ _ _ (aF (.inl rfl) hbel (x := .int .i64 (-1)) (ag Tryz.results147) rfl ⟨by rw [eX ht], rfl⟩)
theorem has_int (H : ac) (s : AV) (l : List Int) (hs : Sl H 1 s l.length (ints .i64 l)) (hl : l.length ≤ 1000000000) (g : FuncId) (caps : List AV) (hok : dR Tryz.prog g = true) (hc : AV.bels H.length caps = true) (p : Int → Bool) (hf : ∀ j, j < l.length → ACalls Tryz.prog g (.int .i64 (gi l j) :: caps) H (fun v H' => v = .bool (p (gi l j)) ∧ H' = H)) :
  ACalls Tryz.prog 105 [s, .fn g caps] H (fun v H' => v = .bool (l.any p) ∧ H' = H) := by
 have key := idx_int H s l hs hl g caps hok hc p hf
 obtain ⟨b, own, cap, rfl, hb⟩ := hs
 have hbl := getElem?_lt hb
 (refine cr try_mixed Tryz.func105 true _ rfl (Nat.le_of_ble_eq_true (by kernel_rfl)) (by kernel_rfl) ?_; intro hbel Q hQ hQ' c hc; unfold Tryz.f105 at hc; simp only [Option.some.injEq] at hc; subst hc; clear hQ')
 simp -implicitDefEqProofs (disch := omega) only [simprocAttr, aB, aC, Function.comp_apply, one1, lenV, ak, ar, au, aop, AV.ofValue, AV.ofCell, AV.cells, AV.flat, AV.one, arep, aN, aD, az]
 refine af (by kernel_rfl) key ?_
 simp -implicitDefEqProofs (disch := omega) only [simprocAttr, aB, aC, Function.comp_apply, one1, lenV, ak, ar, au, aop, AV.ofValue, AV.ofCell, AV.cells, AV.flat, AV.one, arep, aN, aD, az]
 exact hQ _ _ (aF (.inl rfl) hbel (x := .bool (decide (0 ≤ eW p l))) (ag Tryz.results105) rfl ⟨by rw [jt], rfl⟩)
open Go.RowKit
set_option maxRecDepth 100000 in
theorem idx_box (H : ac) (s : AV) (l : List T6) (hs : Sl H 6 s l.length (r6 l)) (hl : l.length ≤ 1000000000) (g : FuncId) (caps : List AV) (hok : dR Tryz.prog g = true) (hc : AV.bels H.length caps = true) (p : T6 → Bool) (hf : ∀ j, j < l.length → ACalls Tryz.prog g (.agg [.int .i64 (g61 l j), .int .i64 (g62 l j), .int .i64 (g63 l j), .int .i64 (g64 l j), .int .i64 (g65 l j), .int .i64 (g66 l j)] :: caps) H (fun v H' => v = .bool (p (g61 l j, g62 l j, g63 l j, g64 l j, g65 l j, g66 l j)) ∧ H' = H)) :
  ACalls Tryz.prog 66 [s, .fn g caps] H (fun v H' => v = .int .i64 (eW p l) ∧ H' = H) := by
 obtain ⟨b, own, cap, rfl, hb⟩ := hs
 have hbl := getElem?_lt hb
 have hmv := fun m sel => fZ (n := H.length) (m := m) (sel := sel) hc
 (refine cr try_mixed Tryz.func66 true _ rfl (Nat.le_of_ble_eq_true (by kernel_rfl)) (by kernel_rfl) ?_; intro hbel Q hQ hQ' c hc; unfold Tryz.f66 at hc; simp only [Option.some.injEq] at hc; subst hc; clear hQ')
 simp -implicitDefEqProofs (disch := omega) only [simprocAttr, aB, aC, Function.comp_apply, one1, lenV, ak, ar, au, aop, AV.ofValue, AV.ofCell, AV.cells, AV.flat, AV.one, arep, aN, aD, az]
 refine go_loop try_mixed (by kernel_rfl) (fun k F Hx => ∃ i : Nat, i + k = l.length ∧ (l.take i).any p = false ∧ F = [(0, .sl (some (b, 0)) l.length none), (1, .fn g caps), (7, .int .i64 l.length), (8, .int .i64 (i : Nat))] ∧ Hx = H) l.length ?_ ?_
 ·refine ⟨_, _, _, ⟨0, by omega, rfl, rfl, rfl⟩, Abs.by0 hbel ?_⟩
  exact bp @hmv
 ·rintro k F Hx ⟨i, hik, ht, rfl, rfl⟩ J hJ
  by_cases hi : i < l.length
  ·have hii : (i : Int) < (l.length : Int) := by omega
   have q1 := dd hi
   have hg := gu hi
   simp -implicitDefEqProofs (disch := omega) only [hii, hb, q1, bV, c9, simprocAttr, aB, aC, Function.comp_apply, one1, lenV, ak, ar, au, aop, AV.ofValue, AV.ofCell, AV.cells, AV.flat, AV.one, arep, aN, aD, az]
   iterate 2 refine And.intro (by omega) ?_
   refine af hok (hf i hi) ?_
   have hst := ix (p := p) hi
   rw [ht, Bool.false_or, ← hg] at hst
   cases h1 : p (g61 l i, g62 l i, g63 l i, g64 l i, g65 l i, g66 l i)
   ·rw [h1] at hst
    simp -implicitDefEqProofs (disch := omega) only [h1, simprocAttr, aB, aC, Function.comp_apply, one1, lenV, ak, ar, au, aop, AV.ofValue, AV.ofCell, AV.cells, AV.flat, AV.one, arep, aN, aD, az]
    refine hJ _ _ ⟨k - 1, by omega, _, _, _, ⟨i + 1, by omega, hst, rfl, rfl⟩, Abs.by0 hbel ?_⟩
    exact bp @hmv
   ·simp -implicitDefEqProofs (disch := omega) only [h1, simprocAttr, aB, aC, Function.comp_apply, one1, lenV, ak, ar, au, aop, AV.ofValue, AV.ofCell, AV.cells, AV.flat, AV.one, arep, aN, aD, az]
    exact hQ _ _ (aF (.inl rfl) hbel (x := .int .i64 (i : Nat)) (ag Tryz.results66) rfl ⟨by rw [ia hi ht (by rw [← hg]; exact h1)], rfl⟩)
  ·have hnn : ¬ ((i : Int) < (l.length : Int)) := by omega
   simp -implicitDefEqProofs (disch := omega) only [hnn, simprocAttr, aB, aC, Function.comp_apply, one1, lenV, ak, ar, au, aop, AV.ofValue, AV.ofCell, AV.cells, AV.flat, AV.one, arep, aN, aD, az]
   rw [List.take_of_length_le (by omega)] at ht
   exact hQ _ _ (aF (.inl rfl) hbel (x := .int .i64 (-1)) (ag Tryz.results66) rfl ⟨by rw [eX ht], rfl⟩)
theorem jb (H : ac) (s : AV) (l : List T6) (hs : Sl H 6 s l.length (r6 l)) (hl : l.length ≤ 1000000000) (g : FuncId) (caps : List AV) (hok : dR Tryz.prog g = true) (hc : AV.bels H.length caps = true) (p : T6 → Bool) (hf : ∀ j, j < l.length → ACalls Tryz.prog g (.agg [.int .i64 (g61 l j), .int .i64 (g62 l j), .int .i64 (g63 l j), .int .i64 (g64 l j), .int .i64 (g65 l j), .int .i64 (g66 l j)] :: caps) H (fun v H' => v = .bool (p (g61 l j, g62 l j, g63 l j, g64 l j, g65 l j, g66 l j)) ∧ H' = H)) :
  ACalls Tryz.prog 36 [s, .fn g caps] H (fun v H' => v = .bool (l.any p) ∧ H' = H) := by
 have key := idx_box H s l hs hl g caps hok hc p hf
 obtain ⟨b, own, cap, rfl, hb⟩ := hs
 have hbl := getElem?_lt hb
 (refine cr try_mixed Tryz.func36 true _ rfl (Nat.le_of_ble_eq_true (by kernel_rfl)) (by kernel_rfl) ?_; intro hbel Q hQ hQ' c hc; unfold Tryz.f36 at hc; simp only [Option.some.injEq] at hc; subst hc; clear hQ')
 simp -implicitDefEqProofs (disch := omega) only [simprocAttr, aB, aC, Function.comp_apply, one1, lenV, ak, ar, au, aop, AV.ofValue, AV.ofCell, AV.cells, AV.flat, AV.one, arep, aN, aD, az]
 refine af (by kernel_rfl) key ?_
 simp -implicitDefEqProofs (disch := omega) only [simprocAttr, aB, aC, Function.comp_apply, one1, lenV, ak, ar, au, aop, AV.ofValue, AV.ofCell, AV.cells, AV.flat, AV.one, arep, aN, aD, az]
 exact hQ _ _ (aF (.inl rfl) hbel (x := .bool (decide (0 ≤ eW p l))) (ag Tryz.results36) rfl ⟨by rw [jt], rfl⟩)
open Go.RowKit
set_option maxHeartbeats 4000000
set_option maxRecDepth 100000
theorem small1_c (H : ac) (n : Int) : ACalls Tryz.prog 155 [.int .i64 n] H (fun v H' => v = .bool (offB n) ∧ H' = H) := by
 refine AcT true Tryz.func155 ?_; intro hbel Q hQ
 refine aY ?_
 refine aj (fun h1 => ?_) (fun h1 => ?_)
 ·have h1d := bsT h1
  have g'1 := (jn @h1 @h1d)
  refine aa g'1 ?_
  exact hQ _ _ (aF (.inl rfl) hbel (x := .bool (decide (1048576 < n))) (ag Tryz.results155) rfl ⟨by simp [offB, h1d], rfl⟩)
 ·have h1d := bsT h1
  have g'2 := (jn @h1 @h1d)
  refine aa g'2 ?_
  exact hQ _ _ (aF (.inl rfl) hbel (x := .bool true) (ag Tryz.results155) rfl ⟨by simp [offB, h1d], rfl⟩)
theorem small_c (H : ac) (s : AV) (l : List Int) (hs : Sl H 1 s l.length (ints .i64 l)) (hl : l.length ≤ 1000000) : ACalls Tryz.prog 111 [s] H (fun v H' => v = .bool (!(l.any offB)) ∧ H' = H) := by
 obtain ⟨bs, os, cs, rfl, hbs⟩ := hs
 have hbls := getElem?_lt hbs
 have hb0s := fun l => aw (l := l) hbs
 refine AcT true Tryz.func111 ?_; intro hbel Q hQ
 have g'3 := (jn @hbs @hb0s)
 refine aa g'3 ?_
 refine af (by kernel_rfl) (has_int _ _ l ⟨_, _, _, rfl, by first | exact hb0s _ | exact hbs⟩ (by omega) _ [] (by kernel_rfl) rfl offB (fun j hj => small1_c _ _)) ?_
 refine aa g'3 ?_
 exact hQ _ _ (aF (.inl rfl) hbel (x := .bool (!(l.any offB))) (ag Tryz.results111) rfl ⟨rfl, rfl⟩)
theorem iB (H : ac) (f : Int) (c : Int) : ACalls Tryz.prog 112 [.agg [.int .i64 f, .int .i64 c]] H (fun v H' => v = .bool (cd f c) ∧ H' = H) := by
 refine AcT true Tryz.func112 ?_; intro hbel Q hQ
 refine aY ?_
 refine aj (fun h1 => ?_) (fun h1 => ?_)
 ·have h1d := bsT h1
  have g'4 := (jn @h1 @h1d)
  refine aa g'4 ?_
  refine aj (fun h2 => ?_) (fun h2 => ?_)
  ·have h2d := bsT h2
   have g'5 := (jn @h2 (jn @h2d g'4))
   refine aa g'5 ?_
   refine aj (fun h3 => ?_) (fun h3 => ?_)
   ·have h3d := bsT h3
    have g'6 := (jn @h3 (jn @h3d g'5))
    refine aa g'6 ?_
    refine aj (fun h4 => ?_) (fun h4 => ?_)
    ·have h4d := bsT h4
     have g'7 := (jn @h4 (jn @h4d g'6))
     refine aa g'7 ?_
     refine aj (fun h5 => ?_) (fun h5 => ?_)
     ·have h5d := bsT h5
      have h5n := bnT h5
      have g'8 := (jn @h5 (jn @h5n (jn @aU (jn @aT g'7))))
      refine aa g'8 ?_
      exact hQ _ _ (ae (.inl rfl) hbel (x := .bool (decide (c < 256))) (ag Tryz.results112) rfl ⟨by first | (simp [cd, h1d, h2d, h3d, h4d, h5d]; done) | (simp [cd, h1d, h2d, h3d, h4d, h5d]; omega), rfl⟩)
     ·have h5d := bsT h5
      have h5n := bnT h5
      have g'9 := (jn @h5 (jn @h5n (jn @aU (jn @aT g'7))))
      refine aa g'9 ?_
      exact hQ _ _ (ae (.inl rfl) hbel (x := .bool true) (ag Tryz.results112) rfl ⟨by first | (simp [cd, h1d, h2d, h3d, h4d, h5d]; done) | (simp [cd, h1d, h2d, h3d, h4d, h5d]; omega), rfl⟩)
    ·have h4d := bsT h4
     have g'10 := (jn @h4 (jn @h4d g'6))
     refine aa g'10 ?_
     exact hQ _ _ (ae (.inl rfl) hbel (x := .bool false) (ag Tryz.results112) rfl ⟨by first | (simp [cd, h1d, h2d, h3d, h4d]; done) | (simp [cd, h1d, h2d, h3d, h4d]; omega), rfl⟩)
   ·have h3d := bsT h3
    have g'11 := (jn @h3 (jn @h3d g'5))
    refine aa g'11 ?_
    exact hQ _ _ (ae (.inl rfl) hbel (x := .bool false) (ag Tryz.results112) rfl ⟨by first | (simp [cd, h1d, h2d, h3d]; done) | (simp [cd, h1d, h2d, h3d]; omega), rfl⟩)
  ·have h2d := bsT h2
   have g'12 := (jn @h2 (jn @h2d g'4))
   refine aa g'12 ?_
   exact hQ _ _ (ae (.inl rfl) hbel (x := .bool false) (ag Tryz.results112) rfl ⟨by first | (simp [cd, h1d, h2d]; done) | (simp [cd, h1d, h2d]; omega), rfl⟩)
 ·have h1d := bsT h1
  have g'13 := (jn @h1 @h1d)
  refine aa g'13 ?_
  exact hQ _ _ (ae (.inl rfl) hbel (x := .bool false) (ag Tryz.results112) rfl ⟨by first | (simp [cd, h1d]; done) | (simp [cd, h1d]; omega), rfl⟩)
theorem barc_c (H : ac) (f : Int) (c : Int) : ACalls Tryz.prog 65 [.agg [.int .i64 f, .int .i64 c]] H (fun v H' => v = .bool (cd f c) ∧ H' = H) := by
 refine AcT true Tryz.func65 ?_; intro hbel Q hQ
 refine aY ?_
 refine aj (fun h1 => ?_) (fun h1 => ?_)
 ·have h1d := bsT h1
  have g'14 := (jn @h1 @h1d)
  refine aa g'14 ?_
  refine aj (fun h2 => ?_) (fun h2 => ?_)
  ·have h2d := bsT h2
   have g'15 := (jn @h2 (jn @h2d g'14))
   refine aa g'15 ?_
   refine aj (fun h3 => ?_) (fun h3 => ?_)
   ·have h3d := bsT h3
    have g'16 := (jn @h3 (jn @h3d g'15))
    refine aa g'16 ?_
    refine aj (fun h4 => ?_) (fun h4 => ?_)
    ·have h4d := bsT h4
     have g'17 := (jn @h4 (jn @h4d g'16))
     refine aa g'17 ?_
     refine aj (fun h5 => ?_) (fun h5 => ?_)
     ·have h5d := bsT h5
      have g'18 := (jn @h5 (jn @h5d g'17))
      refine aa g'18 ?_
      exact hQ _ _ (ae (.inl rfl) hbel (x := .bool (f == 0)) (ag Tryz.results65) rfl ⟨by rw [← ib]; first | (simp [fK, h1d, h2d, h3d, h4d, h5d]; done) | (simp [fK, h1d, h2d, h3d, h4d, h5d]; omega), rfl⟩)
     ·have h5d := bsT h5
      have g'19 := (jn @h5 (jn @h5d g'17))
      refine aa g'19 ?_
      exact hQ _ _ (ae (.inl rfl) hbel (x := .bool true) (ag Tryz.results65) rfl ⟨by rw [← ib]; first | (simp [fK, h1d, h2d, h3d, h4d, h5d]; done) | (simp [fK, h1d, h2d, h3d, h4d, h5d]; omega), rfl⟩)
    ·have h4d := bsT h4
     have g'20 := (jn @h4 (jn @h4d g'16))
     refine aa g'20 ?_
     exact hQ _ _ (ae (.inl rfl) hbel (x := .bool false) (ag Tryz.results65) rfl ⟨by rw [← ib]; first | (simp [fK, h1d, h2d, h3d, h4d]; done) | (simp [fK, h1d, h2d, h3d, h4d]; omega), rfl⟩)
   ·have h3d := bsT h3
    have g'21 := (jn @h3 (jn @h3d g'15))
    refine aa g'21 ?_
    exact hQ _ _ (ae (.inl rfl) hbel (x := .bool false) (ag Tryz.results65) rfl ⟨by rw [← ib]; first | (simp [fK, h1d, h2d, h3d]; done) | (simp [fK, h1d, h2d, h3d]; omega), rfl⟩)
  ·have h2d := bsT h2
   have g'22 := (jn @h2 (jn @h2d g'14))
   refine aa g'22 ?_
   exact hQ _ _ (ae (.inl rfl) hbel (x := .bool false) (ag Tryz.results65) rfl ⟨by rw [← ib]; first | (simp [fK, h1d, h2d]; done) | (simp [fK, h1d, h2d]; omega), rfl⟩)
 ·have h1d := bsT h1
  have g'23 := (jn @h1 @h1d)
  refine aa g'23 ?_
  exact hQ _ _ (ae (.inl rfl) hbel (x := .bool false) (ag Tryz.results65) rfl ⟨by rw [← ib]; first | (simp [fK, h1d]; done) | (simp [fK, h1d]; omega), rfl⟩)
theorem fi (H : ac) (x0 : Int) (y0 : Int) (x1 : Int) (y1 : Int) (f : Int) (c : Int) : ACalls Tryz.prog 69 [.agg [.int .i64 x0, .int .i64 y0, .int .i64 x1, .int .i64 y1, .int .i64 f, .int .i64 c]] H (fun v H' => v = .agg [.int .i64 f, .int .i64 c] ∧ H' = H) := by
 refine AcT true Tryz.func69 ?_; intro hbel Q hQ
 refine aY ?_
 exact hQ _ _ (ae (.inl rfl) hbel (x := .agg [.int .i64 f, .int .i64 c]) (ag Tryz.results69) rfl ⟨rfl, rfl⟩)
theorem eO (H : ac) (x0 : Int) (y0 : Int) (x1 : Int) (y1 : Int) (f : Int) (c : Int) : ACalls Tryz.prog 67 [.agg [.int .i64 x0, .int .i64 y0, .int .i64 x1, .int .i64 y1, .int .i64 f, .int .i64 c]] H (fun v H' => v = .bool (bxB x0 y0 x1 y1 f c) ∧ H' = H) := by
 refine AcT true Tryz.func67 ?_; intro hbel Q hQ
 refine aY ?_
 refine aj (fun h1 => ?_) (fun h1 => ?_)
 ·have h1d := bsT h1
  have g'24 := (jn @h1 @h1d)
  refine aa g'24 ?_
  refine aj (fun h2 => ?_) (fun h2 => ?_)
  ·have h2d := bsT h2
   have g'25 := (jn @h2 (jn @h2d g'24))
   refine aa g'25 ?_
   refine af (by kernel_rfl) (small_c _ _ [x0, y0, x1, y1] ⟨_, _, _, by first | rfl | (rw [List.length_append]; done) | (rw [List.length_append]; rfl), by first | rfl | (rw [ap]; rfl) | (rw [al]; rfl) | (rw [ap, am]; rfl) | (rw [al, am]; rfl)⟩ (by first | decide | omega | simp)) ?_
   refine aa g'25 ?_
   refine aj (fun h3 => ?_) (fun h3 => ?_)
   ·have h3d := bsT h3
    have g'26 := (jn @h3 (jn @h3d g'25))
    refine aa g'26 ?_
    refine af (by kernel_rfl) (fi _ x0 y0 x1 y1 f c) ?_
    refine aa g'26 ?_
    refine af (by kernel_rfl) (iB _ f c) ?_
    refine aa g'26 ?_
    exact hQ _ _ (ae (.inl rfl) hbel (x := .bool (cd f c)) (ag Tryz.results67) rfl ⟨by first | (simp [bxB, h1d, h2d, h3d]; done) | (unfold bxB; simp only [h1d, h2d, h3d]; rfl), rfl⟩)
   ·have h3d := bsT h3
    have g'27 := (jn @h3 (jn @h3d g'25))
    refine aa g'27 ?_
    exact hQ _ _ (ae (.inl rfl) hbel (x := .bool false) (ag Tryz.results67) rfl ⟨by first | (simp [bxB, h1d, h2d, h3d]; done) | (unfold bxB; simp only [h1d, h2d, h3d]; rfl), rfl⟩)
  ·have h2d := bsT h2
   have g'28 := (jn @h2 (jn @h2d g'24))
   refine aa g'28 ?_
   exact hQ _ _ (ae (.inl rfl) hbel (x := .bool false) (ag Tryz.results67) rfl ⟨by first | (simp [bxB, h1d, h2d]; done) | (unfold bxB; simp only [h1d, h2d]; rfl), rfl⟩)
 ·have h1d := bsT h1
  have g'29 := (jn @h1 @h1d)
  refine aa g'29 ?_
  exact hQ _ _ (ae (.inl rfl) hbel (x := .bool false) (ag Tryz.results67) rfl ⟨by first | (simp [bxB, h1d]; done) | (unfold bxB; simp only [h1d]; rfl), rfl⟩)
theorem bbx_c (H : ac) (x0 : Int) (y0 : Int) (x1 : Int) (y1 : Int) (f : Int) (c : Int) : ACalls Tryz.prog 35 [.agg [.int .i64 x0, .int .i64 y0, .int .i64 x1, .int .i64 y1, .int .i64 f, .int .i64 c]] H (fun v H' => v = .bool (bxB x0 y0 x1 y1 f c) ∧ H' = H) := by
 refine AcT true Tryz.func35 ?_; intro hbel Q hQ
 refine aY ?_
 refine aj (fun h1 => ?_) (fun h1 => ?_)
 ·have h1d := bsT h1
  have g'30 := (jn @h1 @h1d)
  refine aa g'30 ?_
  refine aj (fun h2 => ?_) (fun h2 => ?_)
  ·have h2d := bsT h2
   have g'31 := (jn @h2 (jn @h2d g'30))
   refine aa g'31 ?_
   refine aj (fun h3 => ?_) (fun h3 => ?_)
   ·have h3d := bsT h3
    have g'32 := (jn @h3 (jn @h3d g'31))
    refine aa g'32 ?_
    refine aj (fun h4 => ?_) (fun h4 => ?_)
    ·have h4d := bsT h4
     have g'33 := (jn @h4 (jn @h4d g'32))
     refine aa g'33 ?_
     refine aj (fun h5 => ?_) (fun h5 => ?_)
     ·have h5d := bsT h5
      have g'34 := (jn @h5 (jn @h5d g'33))
      refine aa g'34 ?_
      refine aj (fun h6 => ?_) (fun h6 => ?_)
      ·have h6d := bsT h6
       have g'35 := (jn @h6 (jn @h6d g'34))
       refine aa g'35 ?_
       refine af (by kernel_rfl) (barc_c _ f c) ?_
       refine aa g'35 ?_
       exact hQ _ _ (ae (.inl rfl) hbel (x := .bool (cd f c)) (ag Tryz.results35) rfl ⟨by rw [← iz]; simp [bxR, h1d, h2d, h3d, h4d, h5d, h6d], rfl⟩)
      ·have h6d := bsT h6
       have g'36 := (jn @h6 (jn @h6d g'34))
       refine aa g'36 ?_
       exact hQ _ _ (ae (.inl rfl) hbel (x := .bool false) (ag Tryz.results35) rfl ⟨by rw [← iz]; simp [bxR, h1d, h2d, h3d, h4d, h5d, h6d], rfl⟩)
     ·have h5d := bsT h5
      have g'37 := (jn @h5 (jn @h5d g'33))
      refine aa g'37 ?_
      exact hQ _ _ (ae (.inl rfl) hbel (x := .bool false) (ag Tryz.results35) rfl ⟨by rw [← iz]; simp [bxR, h1d, h2d, h3d, h4d, h5d], rfl⟩)
    ·have h4d := bsT h4
     have g'38 := (jn @h4 (jn @h4d g'32))
     refine aa g'38 ?_
     exact hQ _ _ (ae (.inl rfl) hbel (x := .bool false) (ag Tryz.results35) rfl ⟨by rw [← iz]; simp [bxR, h1d, h2d, h3d, h4d], rfl⟩)
   ·have h3d := bsT h3
    have g'39 := (jn @h3 (jn @h3d g'31))
    refine aa g'39 ?_
    exact hQ _ _ (ae (.inl rfl) hbel (x := .bool false) (ag Tryz.results35) rfl ⟨by rw [← iz]; simp [bxR, h1d, h2d, h3d], rfl⟩)
  ·have h2d := bsT h2
   have g'40 := (jn @h2 (jn @h2d g'30))
   refine aa g'40 ?_
   exact hQ _ _ (ae (.inl rfl) hbel (x := .bool false) (ag Tryz.results35) rfl ⟨by rw [← iz]; simp [bxR, h1d, h2d], rfl⟩)
 ·have h1d := bsT h1
  have g'41 := (jn @h1 @h1d)
  refine aa g'41 ?_
  exact hQ _ _ (ae (.inl rfl) hbel (x := .bool false) (ag Tryz.results35) rfl ⟨by rw [← iz]; simp [bxR, h1d], rfl⟩)
theorem bset_c (H : ac) (s : AV) (l : List T6) (hs : Sl H 6 s l.length (r6 l)) (hl : l.length ≤ 1000000000) : ACalls Tryz.prog 10 [s] H (fun v H' => v = .bool (bP l) ∧ H' = H) := by
 obtain ⟨bs, os, cs, rfl, hbs⟩ := hs
 have hbls := getElem?_lt hbs
 have hb0s := fun l => aw (l := l) hbs
 refine AcT true Tryz.func10 ?_; intro hbel Q hQ
 have g'42 := (jn @hbs @hb0s)
 refine aa g'42 ?_
 refine ai (fun h1 => ?_) (fun h1 => ?_)
 ·have h1d := bsT h1
  have hfinS : bP l = false := by unfold bP; rw [decide_eq_false (by omega)]; rfl
  have g'43 := (jn @h1 (jn @h1d g'42))
  refine aa g'43 ?_
  exact hQ _ _ (aF (.inl rfl) hbel (x := .bool false) (ag Tryz.results10) rfl ⟨by first | (rw [hfinS]; done) | (simp [bP, h1d, hfinS]; done), rfl⟩)
 ·have h1d := bsT h1
  have g'44 := (jn @h1 (jn @h1d g'42))
  refine aa g'44 ?_
  refine go_loop try_mixed (by kernel_rfl) (fun k F Hx => ∃ i : Nat, i + k = l.length ∧ (∀ j : Nat, j < i → bD (g6 l j) = true) ∧ F = [(0, .sl (some (bs, 0)) l.length cs), (3, .int .i64 ((i : Nat) : Int))] ∧ H = Hx) (l.length) ?_ ?_
  ·refine ⟨_, _, _, ⟨0, by omega, fun j h => by omega, rfl, rfl⟩, Abs.by0 hbel ?_⟩
   exact be
  ·rintro k0 F Hx ⟨i, hm0, hal, rfl, rfl⟩ J0 hJ0
   refine aa g'44 ?_
   refine ai (fun h2 => ?_) (fun h2 => ?_)
   ·have h2d := bsT h2
    have q3 := dd (l := l) (j := i) (by omega)
    have g'45 := (jn @h2 (jn @h2d (jn @bV (jn @q3 g'44))))
    refine aa g'45 ?_
    refine af (by kernel_rfl) (bbx_c _ (g61 l i) (g62 l i) (g63 l i) (g64 l i) (g65 l i) (g66 l i)) ?_
    refine aa g'45 ?_
    refine ai (fun h4 => ?_) (fun h4 => ?_)
    ·have h4d := bsT h4
     have hfinS : bP l = false := by
      rw [← Bool.not_eq_true, bU]; intro hh
      have := hh.2 (g6 l i) (cL (by omega))
      exact absurd (this.symm.trans h4d) (by decide)
     have g'46 := (jn @h4 (jn @h4d g'45))
     refine aa g'46 ?_
     exact hQ _ _ (aF (.inl rfl) hbel (x := .bool false) (ag Tryz.results10) rfl ⟨by first | (rw [hfinS]; done) | (simp [bP, h1d, h2d, h4d, hfinS]; done), rfl⟩)
    ·have h4d := bsT h4
     have hbi : bD (g6 l i) = true := h4d
     have g'47 := (jn @h4 (jn @h4d g'45))
     refine aa g'47 ?_
     refine hJ0 _ _ ⟨k0 - 1, by omega, _, _, _, ⟨i + 1, by omega, fun j hj => by
           rcases Nat.lt_or_ge j i with h | h
           ·exact hal j h
           ·rw [show j = i by omega]; exact hbi, rfl, rfl⟩, Abs.by0 hbel ?_⟩
     exact be
   ·have h2d := bsT h2
    have hfinS : bP l = true := bU.2 ⟨by omega, fun b hb => by
     obtain ⟨j, hj, e⟩ := List.mem_iff_getElem.1 hb
     rw [← e, ← gu hj]; exact hal j (by omega)⟩
    have g'48 := (jn @h2 (jn @h2d g'44))
    refine aa g'48 ?_
    exact hQ _ _ (aF (.inl rfl) hbel (x := .bool true) (ag Tryz.results10) rfl ⟨by first | (rw [hfinS]; done) | (simp [bP, h1d, h2d, hfinS]; done), rfl⟩)
theorem jw (H : ac) (s : Int) (f : Int) (c : Int) (k1 : 0 ≤ s ∧ s ≤ 255) (k2 : 0 ≤ f ∧ f ≤ 255) (k3 : 0 ≤ c ∧ c ≤ 256) : ACalls Tryz.prog 189 [.int .i64 s, .agg [.int .i64 f, .int .i64 c]] H (fun v H' => v = .int .i64 (bC s f c) ∧ H' = H) := by
 refine AcT true Tryz.func189 ?_; intro hbel Q hQ
 refine aY ?_
 refine aK (by kernel_rfl) (iw _ (f - s)) ?_
 refine aY ?_
 exact hQ _ _ (ae (.inl rfl) hbel (x := .int .i64 (((((f - s) % 256).toNat : Nat) : Int) + c)) (ag Tryz.results189) rfl ⟨congrArg (AV.int .i64) (by unfold bC; omega), rfl⟩)
theorem kN (H : ac) (f : Int) (c : Int) (f2 : Int) (c2 : Int) (ha : cd f c = true) (hb : cd f2 c2 = true) : ACalls Tryz.prog 153 [.agg [.int .i64 f, .int .i64 c], .agg [.int .i64 f2, .int .i64 c2]] H (fun v H' => v = .tup [.agg [.int .i64 ((cG f c f2 c2).1), .int .i64 ((cG f c f2 c2).2)], .int .i64 0] ∧ H' = H) := by
 have ka := bH.1 ha
 have kb := bH.1 hb
 have hm1 := max_i (bC f f c) (bC f f2 c2)
 have hm2 := max_i (bC f2 f c) (bC f2 f2 c2)
 have hz0 : (hlS f c f2 c2 0).2 = 256 ∧ (hlS f c f2 c2 0).1 = 0 := ⟨rfl, rfl⟩
 have hc1 : bC f f c = c := by unfold bC; omega
 have hc2 : bC f2 f2 c2 = c2 := by unfold bC; omega
 have hc3 : 1 ≤ bC f f2 c2 ∧ bC f f2 c2 ≤ 511 := by unfold bC; omega
 have hc4 : 1 ≤ bC f2 f c ∧ bC f2 f c ≤ 511 := by unfold bC; omega
 refine AcT true Tryz.func153 ?_; intro hbel Q hQ
 have g'49 := (jn @hm1 (jn @hm2 (jn @ha @hb)))
 refine aa g'49 ?_
 refine af (by kernel_rfl) (iB _ f c) ?_
 refine aa g'49 ?_
 refine af (by kernel_rfl) (iB _ f2 c2) ?_
 refine aa g'49 ?_
 refine go_loop try_mixed (by kernel_rfl) (fun k F Hx => ∃ j : Nat, j + k = 2 ∧ F = [(2, .ptr (some (H.length, 0))), (3, .ptr (some (H.length + 1, 0))), (4, .ptr (some (H.length + 2, 0))), (6, .ptr (some (H.length + 3, 0))), (24, .agg [.int .i64 f, .int .i64 f2]), (25, .int .i64 ((j : Nat) : Int))] ∧ Hx = H ++ [.cells true 0 [.int .i64 f, .int .i64 c], .cells true 0 [.int .i64 f2, .int .i64 c2], .cells true 0 [.int .i64 0, .int .i64 0], .cells true 0 [.int .i64 ((hlS f c f2 c2 j).1), .int .i64 ((hlS f c f2 c2 j).2)]]) (2) ?_ ?_
 ·refine ⟨_, _, _, ⟨0, by omega, rfl, rfl⟩, Abs.byG hbel [] rfl [0, 1, 2, 3] (by decide) ?_⟩
  exact bp (jn @hlS.eq_1 @Int.natCast_zero)
 ·rintro k0 F Hx ⟨j, hm0, rfl, rfl⟩ J0 hJ0
  refine aa g'49 ?_
  refine ai (fun h1 => ?_) (fun h1 => ?_)
  ·have h1d := bsT h1
   obtain rfl | rfl := (by omega : j = 0 ∨ j = 1)
   ·skip
    have g'50 := (jn @h1 (jn @h1d g'49))
    refine aa g'50 ?_
    refine aK (by kernel_rfl) (jw _ f f c (by omega) (by omega) (by omega)) ?_
    refine aa g'50 ?_
    refine aK (by kernel_rfl) (jw _ f f2 c2 (by omega) (by omega) (by omega)) ?_
    refine aa g'50 ?_
    refine aj (fun h2 => ?_) (fun h2 => ?_)
    ·have h2d := bsT h2
     have g'51 := (jn @h2 (jn @h2d g'50))
     refine aa g'51 ?_
     refine aj (fun h3 => ?_) (fun h3 => ?_)
     ·have h3d := bsT h3
      have h3n := bnT h3
      have he0 : max (bC f f c) (bC f f2 c2) = (hlS f c f2 c2 0).2 := by simpa using h3d
      have g'52 := (jn @h3 (jn @h3n (jn @aU (jn @aT g'51))))
      refine aa g'52 ?_
      refine aj (fun h4 => ?_) (fun h4 => ?_)
      ·have h4d := bsT h4
       omega
      ·have h4d := bsT h4
       have g'53 := (jn @h4 (jn @h4d g'52))
       refine aa g'53 ?_
       first | (have hst : hlS f c f2 c2 (0 + 1) = (f, max (bC f f c) (bC f f2 c2)) := if_pos (by omega)) | (have hst : hlS f c f2 c2 (0 + 1) = (0, 256) := if_neg (by omega)) | (have hst : hlS f c f2 c2 (1 + 1) = (f2, max (bC f2 f c) (bC f2 f2 c2)) := (d8 f c f2 c2).trans (if_pos (by omega))) | (have hst : hlS f c f2 c2 (1 + 1) = hlS f c f2 c2 1 := (d8 f c f2 c2).trans (if_neg (by omega)))
       refine hJ0 _ _ ⟨k0 - 1, by omega, _, _, _, ⟨0 + 1, by omega, rfl, rfl⟩, Abs.byG hbel [] rfl [0, 1, 2, 3] (by decide) ?_⟩
       exact bp @hst
     ·have h3d := bsT h3
      have h3n := bnT h3
      have g'54 := (jn @h3 (jn @h3n (jn @aU (jn @aT g'51))))
      refine aa g'54 ?_
      first | (have hst : hlS f c f2 c2 (0 + 1) = (f, max (bC f f c) (bC f f2 c2)) := if_pos (by omega)) | (have hst : hlS f c f2 c2 (0 + 1) = (0, 256) := if_neg (by omega)) | (have hst : hlS f c f2 c2 (1 + 1) = (f2, max (bC f2 f c) (bC f2 f2 c2)) := (d8 f c f2 c2).trans (if_pos (by omega))) | (have hst : hlS f c f2 c2 (1 + 1) = hlS f c f2 c2 1 := (d8 f c f2 c2).trans (if_neg (by omega)))
      refine hJ0 _ _ ⟨k0 - 1, by omega, _, _, _, ⟨0 + 1, by omega, rfl, rfl⟩, Abs.byG hbel [] rfl [0, 1, 2, 3] (by decide) ?_⟩
      exact bp @hst
    ·have h2d := bsT h2
     have g'55 := (jn @h2 (jn @h2d g'50))
     refine aa g'55 ?_
     first | (have hst : hlS f c f2 c2 (0 + 1) = (f, max (bC f f c) (bC f f2 c2)) := if_pos (by omega)) | (have hst : hlS f c f2 c2 (0 + 1) = (0, 256) := if_neg (by omega)) | (have hst : hlS f c f2 c2 (1 + 1) = (f2, max (bC f2 f c) (bC f2 f2 c2)) := (d8 f c f2 c2).trans (if_pos (by omega))) | (have hst : hlS f c f2 c2 (1 + 1) = hlS f c f2 c2 1 := (d8 f c f2 c2).trans (if_neg (by omega)))
     refine hJ0 _ _ ⟨k0 - 1, by omega, _, _, _, ⟨0 + 1, by omega, rfl, rfl⟩, Abs.byG hbel [] rfl [0, 1, 2, 3] (by decide) ?_⟩
     exact bp @hst
   ·skip
    have g'56 := (jn @h1 (jn @h1d g'49))
    refine aa g'56 ?_
    refine aK (by kernel_rfl) (jw _ f2 f c (by omega) (by omega) (by omega)) ?_
    refine aa g'56 ?_
    refine aK (by kernel_rfl) (jw _ f2 f2 c2 (by omega) (by omega) (by omega)) ?_
    refine aa g'56 ?_
    refine aj (fun h5 => ?_) (fun h5 => ?_)
    ·have h5d := bsT h5
     have g'57 := (jn @h5 (jn @h5d g'56))
     refine aa g'57 ?_
     refine aj (fun h6 => ?_) (fun h6 => ?_)
     ·have h6d := bsT h6
      have h6n := bnT h6
      have he1 : max (bC f2 f c) (bC f2 f2 c2) = (hlS f c f2 c2 1).2 := by simpa using h6d
      have g'58 := (jn @h6 (jn @h6n (jn @aU (jn @aT g'57))))
      refine aa g'58 ?_
      refine aj (fun h7 => ?_) (fun h7 => ?_)
      ·have h7d := bsT h7
       have g'59 := (jn @h7 (jn @h7d g'58))
       refine aa g'59 ?_
       refine ai (fun h8 => ?_) (fun h8 => ?_)
       ·have h8d := bsT h8
        have g'60 := (jn @h8 (jn @h8d g'59))
        refine aa g'60 ?_
        first | (have hst : hlS f c f2 c2 (0 + 1) = (f, max (bC f f c) (bC f f2 c2)) := if_pos (by omega)) | (have hst : hlS f c f2 c2 (0 + 1) = (0, 256) := if_neg (by omega)) | (have hst : hlS f c f2 c2 (1 + 1) = (f2, max (bC f2 f c) (bC f2 f2 c2)) := (d8 f c f2 c2).trans (if_pos (by omega))) | (have hst : hlS f c f2 c2 (1 + 1) = hlS f c f2 c2 1 := (d8 f c f2 c2).trans (if_neg (by omega)))
        refine hJ0 _ _ ⟨k0 - 1, by omega, _, _, _, ⟨1 + 1, by omega, rfl, rfl⟩, Abs.byG hbel [] rfl [0, 1, 2, 3] (by decide) ?_⟩
        exact bp @hst
       ·have h8d := bsT h8
        have g'61 := (jn @h8 (jn @h8d g'59))
        refine aa g'61 ?_
        first | (have hst : hlS f c f2 c2 (0 + 1) = (f, max (bC f f c) (bC f f2 c2)) := if_pos (by omega)) | (have hst : hlS f c f2 c2 (0 + 1) = (0, 256) := if_neg (by omega)) | (have hst : hlS f c f2 c2 (1 + 1) = (f2, max (bC f2 f c) (bC f2 f2 c2)) := (d8 f c f2 c2).trans (if_pos (by omega))) | (have hst : hlS f c f2 c2 (1 + 1) = hlS f c f2 c2 1 := (d8 f c f2 c2).trans (if_neg (by omega)))
        refine hJ0 _ _ ⟨k0 - 1, by omega, _, _, _, ⟨1 + 1, by omega, rfl, rfl⟩, Abs.byG hbel [] rfl [0, 1, 2, 3] (by decide) ?_⟩
        exact bp @hst
      ·have h7d := bsT h7
       have g'62 := (jn @h7 (jn @h7d g'58))
       refine aa g'62 ?_
       first | (have hst : hlS f c f2 c2 (0 + 1) = (f, max (bC f f c) (bC f f2 c2)) := if_pos (by omega)) | (have hst : hlS f c f2 c2 (0 + 1) = (0, 256) := if_neg (by omega)) | (have hst : hlS f c f2 c2 (1 + 1) = (f2, max (bC f2 f c) (bC f2 f2 c2)) := (d8 f c f2 c2).trans (if_pos (by omega))) | (have hst : hlS f c f2 c2 (1 + 1) = hlS f c f2 c2 1 := (d8 f c f2 c2).trans (if_neg (by omega)))
       refine hJ0 _ _ ⟨k0 - 1, by omega, _, _, _, ⟨1 + 1, by omega, rfl, rfl⟩, Abs.byG hbel [] rfl [0, 1, 2, 3] (by decide) ?_⟩
       exact bp @hst
     ·have h6d := bsT h6
      have h6n := bnT h6
      have he1 : ¬ max (bC f2 f c) (bC f2 f2 c2) = (hlS f c f2 c2 1).2 := by simpa using h6d
      have g'63 := (jn @h6 (jn @h6n (jn @aU (jn @aT g'57))))
      refine aa g'63 ?_
      first | (have hst : hlS f c f2 c2 (0 + 1) = (f, max (bC f f c) (bC f f2 c2)) := if_pos (by omega)) | (have hst : hlS f c f2 c2 (0 + 1) = (0, 256) := if_neg (by omega)) | (have hst : hlS f c f2 c2 (1 + 1) = (f2, max (bC f2 f c) (bC f2 f2 c2)) := (d8 f c f2 c2).trans (if_pos (by omega))) | (have hst : hlS f c f2 c2 (1 + 1) = hlS f c f2 c2 1 := (d8 f c f2 c2).trans (if_neg (by omega)))
      refine hJ0 _ _ ⟨k0 - 1, by omega, _, _, _, ⟨1 + 1, by omega, rfl, rfl⟩, Abs.byG hbel [] rfl [0, 1, 2, 3] (by decide) ?_⟩
      exact bp @hst
    ·have h5d := bsT h5
     have g'64 := (jn @h5 (jn @h5d g'56))
     refine aa g'64 ?_
     first | (have hst : hlS f c f2 c2 (0 + 1) = (f, max (bC f f c) (bC f f2 c2)) := if_pos (by omega)) | (have hst : hlS f c f2 c2 (0 + 1) = (0, 256) := if_neg (by omega)) | (have hst : hlS f c f2 c2 (1 + 1) = (f2, max (bC f2 f c) (bC f2 f2 c2)) := (d8 f c f2 c2).trans (if_pos (by omega))) | (have hst : hlS f c f2 c2 (1 + 1) = hlS f c f2 c2 1 := (d8 f c f2 c2).trans (if_neg (by omega)))
     refine hJ0 _ _ ⟨k0 - 1, by omega, _, _, _, ⟨1 + 1, by omega, rfl, rfl⟩, Abs.byG hbel [] rfl [0, 1, 2, 3] (by decide) ?_⟩
     exact bp @hst
  ·have h1d := bsT h1
   obtain rfl : j = 2 := by omega
   have g'65 := (jn @h1 (jn @h1d g'49))
   refine aa g'65 ?_
   exact hQ _ _ (ae (.inl rfl) hbel (x := .tup [.agg [.int .i64 ((hlS f c f2 c2 2).1), .int .i64 ((hlS f c f2 c2 2).2)], .int .i64 0]) (ag Tryz.results153) rfl ⟨rfl, rfl⟩)
open Go.RowKit
theorem pinside_c (H : ac) (W : Int) (Hh : Int) (pp : AV) (xs : List Int) (x : Int) (y : Int) (hpp : Sl H 1 pp xs.length (ints .u8 xs)) : ACalls Tryz.prog 139 [.agg [.int .i64 W, .int .i64 Hh, pp], .agg [.int .i64 x, .int .i64 y]] H (fun v H' => v = .bool (inB W Hh x y) ∧ H' = H) := by
 obtain ⟨bpp, opp, cpp, rfl, hbpp⟩ := hpp
 have hblpp := getElem?_lt hbpp
 have hb0pp := fun l => aw (l := l) hbpp
 refine AcT true Tryz.func139 ?_; intro hbel Q hQ
 have g'1 := (jn @hbpp @hb0pp)
 refine aa g'1 ?_
 refine aj (fun h1 => ?_) (fun h1 => ?_)
 ·have h1d := bsT h1
  have g'2 := (jn @h1 (jn @h1d g'1))
  refine aa g'2 ?_
  refine aj (fun h2 => ?_) (fun h2 => ?_)
  ·have h2d := bsT h2
   have g'3 := (jn @h2 (jn @h2d g'2))
   refine aa g'3 ?_
   refine aj (fun h3 => ?_) (fun h3 => ?_)
   ·have h3d := bsT h3
    have g'4 := (jn @h3 (jn @h3d g'3))
    refine aa g'4 ?_
    exact hQ _ _ (ae (.inl rfl) hbel (x := .bool (decide (y < Hh))) (ag Tryz.results139) rfl ⟨by first | (simp [inB, h1d, h2d, h3d]; done) | (simp [inB, h1d, h2d, h3d]; omega), rfl⟩)
   ·have h3d := bsT h3
    have g'5 := (jn @h3 (jn @h3d g'3))
    refine aa g'5 ?_
    exact hQ _ _ (ae (.inl rfl) hbel (x := .bool false) (ag Tryz.results139) rfl ⟨by first | (simp [inB, h1d, h2d, h3d]; done) | (simp [inB, h1d, h2d, h3d]; omega), rfl⟩)
  ·have h2d := bsT h2
   have g'6 := (jn @h2 (jn @h2d g'2))
   refine aa g'6 ?_
   exact hQ _ _ (ae (.inl rfl) hbel (x := .bool false) (ag Tryz.results139) rfl ⟨by first | (simp [inB, h1d, h2d]; done) | (simp [inB, h1d, h2d]; omega), rfl⟩)
 ·have h1d := bsT h1
  have g'7 := (jn @h1 (jn @h1d g'1))
  refine aa g'7 ?_
  exact hQ _ _ (ae (.inl rfl) hbel (x := .bool false) (ag Tryz.results139) rfl ⟨by first | (simp [inB, h1d]; done) | (simp [inB, h1d]; omega), rfl⟩)
theorem pat_c (H : ac) (W : Int) (Hh : Int) (pp : AV) (xs : List Int) (x : Int) (y : Int) (hpp : Sl H 1 pp xs.length (ints .u8 xs)) (hV : bW W Hh xs = true) : ACalls Tryz.prog 100 [.agg [.int .i64 W, .int .i64 Hh, pp], .agg [.int .i64 x, .int .i64 y]] H (fun v H' => v = .int .u8 (atI W Hh xs x y) ∧ H' = H) := by
 obtain ⟨bpp, opp, cpp, rfl, hbpp⟩ := hpp
 have hblpp := getElem?_lt hbpp
 have hb0pp := fun l => aw (l := l) hbpp
 have hVl := bM.1 hV
 have hll := hVl.len
 have hpp2 := hVl.pos
 refine AcT true Tryz.func100 ?_; intro hbel Q hQ
 have g'8 := (jn @hbpp (jn @hb0pp @hV))
 refine aa g'8 ?_
 refine af (by kernel_rfl) (gb _ W Hh _ xs (.inr ⟨_, _, _, rfl, by first | exact hb0pp _ | exact hbpp⟩)) ?_
 refine aa g'8 ?_
 refine af (by kernel_rfl) (pinside_c _ W Hh _ xs x y ⟨_, _, _, rfl, by first | exact hb0pp _ | exact hbpp⟩) ?_
 refine aa g'8 ?_
 refine ai (fun h1 => ?_) (fun h1 => ?_)
 ·have h1d := bsT h1
  have g'9 := (jn @h1 (jn @h1d g'8))
  refine aa g'9 ?_
  exact hQ _ _ (ae (.inl rfl) hbel (x := .int .u8 2) (ag Tryz.results100) rfl ⟨by simp [atI, h1d], rfl⟩)
 ·have h1d := bsT h1
  have hin := h1d
  obtain ⟨i1, i2, i3, i4, i5, -⟩ := hVl.idx hin
  have q2 := cV (k := .u8) (xs := xs) (j := ((y * W) + x).toNat) (by omega)
  have g'10 := (jn @h1 (jn @h1d (jn @q2 g'8)))
  refine aa g'10 ?_
  exact hQ _ _ (ae (.inl rfl) hbel (x := .int .u8 (gi xs (((y * W) + x).toNat))) (ag Tryz.results100) rfl ⟨by simp [atI, h1d], rfl⟩)
open Go.RowKit
def df (m r : Int) : Bool := btw m 0 255 && btw r (-1) 1024
def dm (e : Int × Int) : Bool := df e.1 e.2
def ct (s : List (Int × Int)) : Bool := decide (((s.length : Nat) : Int) ≤ 32) && !(s.any fun e => !dm e)
theorem e6 {m r : Int} : df m r = true ↔ (0 ≤ m ∧ m ≤ 255) ∧ -1 ≤ r ∧ r ≤ 1024 := by
 unfold df; rw [Bool.and_eq_true, bu, bu]
theorem da {s : List (Int × Int)} : ct s = true ↔ s.length ≤ 32 ∧ ∀ e ∈ s, dm e = true := by
 unfold ct
 rw [Bool.and_eq_true, decide_eq_true_eq, Bool.not_eq_true', List.any_eq_false]
 refine ⟨fun h => ⟨by omega, fun e he => ?_⟩, fun h => ⟨by omega, fun e he => ?_⟩⟩
 ·have := h.2 e he
  simpa using this
 ·rw [h.2 e he]; decide
def db (W Hh : Int) (xs : List Int) (l : List T6) (s : List (Int × Int)) (g : Int) : Bool := bW W Hh xs && (decide (0 < ((l.length : Nat) : Int)) && (bP l && (ct s && btw g 1 32)))
theorem e7 {W Hh : Int} {xs : List Int} {l : List T6} {s : List (Int × Int)} {g : Int} : db W Hh xs l s g = true ↔ bW W Hh xs = true ∧ 0 < l.length ∧ bP l = true ∧ ct s = true ∧ 1 ≤ g ∧ g ≤ 32 := by
 unfold db; simp only [Bool.and_eq_true, decide_eq_true_eq, bu]
 exact ⟨fun ⟨a, b, c, d, e⟩ => ⟨a, by omega, c, d, e⟩, fun ⟨a, b, c, d, e⟩ => ⟨a, by omega, c, d, e⟩⟩
def sumC (l : List T6) : Nat → Int
 | 0 => 0
 | n + 1 => sumC l n + g66 l n
theorem g66_bd {l : List T6} (h : bP l = true) {n : Nat} (hn : n < l.length) : 1 ≤ g66 l n ∧ g66 l n ≤ 256 := by
 have := (bU.1 h).2 (g6 l n) (cL hn)
 have := (bH.1 (bL.1 this).2.2)
 exact this.2.1
theorem gc {l : List T6} (h : bP l = true) : l.length ≤ 16 := (bU.1 h).1
theorem sumC_bd {l : List T6} (h : bP l = true) : ∀ n : Nat, n ≤ l.length → (n : Int) ≤ sumC l n ∧ sumC l n ≤ 256 * n
 | 0, _ => by simp [sumC]
 | n + 1, hn => by
  have := sumC_bd h n (by omega)
  have := g66_bd h (show n < l.length by omega)
  simp only [sumC]; omega
def wdeB (b : T6) : Bool := decide (64 < b.2.2.1 - b.1) || decide (64 < b.2.2.2.1 - b.2.1)
def ez (l : List T6) : Bool := decide (sumC l l.length ≤ 32) && !(l.any wdeB)
open Go.RowKit
abbrev T9 := Int × Int × Int × Int × Int × Int × Int × Int × Int
def r9 (l : List T9) : List AV := l.flatMap fun p => [.int .i64 p.1, .int .i64 p.2.1, .int .i64 p.2.2.1, .int .i64 p.2.2.2.1, .int .i64 p.2.2.2.2.1, .int .i64 p.2.2.2.2.2.1, .int .i64 p.2.2.2.2.2.2.1, .int .i64 p.2.2.2.2.2.2.2.1, .int .i64 p.2.2.2.2.2.2.2.2]
def g9 (l : List T9) (j : Nat) : T9 := l.getD j (0, 0, 0, 0, 0, 0, 0, 0, 0)
def g91 (l : List T9) (j : Nat) : Int := (g9 l j).1
def g92 (l : List T9) (j : Nat) : Int := (g9 l j).2.1
def g93 (l : List T9) (j : Nat) : Int := (g9 l j).2.2.1
def g94 (l : List T9) (j : Nat) : Int := (g9 l j).2.2.2.1
def g95 (l : List T9) (j : Nat) : Int := (g9 l j).2.2.2.2.1
def g96 (l : List T9) (j : Nat) : Int := (g9 l j).2.2.2.2.2.1
def g97 (l : List T9) (j : Nat) : Int := (g9 l j).2.2.2.2.2.2.1
def g98 (l : List T9) (j : Nat) : Int := (g9 l j).2.2.2.2.2.2.2.1
def g99 (l : List T9) (j : Nat) : Int := (g9 l j).2.2.2.2.2.2.2.2
theorem g9_eq {l : List T9} {j : Nat} (h : j < l.length) : (g91 l j, g92 l j, g93 l j, g94 l j, g95 l j, g96 l j, g97 l j, g98 l j, g99 l j) = l[j] := by
 simp [g91, g92, g93, g94, g95, g96, g97, g98, g99, g9, h, List.getD_eq_getElem?_getD]
theorem cu : r9 [] = [] := rfl
theorem bO {p : T9} {l : List T9} : r9 (p :: l) = .int .i64 p.1 :: .int .i64 p.2.1 :: .int .i64 p.2.2.1 :: .int .i64 p.2.2.2.1 :: .int .i64 p.2.2.2.2.1 :: .int .i64 p.2.2.2.2.2.1 :: .int .i64 p.2.2.2.2.2.2.1 :: .int .i64 p.2.2.2.2.2.2.2.1 :: .int .i64 p.2.2.2.2.2.2.2.2 :: r9 l := rfl
theorem bI {l m : List T9} : r9 (l ++ m) = r9 l ++ r9 m := by simp [r9]
theorem dZ : ∀ {l : List T9}, (r9 l).length = l.length * 9
 | [] => rfl
 | p :: l => by rw [bO]; simp only [List.length_cons, dZ (l := l)]; omega
theorem co {σ : Nat → Nat} : ∀ {l : List T9}, AV.mvs σ (r9 l) = r9 l
 | [] => rfl
 | p :: l => by
  rw [bO]
  show AV.mv σ _ :: AV.mv σ _ :: AV.mv σ _ :: AV.mv σ _ :: AV.mv σ _ :: AV.mv σ _ :: AV.mv σ _ :: AV.mv σ _ :: AV.mv σ _ :: AV.mvs σ (r9 l) = _
  rw [co (l := l)]; rfl
theorem r9_at : ∀ {l : List T9} {j : Nat} (_h : j < l.length), (r9 l).drop (j * 9) = .int .i64 (g91 l j) :: .int .i64 (g92 l j) :: .int .i64 (g93 l j) :: .int .i64 (g94 l j) :: .int .i64 (g95 l j) :: .int .i64 (g96 l j) :: .int .i64 (g97 l j) :: .int .i64 (g98 l j) :: .int .i64 (g99 l j) :: (r9 l).drop ((j + 1) * 9)
 | [], j, h => by simp at h
 | p :: l, 0, _ => by rw [bO]; simp [g91, g92, g93, g94, g95, g96, g97, g98, g99, g9]
 | p :: l, j + 1, h => by
  rw [bO, show (j + 1) * 9 = j * 9 + 1 + 1 + 1 + 1 + 1 + 1 + 1 + 1 + 1 by omega, List.drop_succ_cons, List.drop_succ_cons, List.drop_succ_cons, List.drop_succ_cons, List.drop_succ_cons, List.drop_succ_cons, List.drop_succ_cons, List.drop_succ_cons, List.drop_succ_cons, r9_at (l := l) (by simpa using h), show (j + 1 + 1) * 9 = (j + 1) * 9 + 1 + 1 + 1 + 1 + 1 + 1 + 1 + 1 + 1 by omega, List.drop_succ_cons, List.drop_succ_cons, List.drop_succ_cons, List.drop_succ_cons, List.drop_succ_cons, List.drop_succ_cons, List.drop_succ_cons, List.drop_succ_cons, List.drop_succ_cons]
  rfl
theorem r9_load {l : List T9} {j : Nat} (h : j < l.length) : ((r9 l).drop (j * 9)).take 9 = [.int .i64 (g91 l j), .int .i64 (g92 l j), .int .i64 (g93 l j), .int .i64 (g94 l j), .int .i64 (g95 l j), .int .i64 (g96 l j), .int .i64 (g97 l j), .int .i64 (g98 l j), .int .i64 (g99 l j)] := by rw [r9_at h]; rfl
theorem r9_p0 {l : List T9} {j : Nat} (h : j < l.length) : ((r9 l).drop (j * 9)).take 6 = [.int .i64 (g91 l j), .int .i64 (g92 l j), .int .i64 (g93 l j), .int .i64 (g94 l j), .int .i64 (g95 l j), .int .i64 (g96 l j)] := by rw [r9_at h]; rfl
theorem iQ {l : List T9} (h : 0 < l.length) : (r9 l).take 6 = [.int .i64 (g91 l 0), .int .i64 (g92 l 0), .int .i64 (g93 l 0), .int .i64 (g94 l 0), .int .i64 (g95 l 0), .int .i64 (g96 l 0)] := by
 have := r9_p0 h
 rwa [Nat.zero_mul, List.drop_zero] at this
theorem r9_p6 {l : List T9} {j : Nat} (h : j < l.length) : ((r9 l).drop (j * 9 + 6)).take 3 = [.int .i64 (g97 l j), .int .i64 (g98 l j), .int .i64 (g99 l j)] := by rw [← List.drop_drop, r9_at h]; rfl
theorem iR {l : List T9} (h : 0 < l.length) : ((r9 l).drop 6).take 3 = [.int .i64 (g97 l 0), .int .i64 (g98 l 0), .int .i64 (g99 l 0)] := by
 have := r9_p6 h
 rwa [Nat.zero_mul, Nat.zero_add] at this
theorem kj {l : List T9} : (r9 l).all AV.one = true := by
 induction l with
 | nil => rfl
 | cons p l ih => rw [bO]; simp [AV.one, ih]
section
variable {P : Program} {H : ac} {n : Nat}
end
set_option linter.unusedSimpArgs false
set_option linter.unusedVariables false
open Go.RowKit
set_option maxHeartbeats 4000000
set_option maxRecDepth 100000
theorem fC (H : ac) (x : Int) (m : Int) (h : 0 ≤ m ∧ m ≤ 4611686018427387904) : ACalls Tryz.prog 182 [.int .i64 x, .int .i64 m] H (fun v H' => v = .bool (bZ x m) ∧ H' = H) := by
 refine AcT true Tryz.func182 ?_; intro hbel Q hQ
 refine aY ?_
 refine aj (fun h1 => ?_) (fun h1 => ?_)
 ·have h1d := bsT h1
  have g'1 := (jn @h1 @h1d)
  refine aa g'1 ?_
  exact hQ _ _ (aF (.inl rfl) hbel (x := .bool (decide (x ≤ m))) (ag Tryz.results182) rfl ⟨by first | (simp [bZ, h1d]; done) | (simp [bZ, h1d]; omega), rfl⟩)
 ·have h1d := bsT h1
  have g'2 := (jn @h1 @h1d)
  refine aa g'2 ?_
  exact hQ _ _ (aF (.inl rfl) hbel (x := .bool false) (ag Tryz.results182) rfl ⟨by first | (simp [bZ, h1d]; done) | (simp [bZ, h1d]; omega), rfl⟩)
theorem pvpt_c (H : ac) (x : Int) (y : Int) : ACalls Tryz.prog 180 [.agg [.int .i64 x, .int .i64 y]] H (fun v H' => v = .bool (ptB x y) ∧ H' = H) := by
 refine AcT true Tryz.func180 ?_; intro hbel Q hQ
 refine aY ?_
 refine af (by kernel_rfl) (fC _ x 1048576 (by decide)) ?_
 refine aY ?_
 refine aj (fun h1 => ?_) (fun h1 => ?_)
 ·have h1d := bsT h1
  have g'3 := (jn @h1 @h1d)
  refine aa g'3 ?_
  refine af (by kernel_rfl) (fC _ y 1048576 (by decide)) ?_
  refine aa g'3 ?_
  exact hQ _ _ (ae (.inl rfl) hbel (x := .bool (bZ y 1048576)) (ag Tryz.results180) rfl ⟨by simp [ptB, h1d], rfl⟩)
 ·have h1d := bsT h1
  have g'4 := (jn @h1 @h1d)
  refine aa g'4 ?_
  exact hQ _ _ (ae (.inl rfl) hbel (x := .bool false) (ag Tryz.results180) rfl ⟨by simp [ptB, h1d], rfl⟩)
theorem pvrc_c (H : ac) (x0 : Int) (y0 : Int) (x1 : Int) (y1 : Int) : ACalls Tryz.prog 176 [.agg [.int .i64 x0, .int .i64 y0, .int .i64 x1, .int .i64 y1]] H (fun v H' => v = .bool (fY x0 y0 x1 y1) ∧ H' = H) := by
 refine AcT true Tryz.func176 ?_; intro hbel Q hQ
 refine aY ?_
 refine aj (fun h1 => ?_) (fun h1 => ?_)
 ·have h1d := bsT h1
  have g'5 := (jn @h1 @h1d)
  refine aa g'5 ?_
  refine aj (fun h2 => ?_) (fun h2 => ?_)
  ·have h2d := bsT h2
   have g'6 := (jn @h2 (jn @h2d g'5))
   refine aa g'6 ?_
   refine af (by kernel_rfl) (pvpt_c _ x0 y0) ?_
   refine aa g'6 ?_
   refine aj (fun h3 => ?_) (fun h3 => ?_)
   ·have h3d := bsT h3
    have g'7 := (jn @h3 (jn @h3d g'6))
    refine aa g'7 ?_
    refine af (by kernel_rfl) (pvpt_c _ x1 y1) ?_
    refine aa g'7 ?_
    exact hQ _ _ (ae (.inl rfl) hbel (x := .bool (ptB x1 y1)) (ag Tryz.results176) rfl ⟨by simp [fY, h1d, h2d, h3d], rfl⟩)
   ·have h3d := bsT h3
    have g'8 := (jn @h3 (jn @h3d g'6))
    refine aa g'8 ?_
    exact hQ _ _ (ae (.inl rfl) hbel (x := .bool false) (ag Tryz.results176) rfl ⟨by simp [fY, h1d, h2d, h3d], rfl⟩)
  ·have h2d := bsT h2
   have g'9 := (jn @h2 (jn @h2d g'5))
   refine aa g'9 ?_
   exact hQ _ _ (ae (.inl rfl) hbel (x := .bool false) (ag Tryz.results176) rfl ⟨by simp [fY, h1d, h2d], rfl⟩)
 ·have h1d := bsT h1
  have g'10 := (jn @h1 @h1d)
  refine aa g'10 ?_
  exact hQ _ _ (ae (.inl rfl) hbel (x := .bool false) (ag Tryz.results176) rfl ⟨by simp [fY, h1d], rfl⟩)
theorem span_c (H : ac) (a : Int) (b : Int) (kba : -2097152 ≤ a ∧ a ≤ 2097152) (kbb : -2097152 ≤ b ∧ b ≤ 2097152) : ACalls Tryz.prog 211 [.int .i64 a, .int .i64 b] H (fun v H' => v = .tup [.int .i64 (spl a), .int .i64 (sph b)] ∧ H' = H) := by
 refine AcT true Tryz.func211 ?_; intro hbel Q hQ
 refine aY ?_
 refine af (by kernel_rfl) (kH _ (0 - a) 64 (by omega) (by omega)) ?_
 refine aY ?_
 refine af (by kernel_rfl) (kH _ b 64 (by omega) (by omega)) ?_
 refine aY ?_
 exact hQ _ _ (aF (.inl rfl) hbel (x := .tup [.int .i64 ((0 - ((0 - a) / 64)) - 1), .int .i64 (b / 64)]) (ag Tryz.results211) rfl ⟨rfl, rfl⟩)
end Go.Proofs.YtojbkljfioegkaaGreat
