/- Parts of the proof: walks and plain facts. Conditions: as each theorem states. -/
import Derived.Test.YtidlfjajjieepaaGreatG3
import Derived.Test.YtidlfjajjieepaaGreatG2
namespace Go.Proofs.YtidlfjajjieepaaGreat
set_option linter.unusedSimpArgs false
set_option linter.unusedVariables false
open Go.RowKit
abbrev T4 := Int × Int × Int × Int
def rqA (f le h : Int) : Int := cS h (mxI (f - le) 0)
def rqB (f le h : Int) : Int := cS h (mxI (f + le) 0)
def rqC (f le h : Int) : Int := cT h (mxI (f - le) 0)
def rqD (f le h : Int) : Int := cT h (mxI (f + le) 0)
def rqR (f le sl h : Int) : T4 := if f = 0 then (0, 0, 0, 0) else (mnI (rqA f le h) (rqB f le h) - sl, mnI (rqC f le h) (rqD f le h) - sl, mxI (rqA f le h) (rqB f le h) + sl, mxI (rqC f le h) (rqD f le h) + sl)
def rcS (f le sl : Int) (L : List Int) : Nat → T4
 | 0 => (0, 0, 0, 0)
 | n + 1 => (mnI (if n = 0 then (rqR f le sl (gi L n)).1 else (rcS f le sl L n).1) (rqR f le sl (gi L n)).1, mnI (if n = 0 then (rqR f le sl (gi L n)).2.1 else (rcS f le sl L n).2.1) (rqR f le sl (gi L n)).2.1, mxI (if n = 0 then (rqR f le sl (gi L n)).2.2.1 else (rcS f le sl L n).2.2.1) (rqR f le sl (gi L n)).2.2.1, mxI (if n = 0 then (rqR f le sl (gi L n)).2.2.2 else (rcS f le sl L n).2.2.2) (rqR f le sl (gi L n)).2.2.2)
theorem fD {a b : Int} : mnI a b ≤ a ∧ mnI a b ≤ b ∧ (mnI a b = a ∨ mnI a b = b) := by unfold mnI; split <;> omega
theorem fE {a b : Int} : a ≤ mxI a b ∧ b ≤ mxI a b ∧ (mxI a b = a ∨ mxI a b = b) := by unfold mxI; split <;> omega
theorem rqR_bd {f le sl h : Int} (hf : 0 ≤ f ∧ f ≤ 32) (hl : 0 ≤ le ∧ le ≤ 16) (hs : 0 ≤ sl ∧ sl ≤ 8) : (-64 ≤ (rqR f le sl h).1 ∧ (rqR f le sl h).1 ≤ (rqR f le sl h).2.2.1 ∧ (rqR f le sl h).2.2.1 ≤ 64) ∧ -64 ≤ (rqR f le sl h).2.1 ∧ (rqR f le sl h).2.1 ≤ (rqR f le sl h).2.2.2 ∧ (rqR f le sl h).2.2.2 ≤ 64 := by
 unfold rqR
 split
 ·exact ⟨by decide, by decide⟩
 ·have m1 : 0 ≤ mxI (f - le) 0 ∧ mxI (f - le) 0 ≤ 48 := by unfold mxI; split <;> omega
  have m2 : 0 ≤ mxI (f + le) 0 ∧ mxI (f + le) 0 ≤ 48 := by unfold mxI; split <;> omega
  have w1 := lz h m1.1
  have w2 := lz h m2.1
  have e1 : rqA f le h = cS h (mxI (f - le) 0) := rfl
  have e2 : rqB f le h = cS h (mxI (f + le) 0) := rfl
  have e3 : rqC f le h = cT h (mxI (f - le) 0) := rfl
  have e4 : rqD f le h = cT h (mxI (f + le) 0) := rfl
  have n1 := fD (a := rqA f le h) (b := rqB f le h)
  have n2 := fD (a := rqC f le h) (b := rqD f le h)
  have x1 := fE (a := rqA f le h) (b := rqB f le h)
  have x2 := fE (a := rqC f le h) (b := rqD f le h)
  simp only
  omega
theorem rcS_bd {f le sl : Int} {L : List Int} (hf : 0 ≤ f ∧ f ≤ 32) (hl : 0 ≤ le ∧ le ≤ 16) (hs : 0 ≤ sl ∧ sl ≤ 8) : ∀ n : Nat, (-64 ≤ (rcS f le sl L n).1 ∧ (rcS f le sl L n).1 ≤ (rcS f le sl L n).2.2.1 ∧ (rcS f le sl L n).2.2.1 ≤ 64) ∧ -64 ≤ (rcS f le sl L n).2.1 ∧ (rcS f le sl L n).2.1 ≤ (rcS f le sl L n).2.2.2 ∧ (rcS f le sl L n).2.2.2 ≤ 64
 | 0 => by unfold rcS; exact ⟨by decide, by decide⟩
 | n + 1 => by
  have r := rqR_bd (h := gi L n) hf hl hs
  have ih := rcS_bd (L := L) hf hl hs n
  unfold rcS
  simp only
  by_cases h0 : n = 0
  ·rw [if_pos h0, if_pos h0, if_pos h0, if_pos h0]
   have n1 := fD (a := (rqR f le sl (gi L n)).1) (b := (rqR f le sl (gi L n)).1)
   have n2 := fD (a := (rqR f le sl (gi L n)).2.1) (b := (rqR f le sl (gi L n)).2.1)
   have x1 := fE (a := (rqR f le sl (gi L n)).2.2.1) (b := (rqR f le sl (gi L n)).2.2.1)
   have x2 := fE (a := (rqR f le sl (gi L n)).2.2.2) (b := (rqR f le sl (gi L n)).2.2.2)
   omega
  ·rw [if_neg h0, if_neg h0, if_neg h0, if_neg h0]
   have n1 := fD (a := (rcS f le sl L n).1) (b := (rqR f le sl (gi L n)).1)
   have n2 := fD (a := (rcS f le sl L n).2.1) (b := (rqR f le sl (gi L n)).2.1)
   have x1 := fE (a := (rcS f le sl L n).2.2.1) (b := (rqR f le sl (gi L n)).2.2.1)
   have x2 := fE (a := (rcS f le sl L n).2.2.2) (b := (rqR f le sl (gi L n)).2.2.2)
   omega
def imR (b : T6) (t f tu le sl : Int) : T4 := rcS f le sl (mrkA b.2.2.2.2.1 b.2.2.2.2.2 t tu) (mrkA b.2.2.2.2.1 b.2.2.2.2.2 t tu).length
def imB (b : T6) (t f tu le sl : Int) : T6 := (b.1 + (imR b t f tu le sl).1, b.2.1 + (imR b t f tu le sl).2.1, b.2.2.1 + (imR b t f tu le sl).2.2.1, b.2.2.2.1 + (imR b t f tu le sl).2.2.2, grF (shF b.2.2.2.2.1 b.2.2.2.2.2 t) (cE b.2.2.2.2.2) tu, grC (cE b.2.2.2.2.2) tu)
def imO (b : T6) (t f tu le sl : Int) : Bool := !([(imB b t f tu le sl).1, (imB b t f tu le sl).2.2.1, (imB b t f tu le sl).2.1, (imB b t f tu le sl).2.2.2.1].any offB)
def imE (b : T6) (t f tu le sl : Int) : Int := if imO b t f tu le sl = true then 0 else 2
def imS (l : List T6) (t f tu le sl : Int) : Nat → List T6
 | 0 => []
 | n + 1 => imS l t f tu le sl n ++ [imB (g6 l n) t f tu le sl]
def imA (l : List T6) (t f tu le sl : Int) : Bool := l.all fun b => imO b t f tu le sl
theorem fo {l : List T6} {t f tu le sl : Int} : ∀ n : Nat, (imS l t f tu le sl n).length = n
 | 0 => rfl
 | n + 1 => by rw [imS, List.length_append, fo n]; rfl
open Go.RowKit
section
variable (H : ac)
theorem psize_c (x : Int) : ACalls Tryz.prog 57 [.int .i64 x] H (fun v H' => v = .bool (decide (1 ≤ x) && decide (x ≤ 64)) ∧ H' = H) := by
 (refine b9 try_mixed Tryz.func57 true _ rfl (Nat.le_of_ble_eq_true (by kernel_rfl)) (by kernel_rfl) ?_; intro hbel Q hQ hQ' c hc; unfold Tryz.f57 at hc; simp only [Option.some.injEq] at hc; subst hc; clear hQ')
 by_cases h1 : 1 ≤ x
 ·simp -implicitDefEqProofs (disch := omega) only [h1, simprocAttr, aF, aG, Function.comp_apply, one1, lenV, ap, az, aA, aop, AV.ofValue, AV.ofCell, AV.cells, AV.flat, AV.one, arep, aP, av, aE]
  exact hQ _ _ (au (.inl rfl) hbel (x := .bool (decide (x ≤ 64))) (ai Tryz.results57) rfl ⟨by simp only [h1, decide_true, Bool.true_and], rfl⟩)
 ·simp -implicitDefEqProofs (disch := omega) only [h1, simprocAttr, aF, aG, Function.comp_apply, one1, lenV, ap, az, aA, aop, AV.ofValue, AV.ofCell, AV.cells, AV.flat, AV.one, arep, aP, av, aE]
  exact hQ _ _ (au (.inl rfl) hbel (x := .bool false) (ai Tryz.results57) rfl ⟨by simp only [h1, decide_false, Bool.false_and], rfl⟩)
set_option maxRecDepth 100000 in
theorem max_c (xs : List Int) (b : Nat) (own : Bool) (cap : Option Nat) (hb : H[b]? = some (.cells own 1 (ints .u8 xs))) (h0 : 0 < xs.length) (hn : xs.length ≤ 1000000) : ACalls Tryz.prog 58 [.sl (some (b, 0)) xs.length cap] H (fun v H' => ∃ m, v = .int .u8 m ∧ m ∈ xs ∧ (∀ x ∈ xs, x ≤ m) ∧ H' = H) := by
 have hbl := getElem?_lt hb
 have hg0 := dh (k := .u8) (xs := xs) (j := 0) h0
 (refine b9 try_mixed Tryz.func58 true _ rfl (Nat.le_of_ble_eq_true (by kernel_rfl)) (by kernel_rfl) ?_; intro hbel Q hQ hQ' c hc; unfold Tryz.f58 at hc; simp only [Option.some.injEq] at hc; subst hc; clear hQ')
 have h1 : ¬ (xs.length : Int) < 1 := by omega
 simp -implicitDefEqProofs (disch := omega) only [h1, hb, hg0, simprocAttr, aF, aG, Function.comp_apply, one1, lenV, ap, az, aA, aop, AV.ofValue, AV.ofCell, AV.cells, AV.flat, AV.one, arep, aP, av, aE]
 repeat refine And.intro (by omega) ?_
 refine go_loop try_mixed (by kernel_rfl) (fun k F Hx => ∃ (i : Nat) (m : Int), i + k = xs.length ∧ 1 ≤ i ∧ m ∈ xs ∧ (∀ j, j < i → gi xs j ≤ m) ∧ F = [(0, .sl (some (b, 0)) xs.length none), (3, .int .u8 m), (4, .int .i64 (i : Nat))] ∧ Hx = H) (xs.length - 1) ?_ ?_
 ·refine ⟨_, _, _, ⟨1, gi xs 0, by omega, by omega, kH h0, fun j hj => by obtain rfl : j = 0 := by omega
                                                                          exact Int.le_refl _, rfl, rfl⟩, Abs.by0 hbel ?_⟩
  exact absT
 ·rintro k F Hx ⟨i, m, hik, hi1, hm, hle, rfl, rfl⟩ J hJ
  by_cases hi : i < xs.length
  ·have hii : (i : Int) < (xs.length : Int) := by omega
   have hg := dh (k := .u8) (xs := xs) (j := i) hi
   simp -implicitDefEqProofs (disch := omega) only [hii, hb, hg, simprocAttr, aF, aG, Function.comp_apply, one1, lenV, ap, az, aA, aop, AV.ofValue, AV.ofCell, AV.cells, AV.flat, AV.one, arep, aP, av, aE]
   repeat refine And.intro (by omega) ?_
   refine hJ _ _ ⟨k - 1, by omega, _, _, _, ⟨i + 1, if m < gi xs i then gi xs i else m, by omega, by omega, by split; exact kH hi; exact hm, fun j hj => ?_, rfl, rfl⟩, Abs.by0 hbel ?_⟩
   ·by_cases hji : j = i
    ·subst hji; split <;> omega
    ·have := hle j (by omega); split <;> omega
   ·exact absT
  ·have hnn : ¬ ((i : Int) < (xs.length : Int)) := by omega
   simp -implicitDefEqProofs (disch := omega) only [hnn, simprocAttr, aF, aG, Function.comp_apply, one1, lenV, ap, az, aA, aop, AV.ofValue, AV.ofCell, AV.cells, AV.flat, AV.one, arep, aP, av, aE]
   exact hQ _ _ (au (.inl rfl) hbel (x := .int .u8 m) (ai Tryz.results58) rfl ⟨m, rfl, hm, fun x hx => by
    obtain ⟨j, hj, rfl⟩ := List.getElem_of_mem hx
    rw [← gi_lt hj]; exact hle j (by omega), rfl⟩)
theorem el {W Hh : Int} {xs : List Int} (h : ¬ (1 ≤ W ∧ W ≤ 64 ∧ 1 ≤ Hh ∧ Hh ≤ 64 ∧ (xs.length : Int) = W * Hh)) : cl W Hh xs = false := ph.2 fun v => h ⟨v.w0, v.w1, v.h0, v.h1, v.len⟩
set_option maxRecDepth 100000 in
theorem hI (W Hh : Int) (s : AV) (xs : List Int) (hs : IsI H .u8 s xs) : ACalls Tryz.prog 27 [.agg [.int .i64 W, .int .i64 Hh, s]] H (fun v H' => v = .bool (cl W Hh xs) ∧ H' = H) := by
 have hs1 : ∃ a c, s = .sl a xs.length c := by
  rcases hs with ⟨rfl, rfl⟩ | ⟨b, own, cap, rfl, hb⟩
  ·exact ⟨_, _, rfl⟩
  ·exact ⟨_, _, rfl⟩
 obtain ⟨a1, c1, rfl⟩ := hs1
 (refine b9 try_mixed Tryz.func27 true _ rfl (Nat.le_of_ble_eq_true (by kernel_rfl)) (by kernel_rfl) ?_; intro hbel Q hQ hQ' c hc; unfold Tryz.f27 at hc; simp only [Option.some.injEq] at hc; subst hc; clear hQ')
 simp -implicitDefEqProofs (disch := omega) only [simprocAttr, aF, aG, Function.comp_apply, one1, lenV, ap, az, aA, aop, AV.ofValue, AV.ofCell, AV.cells, AV.flat, AV.one, arep, aP, av, aE]
 refine af (by kernel_rfl) (psize_c _ _) ?_
 cases h1 : (decide (1 ≤ W) && decide (W ≤ 64))
 ·simp only [Bool.and_eq_false_iff, decide_eq_false_iff_not] at h1
  simp -implicitDefEqProofs (disch := omega) only [simprocAttr, aF, aG, Function.comp_apply, one1, lenV, ap, az, aA, aop, AV.ofValue, AV.ofCell, AV.cells, AV.flat, AV.one, arep, aP, av, aE]
  exact hQ _ _ (ae (.inl rfl) hbel (x := .bool false) (ai Tryz.results27) rfl ⟨by rw [el (by omega)], rfl⟩)
 simp only [Bool.and_eq_true, decide_eq_true_eq] at h1
 simp -implicitDefEqProofs (disch := omega) only [simprocAttr, aF, aG, Function.comp_apply, one1, lenV, ap, az, aA, aop, AV.ofValue, AV.ofCell, AV.cells, AV.flat, AV.one, arep, aP, av, aE]
 refine af (by kernel_rfl) (psize_c _ _) ?_
 cases h2 : (decide (1 ≤ Hh) && decide (Hh ≤ 64))
 ·simp only [Bool.and_eq_false_iff, decide_eq_false_iff_not] at h2
  simp -implicitDefEqProofs (disch := omega) only [simprocAttr, aF, aG, Function.comp_apply, one1, lenV, ap, az, aA, aop, AV.ofValue, AV.ofCell, AV.cells, AV.flat, AV.one, arep, aP, av, aE]
  exact hQ _ _ (ae (.inl rfl) hbel (x := .bool false) (ai Tryz.results27) rfl ⟨by rw [el (by omega)], rfl⟩)
 simp only [Bool.and_eq_true, decide_eq_true_eq] at h2
 have hm := i6 (a := W) (b := Hh) (by omega) (by omega) (by omega) (by omega)
 have hm1 := Int.mul_le_mul (a := 1) (b := 1) (c := W) (d := Hh) h1.1 h2.1 (by omega) (by omega)
 by_cases h3 : (xs.length : Int) = W * Hh
 ·have h3' : ((xs.length : Int) != W * Hh) = false := by simp [h3]
  have h4 : ((xs.length : Int) == 0) = false := beq_eq_false_iff_ne.2 (by omega)
  obtain ⟨b, own, cap, e1, hb⟩ := hs.resolve_left (fun h => by rw [h.1] at h3; simp at h3; omega)
  injection e1 with e1 _ e1'; subst e1 e1'
  have hb0 := fun l => aq (l := l) hb
  have hbl := getElem?_lt hb
  simp -implicitDefEqProofs (disch := omega) only [h3', h4, simprocAttr, aF, aG, Function.comp_apply, one1, lenV, ap, az, aA, aop, AV.ofValue, AV.ofCell, AV.cells, AV.flat, AV.one, arep, aP, av, aE]
  refine call_of (by kernel_rfl) (max_c _ xs b own c1 (hb0 _) (by omega) (by omega)) ?_
  rintro x H' ⟨m, rfl, hm, hle, rfl⟩
  simp -implicitDefEqProofs (disch := omega) only [simprocAttr, aF, aG, Function.comp_apply, one1, lenV, ap, az, aA, aop, AV.ofValue, AV.ofCell, AV.cells, AV.flat, AV.one, arep, aP, av, aE]
  exact hQ _ _ (ae (.inl rfl) hbel (x := .bool (decide (m ≤ 2))) (ai Tryz.results27) rfl ⟨by
   congr 1
   rw [Bool.eq_iff_iff, cJ, decide_eq_true_eq]
   exact ⟨fun h => ⟨h1.1, h1.2, h2.1, h2.2, h3, fun v hv => Int.le_trans (hle v hv) h⟩, fun h => h.le m hm⟩, rfl⟩)
 ·have h3' : ((xs.length : Int) != W * Hh) = true := by simp [h3]
  simp -implicitDefEqProofs (disch := omega) only [h3', simprocAttr, aF, aG, Function.comp_apply, one1, lenV, ap, az, aA, aop, AV.ofValue, AV.ofCell, AV.cells, AV.flat, AV.one, arep, aP, av, aE]
  exact hQ _ _ (ae (.inl rfl) hbel (x := .bool false) (ai Tryz.results27) rfl ⟨by rw [el (by omega)], rfl⟩)
set_option maxRecDepth 100000 in
theorem rplan_a (W Hh : Int) (s : AV) (xs : List Int) (hs : IsI H .u8 s xs) : ACalls Tryz.prog 32 [.agg [.int .i64 W, .int .i64 Hh, s]] H (fun v H' => v = .bool (cl W Hh xs) ∧ H' = H) := by
 have hs1 : ∃ a c, s = .sl a xs.length c := by
  rcases hs with ⟨rfl, rfl⟩ | ⟨b, own, cap, rfl, hb⟩
  ·exact ⟨_, _, rfl⟩
  ·exact ⟨_, _, rfl⟩
 obtain ⟨a1, c1, rfl⟩ := hs1
 (refine b9 try_mixed Tryz.func32 true _ rfl (Nat.le_of_ble_eq_true (by kernel_rfl)) (by kernel_rfl) ?_; intro hbel Q hQ hQ' c hc; unfold Tryz.f32 at hc; simp only [Option.some.injEq] at hc; subst hc; clear hQ')
 by_cases h1 : W < 1
 ·simp -implicitDefEqProofs (disch := omega) only [h1, simprocAttr, aF, aG, Function.comp_apply, one1, lenV, ap, az, aA, aop, AV.ofValue, AV.ofCell, AV.cells, AV.flat, AV.one, arep, aP, av, aE]
  exact hQ _ _ (ae (.inl rfl) hbel (x := .bool false) (ai Tryz.results32) rfl ⟨by rw [el (by omega)], rfl⟩)
 by_cases h2 : 64 < W
 ·simp -implicitDefEqProofs (disch := omega) only [h1, h2, simprocAttr, aF, aG, Function.comp_apply, one1, lenV, ap, az, aA, aop, AV.ofValue, AV.ofCell, AV.cells, AV.flat, AV.one, arep, aP, av, aE]
  exact hQ _ _ (ae (.inl rfl) hbel (x := .bool false) (ai Tryz.results32) rfl ⟨by rw [el (by omega)], rfl⟩)
 by_cases h3 : Hh < 1
 ·simp -implicitDefEqProofs (disch := omega) only [h1, h2, h3, simprocAttr, aF, aG, Function.comp_apply, one1, lenV, ap, az, aA, aop, AV.ofValue, AV.ofCell, AV.cells, AV.flat, AV.one, arep, aP, av, aE]
  exact hQ _ _ (ae (.inl rfl) hbel (x := .bool false) (ai Tryz.results32) rfl ⟨by rw [el (by omega)], rfl⟩)
 by_cases h4 : 64 < Hh
 ·simp -implicitDefEqProofs (disch := omega) only [h1, h2, h3, h4, simprocAttr, aF, aG, Function.comp_apply, one1, lenV, ap, az, aA, aop, AV.ofValue, AV.ofCell, AV.cells, AV.flat, AV.one, arep, aP, av, aE]
  exact hQ _ _ (ae (.inl rfl) hbel (x := .bool false) (ai Tryz.results32) rfl ⟨by rw [el (by omega)], rfl⟩)
 have hm := i6 (a := W) (b := Hh) (by omega) (by omega) (by omega) (by omega)
 have hm1 := Int.mul_le_mul (a := 1) (b := 1) (c := W) (d := Hh) (by omega) (by omega) (by omega) (by omega)
 by_cases h5 : (xs.length : Int) = W * Hh
 ·have h5' : ((xs.length : Int) != W * Hh) = false := by simp [h5]
  obtain ⟨b, own, cap, e1, hb⟩ := hs.resolve_left (fun h => by rw [h.1] at h5; simp at h5; omega)
  injection e1 with e1 _ e1'; subst e1 e1'
  have hb0 := fun l => aq (l := l) hb
  have hbl := getElem?_lt hb
  simp -implicitDefEqProofs (disch := omega) only [h1, h2, h3, h4, h5', simprocAttr, aF, aG, Function.comp_apply, one1, lenV, ap, az, aA, aop, AV.ofValue, AV.ofCell, AV.cells, AV.flat, AV.one, arep, aP, av, aE]
  refine go_loop try_mixed (by kernel_rfl) (fun k F Hx => ∃ (i : Nat), i + k = xs.length ∧ (∀ j, j < i → gi xs j ≤ 2) ∧ F = [(1, .ptr (some (H.length, 0))), (3, .int .i64 (i : Nat))] ∧ Hx = H ++ [.cells true 0 [.int .i64 W, .int .i64 Hh, .sl (some (b, 0)) xs.length c1]]) xs.length ?_ ?_
  ·refine ⟨_, _, _, ⟨0, by omega, fun j hj => absurd hj (Nat.not_lt_zero j), rfl, rfl⟩, Abs.by hbel [0] (by decide) ?_⟩
   exact absT
  ·rintro k F Hx ⟨i, hik, hle, rfl, rfl⟩ J hJ
   by_cases hi : i < xs.length
   ·have hii : (i : Int) < (xs.length : Int) := by omega
    have hg := dh (k := .u8) (xs := xs) (j := i) hi
    by_cases h6 : 2 < gi xs i
    ·simp -implicitDefEqProofs (disch := omega) only [hii, hb0, hg, h6, simprocAttr, aF, aG, Function.comp_apply, one1, lenV, ap, az, aA, aop, AV.ofValue, AV.ofCell, AV.cells, AV.flat, AV.one, arep, aP, av, aE]
     repeat refine And.intro (by omega) ?_
     exact hQ _ _ (ae (.inl rfl) hbel (x := .bool false) (ai Tryz.results32) rfl ⟨by rw [ph.2 fun v => absurd (v.le _ (kH hi)) (by omega)], rfl⟩)
    ·simp -implicitDefEqProofs (disch := omega) only [hii, hb0, hg, h6, simprocAttr, aF, aG, Function.comp_apply, one1, lenV, ap, az, aA, aop, AV.ofValue, AV.ofCell, AV.cells, AV.flat, AV.one, arep, aP, av, aE]
     repeat refine And.intro (by omega) ?_
     refine hJ _ _ ⟨k - 1, by omega, _, _, _, ⟨i + 1, by omega, fun j hj => ?_, rfl, rfl⟩, Abs.by hbel [0] (by decide) ?_⟩
     ·by_cases hji : j = i
      ·subst hji; omega
      ·exact hle j (by omega)
     ·exact absT
   ·have hnn : ¬ ((i : Int) < (xs.length : Int)) := by omega
    simp -implicitDefEqProofs (disch := omega) only [hnn, simprocAttr, aF, aG, Function.comp_apply, one1, lenV, ap, az, aA, aop, AV.ofValue, AV.ofCell, AV.cells, AV.flat, AV.one, arep, aP, av, aE]
    exact hQ _ _ (ae (.inl rfl) hbel (x := .bool true) (ai Tryz.results32) rfl ⟨by rw [cJ.2 ⟨by omega, by omega, by omega, by omega, h5, fun x hx => by
     obtain ⟨j, hj, rfl⟩ := List.getElem_of_mem hx
     rw [← gi_lt hj]; exact hle j (by omega)⟩], rfl⟩)
 ·have h5' : ((xs.length : Int) != W * Hh) = true := by simp [h5]
  simp -implicitDefEqProofs (disch := omega) only [h1, h2, h3, h4, h5', simprocAttr, aF, aG, Function.comp_apply, one1, lenV, ap, az, aA, aop, AV.ofValue, AV.ofCell, AV.cells, AV.flat, AV.one, arep, aP, av, aE]
  exact hQ _ _ (ae (.inl rfl) hbel (x := .bool false) (ai Tryz.results32) rfl ⟨by rw [el (by omega)], rfl⟩)
end
set_option linter.unusedSimpArgs false
set_option linter.unusedVariables false
open Go.RowKit
section
variable {H : ac} {W Hh x y : Int} {s : AV} {xs : List Int} {g : Nat} {own : Bool} {cap : Option Nat} {n : Nat}
end
set_option linter.unusedSimpArgs false
set_option linter.unusedVariables false
open Go.RowKit
set_option maxHeartbeats 4000000
set_option maxRecDepth 100000
theorem pinside_c (H : ac) (W : Int) (Hh : Int) (pp : AV) (xs : List Int) (x : Int) (y : Int) (hpp : Sl H 1 pp xs.length (ints .u8 xs)) : ACalls Tryz.prog 132 [.agg [.int .i64 W, .int .i64 Hh, pp], .agg [.int .i64 x, .int .i64 y]] H (fun v H' => v = .bool (inB W Hh x y) ∧ H' = H) := by
 obtain ⟨bpp, opp, cpp, rfl, hbpp⟩ := hpp
 have hblpp := getElem?_lt hbpp
 have hb0pp := fun l => aq (l := l) hbpp
 refine AcT true Tryz.func132 ?_; intro hbel Q hQ
 have g'1 := (jn @hbpp @hb0pp)
 refine aa g'1 ?_
 refine al (fun h1 => ?_) (fun h1 => ?_)
 ·have h1d := bsT h1
  have g'2 := (jn @h1 (jn @h1d g'1))
  refine aa g'2 ?_
  refine al (fun h2 => ?_) (fun h2 => ?_)
  ·have h2d := bsT h2
   have g'3 := (jn @h2 (jn @h2d g'2))
   refine aa g'3 ?_
   refine al (fun h3 => ?_) (fun h3 => ?_)
   ·have h3d := bsT h3
    have g'4 := (jn @h3 (jn @h3d g'3))
    refine aa g'4 ?_
    exact hQ _ _ (ae (.inl rfl) hbel (x := .bool (decide (y < Hh))) (ai Tryz.results132) rfl ⟨by first | (simp [inB, h1d, h2d, h3d]; done) | (simp [inB, h1d, h2d, h3d]; omega), rfl⟩)
   ·have h3d := bsT h3
    have g'5 := (jn @h3 (jn @h3d g'3))
    refine aa g'5 ?_
    exact hQ _ _ (ae (.inl rfl) hbel (x := .bool false) (ai Tryz.results132) rfl ⟨by first | (simp [inB, h1d, h2d, h3d]; done) | (simp [inB, h1d, h2d, h3d]; omega), rfl⟩)
  ·have h2d := bsT h2
   have g'6 := (jn @h2 (jn @h2d g'2))
   refine aa g'6 ?_
   exact hQ _ _ (ae (.inl rfl) hbel (x := .bool false) (ai Tryz.results132) rfl ⟨by first | (simp [inB, h1d, h2d]; done) | (simp [inB, h1d, h2d]; omega), rfl⟩)
 ·have h1d := bsT h1
  have g'7 := (jn @h1 (jn @h1d g'1))
  refine aa g'7 ?_
  exact hQ _ _ (ae (.inl rfl) hbel (x := .bool false) (ai Tryz.results132) rfl ⟨by first | (simp [inB, h1d]; done) | (simp [inB, h1d]; omega), rfl⟩)
theorem pat_c (H : ac) (W : Int) (Hh : Int) (pp : AV) (xs : List Int) (x : Int) (y : Int) (hpp : Sl H 1 pp xs.length (ints .u8 xs)) (hV : cl W Hh xs = true) : ACalls Tryz.prog 86 [.agg [.int .i64 W, .int .i64 Hh, pp], .agg [.int .i64 x, .int .i64 y]] H (fun v H' => v = .int .u8 (atI W Hh xs x y) ∧ H' = H) := by
 obtain ⟨bpp, opp, cpp, rfl, hbpp⟩ := hpp
 have hblpp := getElem?_lt hbpp
 have hb0pp := fun l => aq (l := l) hbpp
 have hVl := cJ.1 hV
 have hll := hVl.len
 have hpp2 := hVl.pos
 refine AcT true Tryz.func86 ?_; intro hbel Q hQ
 have g'8 := (jn @hbpp (jn @hb0pp @hV))
 refine aa g'8 ?_
 refine af (by kernel_rfl) (hI _ W Hh _ xs (.inr ⟨_, _, _, rfl, by first | exact hb0pp _ | exact hbpp⟩)) ?_
 refine aa g'8 ?_
 refine af (by kernel_rfl) (pinside_c _ W Hh _ xs x y ⟨_, _, _, rfl, by first | exact hb0pp _ | exact hbpp⟩) ?_
 refine aa g'8 ?_
 refine ak (fun h1 => ?_) (fun h1 => ?_)
 ·have h1d := bsT h1
  have g'9 := (jn @h1 (jn @h1d g'8))
  refine aa g'9 ?_
  exact hQ _ _ (ae (.inl rfl) hbel (x := .int .u8 2) (ai Tryz.results86) rfl ⟨by simp [atI, h1d], rfl⟩)
 ·have h1d := bsT h1
  have hin := h1d
  obtain ⟨i1, i2, i3, i4, i5, -⟩ := hVl.idx hin
  have q2 := dh (k := .u8) (xs := xs) (j := ((y * W) + x).toNat) (by omega)
  have g'10 := (jn @h1 (jn @h1d (jn @q2 g'8)))
  refine aa g'10 ?_
  exact hQ _ _ (ae (.inl rfl) hbel (x := .int .u8 (gi xs (((y * W) + x).toNat))) (ai Tryz.results86) rfl ⟨by simp [atI, h1d], rfl⟩)
open Go.RowKit
open Go.RowKit
open Go.RowKit
open Go.RowKit
open Go.RowKit
theorem ddown_c (H : ac) (a : Int) (b : Int) (hb : 0 < b) (hw : -4611686018427387904 ≤ a ∧ a ≤ 4611686018427387904) : ACalls Tryz.prog 223 [.int .i64 a, .int .i64 b] H (fun v H' => v = .int .i64 (a / b) ∧ H' = H) := by
 have htd := g3 (a := a) (b := b) hb hw
 refine AcT true Tryz.func223 ?_; intro hbel Q hQ
 refine aQ ?_
 refine ak (fun h1 => ?_) (fun h1 => ?_)
 ·have h1d := bsT h1
  have hfinq : Int.tdiv a b - 1 = a / b := by rw [← gz hb, if_pos h1d]
  have g'1 := (jn @h1 @h1d)
  refine aa g'1 ?_
  exact hQ _ _ (au (.inl rfl) hbel (x := .int .i64 ((Int.tdiv a b) - 1)) (ai Tryz.results223) rfl ⟨congrArg (AV.int .i64) hfinq, rfl⟩)
 ·have h1d := bsT h1
  have hfinq : Int.tdiv a b = a / b := by rw [← gz hb, if_neg (by omega)]
  have g'2 := (jn @h1 @h1d)
  refine aa g'2 ?_
  exact hQ _ _ (au (.inl rfl) hbel (x := .int .i64 (Int.tdiv a b)) (ai Tryz.results223) rfl ⟨congrArg (AV.int .i64) hfinq, rfl⟩)
theorem bT (H : ac) (h : Int) (n : Int) (hn : -1000 ≤ n ∧ n ≤ 1000) : ACalls Tryz.prog 189 [.int .i64 h, .int .i64 n] H (fun v H' => v = .agg [.int .i64 (cS h (mxI n 0)), .int .i64 (cT h (mxI n 0))] ∧ H' = H) := by
 have hz : (if 0 < n then n else 0) = mxI n 0 := by unfold mxI; split <;> split <;> omega
 have hzb : 0 ≤ mxI n 0 ∧ mxI n 0 ≤ 1000 := by unfold mxI; split <;> omega
 have hdv := dm.1 (gh h)
 have hm1 := bE (a := mxI n 0) (b := (cR h).1) (A := 1000) (B := 8065) (by omega) (by omega)
 have hm2 := bE (a := mxI n 0) (b := (cR h).2.1) (A := 1000) (B := 8065) (by omega) (by omega)
 refine AcT true Tryz.func189 ?_; intro hbel Q hQ
 have g'3 := @hz
 refine aa g'3 ?_
 refine af (by kernel_rfl) (dir_c _ h) ?_
 refine aa g'3 ?_
 refine aB (by kernel_rfl) (ddown_c _ ((mxI n 0) * ((cR h).1)) ((cR h).2.2) (by omega) (by omega)) ?_
 refine aa g'3 ?_
 refine aB (by kernel_rfl) (ddown_c _ ((mxI n 0) * ((cR h).2.1)) ((cR h).2.2) (by omega) (by omega)) ?_
 refine aa g'3 ?_
 exact hQ _ _ (ae (.inl rfl) hbel (x := .agg [.int .i64 (((mxI n 0) * ((cR h).1)) / ((cR h).2.2)), .int .i64 (((mxI n 0) * ((cR h).2.1)) / ((cR h).2.2))]) (ai Tryz.results189) rfl ⟨rfl, rfl⟩)
open Go.RowKit
theorem hvv_c (H : ac) (vx : Int) (vy : Int) (vd : Int) : ACalls Tryz.prog 230 [.agg [.int .i64 vx, .int .i64 vy, .int .i64 vd]] H (fun v H' => v = .bool (dc vx vy vd) ∧ H' = H) := by
 refine AcT true Tryz.func230 ?_; intro hbel Q hQ
 refine aQ ?_
 refine al (fun h1 => ?_) (fun h1 => ?_)
 ·have h1d := bsT h1
  have g'1 := (jn @h1 @h1d)
  refine aa g'1 ?_
  refine al (fun h2 => ?_) (fun h2 => ?_)
  ·have h2d := bsT h2
   have g'2 := (jn @h2 (jn @h2d g'1))
   refine aa g'2 ?_
   refine al (fun h3 => ?_) (fun h3 => ?_)
   ·have h3d := bsT h3
    have g'3 := (jn @h3 (jn @h3d g'2))
    refine aa g'3 ?_
    refine al (fun h4 => ?_) (fun h4 => ?_)
    ·have h4d := bsT h4
     have g'4 := (jn @h4 (jn @h4d g'3))
     refine aa g'4 ?_
     refine al (fun h5 => ?_) (fun h5 => ?_)
     ·have h5d := bsT h5
      have g'5 := (jn @h5 (jn @h5d g'4))
      refine aa g'5 ?_
      refine ak (fun h6 => ?_) (fun h6 => ?_)
      ·have h6d := bsT h6
       have g'6 := (jn @h6 (jn @h6d g'5))
       refine aa g'6 ?_
       exact hQ _ _ (ae (.inl rfl) hbel (x := .bool false) (ai Tryz.results230) rfl ⟨by first | (refine congrArg AV.bool ?_; rw [Bool.eq_iff_iff, aR, beq_iff_eq]; exact ⟨fun e => ⟨⟨by omega, by omega⟩, ⟨by omega, by omega⟩, ⟨by omega, by omega⟩, e⟩, fun e => e.2.2.2⟩) | (refine congrArg AV.bool ?_; rw [Bool.eq_iff_iff, aR]; exact ⟨fun e => (by cases e), fun k => (by omega)⟩), rfl⟩)
      ·have h6d := bsT h6
       have hm1 := bE (a := vx) (b := vx) (A := 67108864) (B := 67108864) (by omega) (by omega)
       have hm2 := bE (a := vy) (b := vy) (A := 67108864) (B := 67108864) (by omega) (by omega)
       have hm3 := bE (a := vd) (b := vd) (A := 67108864) (B := 67108864) (by omega) (by omega)
       have g'7 := (jn @h6 (jn @h6d g'5))
       refine aa g'7 ?_
       exact hQ _ _ (ae (.inl rfl) hbel (x := .bool (((vx * vx) + (vy * vy)) == (vd * vd))) (ai Tryz.results230) rfl ⟨by first | (refine congrArg AV.bool ?_; rw [Bool.eq_iff_iff, aR, beq_iff_eq]; exact ⟨fun e => ⟨⟨by omega, by omega⟩, ⟨by omega, by omega⟩, ⟨by omega, by omega⟩, e⟩, fun e => e.2.2.2⟩) | (refine congrArg AV.bool ?_; rw [Bool.eq_iff_iff, aR]; exact ⟨fun e => (by cases e), fun k => (by omega)⟩), rfl⟩)
     ·have h5d := bsT h5
      have g'8 := (jn @h5 (jn @h5d g'4))
      refine aa g'8 ?_
      exact hQ _ _ (ae (.inl rfl) hbel (x := .bool false) (ai Tryz.results230) rfl ⟨by first | (refine congrArg AV.bool ?_; rw [Bool.eq_iff_iff, aR, beq_iff_eq]; exact ⟨fun e => ⟨⟨by omega, by omega⟩, ⟨by omega, by omega⟩, ⟨by omega, by omega⟩, e⟩, fun e => e.2.2.2⟩) | (refine congrArg AV.bool ?_; rw [Bool.eq_iff_iff, aR]; exact ⟨fun e => (by cases e), fun k => (by omega)⟩), rfl⟩)
    ·have h4d := bsT h4
     have g'9 := (jn @h4 (jn @h4d g'3))
     refine aa g'9 ?_
     exact hQ _ _ (ae (.inl rfl) hbel (x := .bool false) (ai Tryz.results230) rfl ⟨by first | (refine congrArg AV.bool ?_; rw [Bool.eq_iff_iff, aR, beq_iff_eq]; exact ⟨fun e => ⟨⟨by omega, by omega⟩, ⟨by omega, by omega⟩, ⟨by omega, by omega⟩, e⟩, fun e => e.2.2.2⟩) | (refine congrArg AV.bool ?_; rw [Bool.eq_iff_iff, aR]; exact ⟨fun e => (by cases e), fun k => (by omega)⟩), rfl⟩)
   ·have h3d := bsT h3
    have g'10 := (jn @h3 (jn @h3d g'2))
    refine aa g'10 ?_
    exact hQ _ _ (ae (.inl rfl) hbel (x := .bool false) (ai Tryz.results230) rfl ⟨by first | (refine congrArg AV.bool ?_; rw [Bool.eq_iff_iff, aR, beq_iff_eq]; exact ⟨fun e => ⟨⟨by omega, by omega⟩, ⟨by omega, by omega⟩, ⟨by omega, by omega⟩, e⟩, fun e => e.2.2.2⟩) | (refine congrArg AV.bool ?_; rw [Bool.eq_iff_iff, aR]; exact ⟨fun e => (by cases e), fun k => (by omega)⟩), rfl⟩)
  ·have h2d := bsT h2
   have g'11 := (jn @h2 (jn @h2d g'1))
   refine aa g'11 ?_
   exact hQ _ _ (ae (.inl rfl) hbel (x := .bool false) (ai Tryz.results230) rfl ⟨by first | (refine congrArg AV.bool ?_; rw [Bool.eq_iff_iff, aR, beq_iff_eq]; exact ⟨fun e => ⟨⟨by omega, by omega⟩, ⟨by omega, by omega⟩, ⟨by omega, by omega⟩, e⟩, fun e => e.2.2.2⟩) | (refine congrArg AV.bool ?_; rw [Bool.eq_iff_iff, aR]; exact ⟨fun e => (by cases e), fun k => (by omega)⟩), rfl⟩)
 ·have h1d := bsT h1
  have g'12 := (jn @h1 @h1d)
  refine aa g'12 ?_
  exact hQ _ _ (ae (.inl rfl) hbel (x := .bool false) (ai Tryz.results230) rfl ⟨by first | (refine congrArg AV.bool ?_; rw [Bool.eq_iff_iff, aR, beq_iff_eq]; exact ⟨fun e => ⟨⟨by omega, by omega⟩, ⟨by omega, by omega⟩, ⟨by omega, by omega⟩, e⟩, fun e => e.2.2.2⟩) | (refine congrArg AV.bool ?_; rw [Bool.eq_iff_iff, aR]; exact ⟨fun e => (by cases e), fun k => (by omega)⟩), rfl⟩)
theorem hturn_c (H : ac) (a : Vec) (b : Vec) (ha : eD a = true) (hb : eD b = true) : ACalls Tryz.prog 210 [.agg [.int .i64 a.1, .int .i64 a.2.1, .int .i64 a.2.2], .agg [.int .i64 b.1, .int .i64 b.2.1, .int .i64 b.2.2]] H (fun v H' => v = .tup [.agg [.int .i64 ((fL a b).1), .int .i64 ((fL a b).2.1), .int .i64 ((fL a b).2.2)], .int .i64 0] ∧ H' = H) := by
 have hka := dm.1 ha
 have hkb := dm.1 hb
 have hBa := vecOK_B ha
 have hBb := vecOK_B hb
 have hT := (aR.1 (tur_ok ha hb)).1
 unfold fL at hT
 have hm0 := bE (a := a.1) (b := b.1) (A := 8065) (B := 8065) (by omega) (by omega)
 have hm1 := bE (a := a.2.1) (b := b.2.1) (A := 8065) (B := 8065) (by omega) (by omega)
 have hm2 := bE (a := a.1) (b := b.2.1) (A := 8065) (B := 8065) (by omega) (by omega)
 have hm3 := bE (a := a.2.1) (b := b.1) (A := 8065) (B := 8065) (by omega) (by omega)
 have hm4 := bE (a := a.2.2) (b := b.2.2) (A := 8065) (B := 8065) (by omega) (by omega)
 have hpd : 0 < a.2.2 * b.2.2 := Int.mul_pos (by omega) (by omega)
 have hnr : decide (67108864 < (ew (a.1 * b.1 - a.2.1 * b.2.1) (a.1 * b.2.1 + a.2.1 * b.1) (a.2.2 * b.2.2)).2.2) = false := decide_eq_false (by omega)
 refine AcT true Tryz.func210 ?_; intro hbel Q hQ
 have g'23 := (jn @hBa (jn @hBb @hnr))
 refine aa g'23 ?_
 refine af (by kernel_rfl) (hvv_c _ a.1 a.2.1 a.2.2) ?_
 refine aa g'23 ?_
 refine af (by kernel_rfl) (hvv_c _ b.1 b.2.1 b.2.2) ?_
 refine aa g'23 ?_
 refine af (by kernel_rfl) (low_c _ ((a.1 * b.1) - (a.2.1 * b.2.1)) ((a.1 * b.2.1) + (a.2.1 * b.1)) (a.2.2 * b.2.2) (by omega) (by omega) (by omega) (by omega)) ?_
 refine aa g'23 ?_
 exact hQ _ _ (ae (.inl rfl) hbel (x := .tup [.agg [.int .i64 ((ew ((a.1 * b.1) - (a.2.1 * b.2.1)) ((a.1 * b.2.1) + (a.2.1 * b.1)) (a.2.2 * b.2.2)).1), .int .i64 ((ew ((a.1 * b.1) - (a.2.1 * b.2.1)) ((a.1 * b.2.1) + (a.2.1 * b.1)) (a.2.2 * b.2.2)).2.1), .int .i64 ((ew ((a.1 * b.1) - (a.2.1 * b.2.1)) ((a.1 * b.2.1) + (a.2.1 * b.1)) (a.2.2 * b.2.2)).2.2)], .int .i64 0]) (ai Tryz.results210) rfl ⟨rfl, rfl⟩)
theorem hbeam_c (H : ac) (h : Int) (m : Int) : ACalls Tryz.prog 170 [.int .i64 h, .int .i64 m] H (fun v H' => v = .agg [.int .i64 ((bH h m).1), .int .i64 ((bH h m).2.1), .int .i64 ((bH h m).2.2)] ∧ H' = H) := by
 refine AcT true Tryz.func170 ?_; intro hbel Q hQ
 refine aQ ?_
 refine af (by kernel_rfl) (dir_c _ h) ?_
 refine aQ ?_
 refine af (by kernel_rfl) (dir_c _ m) ?_
 refine aQ ?_
 refine af (by kernel_rfl) (hturn_c _ (cR h) (cR m) (gh _) (gh _)) ?_
 refine aQ ?_
 exact hQ _ _ (ae (.inl rfl) hbel (x := .agg [.int .i64 ((fL (cR h) (cR m)).1), .int .i64 ((fL (cR h) (cR m)).2.1), .int .i64 ((fL (cR h) (cR m)).2.2)]) (ai Tryz.results170) rfl ⟨rfl, rfl⟩)
open Go.RowKit
open Go.RowKit
open Go.RowKit
open Go.RowKit
open Go.RowKit
theorem tY {a b : Int × Int} (h : cO a b) : ¬ cO b a := by unfold cO at *; omega
theorem befP_irr {a : Int × Int} : ¬ cO a a := by unfold cO; omega
theorem fY {a b c : Int × Int} (h : cO a b) (k : cO b c) : cO a c := by unfold cO at *; omega
theorem tj (a b : Int × Int) : cO a b ∨ a = b ∨ cO b a := by
 unfold cO
 rcases Int.lt_trichotomy a.2 b.2 with h | h | h
 ·exact .inl (.inl h)
 ·rcases Int.lt_trichotomy a.1 b.1 with k | k | k
  ·exact .inl (.inr ⟨h, k⟩)
  ·exact .inr (.inl (Prod.ext k h))
  ·exact .inr (.inr (.inr ⟨h.symm, k⟩))
 ·exact .inr (.inr (.inl h))
def bL : List (Int × Int) → List (Int × Int)
 | [] => []
 | [a] => [a]
 | a :: b :: l => if a = b then bL (b :: l) else a :: bL (b :: l)
theorem fp : ∀ {l : List (Int × Int)} {x : Int × Int}, x ∈ bL l ↔ x ∈ l
 | [], _ => Iff.rfl
 | [_], _ => Iff.rfl
 | a :: b :: l, x => by
  unfold bL
  split
  ·rename_i h
   rw [fp (l := b :: l), List.mem_cons (l := b :: l)]
   exact ⟨.inr, fun k => k.elim (fun q => by rw [q, h]; exact List.mem_cons_self ..) id⟩
  ·rw [List.mem_cons, List.mem_cons (l := b :: l), fp (l := b :: l)]
def leC (a b : Int × Int) : Prop := a = b ∨ cO a b
theorem jZ : ∀ {l : List (Int × Int)}, l.Pairwise leC → (bL l).Pairwise cO
 | [], _ => .nil
 | [a], _ => by unfold bL; simp
 | a :: b :: l, h => by
  rw [List.pairwise_cons] at h
  have r := jZ h.2
  unfold bL
  split
  ·exact r
  ·rename_i hab
   rw [List.pairwise_cons]
   refine ⟨fun x hx => ?_, r⟩
   have hm := fp.1 hx
   have hb : cO a b := (h.1 b (List.mem_cons_self ..)).resolve_left hab
   rcases List.mem_cons.1 hm with q | q
   ·rw [q]; exact hb
   ·rcases (List.pairwise_cons.1 h.2).1 x q with k | k
    ·rw [← k]; exact hb
    ·exact fY hb k
def fq (c : Int × Int) : List (Int × Int) → List (Int × Int)
 | [] => [c]
 | a :: l => if a.2 < c.2 ∨ (a.2 = c.2 ∧ a.1 < c.1) then a :: fq c l else if a = c then a :: l else c :: a :: l
theorem kz {c x : Int × Int} : ∀ {l : List (Int × Int)}, x ∈ fq c l ↔ x = c ∨ x ∈ l
 | [] => by simp [fq]
 | a :: l => by
  unfold fq
  split
  ·rw [List.mem_cons, kz (l := l), List.mem_cons]
   exact ⟨fun k => k.elim (.inr ∘ .inl) (fun k => k.elim .inl (.inr ∘ .inr)), fun k => k.elim (.inr ∘ .inl) (fun k => k.elim .inl (.inr ∘ .inr))⟩
  ·split
   ·rename_i h
    exact ⟨.inr, fun k => k.elim (fun q => by rw [q, ← h]; exact List.mem_cons_self ..) id⟩
   ·rw [List.mem_cons]
theorem j0 {c : Int × Int} : ∀ {l : List (Int × Int)}, l.Pairwise cO → (fq c l).Pairwise cO
 | [], _ => by unfold fq; simp
 | a :: l, h => by
  rw [List.pairwise_cons] at h
  unfold fq
  split
  ·rename_i k
   rw [List.pairwise_cons]
   refine ⟨fun x hx => ?_, j0 h.2⟩
   rcases kz.1 hx with q | q
   ·rw [q]; exact k
   ·exact h.1 x q
  ·rename_i k
   split
   ·exact List.pairwise_cons.2 h
   ·rename_i e
    have hc : cO c a := ((tj c a).resolve_right fun q => q.elim (fun q => e q.symm) (fun q => k q))
    rw [List.pairwise_cons]
    refine ⟨fun x hx => ?_, List.pairwise_cons.2 h⟩
    rcases List.mem_cons.1 hx with q | q
    ·rw [q]; exact hc
    ·exact fY hc (h.1 x q)
theorem cpt_put {l s : List (Int × Int)} (hs : s.Pairwise leC) (hm : ∀ x, x ∈ s ↔ x ∈ l) : bL s = l.foldl (fun o c => fq c o) [] := by
 have g : ∀ (l o : List (Int × Int)), o.Pairwise cO → (l.foldl (fun o c => fq c o) o).Pairwise cO ∧ ∀ x, x ∈ l.foldl (fun o c => fq c o) o ↔ x ∈ l ∨ x ∈ o := by
  intro l
  induction l with
  | nil => exact fun o ho => ⟨ho, fun x => by simp⟩
  | cons a l ih =>
   intro o ho
   have k := ih (fq a o) (j0 ho)
   refine ⟨k.1, fun x => ?_⟩
   rw [List.foldl_cons, k.2 x, kz, List.mem_cons]
   exact ⟨fun q => q.elim (.inl ∘ .inr) (fun q => q.elim (.inl ∘ .inl) .inr), fun q => q.elim (fun q => q.elim (.inr ∘ .inl) .inl) (.inr ∘ .inr)⟩
 have k := g l [] .nil
 exact eq_sorted (jZ hs) k.1 fun x => by rw [fp, hm, k.2]; simp
theorem tk : ∀ (m : List (Int × Int)) (y x : Int × Int), bL (m ++ [y] ++ [x]) = bL (m ++ [y]) ++ (if y = x then [] else [x])
 | [], y, x => by
  show bL [y, x] = bL [y] ++ _
  unfold bL
  split
  ·rename_i h; subst h; simp [bL]
  ·rename_i h; simp [bL]
 | [a], y, x => by
  show bL (a :: y :: [x]) = bL (a :: y :: []) ++ _
  simp only [bL]
  by_cases h : a = y
  ·by_cases k : y = x
   ·simp [h, k]
   ·simp [h, k]
  ·by_cases k : y = x
   ·simp [h, k]
   ·simp [h, k]
 | a :: b :: m, y, x => by
  show bL (a :: b :: (m ++ [y] ++ [x])) = bL (a :: b :: (m ++ [y])) ++ _
  have ih := tk (b :: m) y x
  simp only [List.cons_append] at ih
  rw [bL, bL, ih]
  by_cases h : a = b
  ·rw [if_pos h, if_pos h]
  ·rw [if_neg h, if_neg h, List.cons_append]
theorem kA {l : List (Int × Int)} {j : Nat} (h1 : 1 ≤ j) (hj : j < l.length) : bL (l.take (j + 1)) = bL (l.take j) ++ (if l[j - 1]'(by omega) = l[j] then [] else [l[j]]) := by
 obtain ⟨i, rfl⟩ : ∃ i, j = i + 1 := ⟨j - 1, by omega⟩
 have e1 := List.take_succ_eq_append_getElem hj
 have e2 := List.take_succ_eq_append_getElem (show i < l.length by omega)
 rw [e1, e2]
 exact tk _ _ _
theorem cpt_1 {l : List (Int × Int)} (h : l.length < 2) : bL l = l := by
 match l, h with
 | [], _ => rfl
 | [_], _ => rfl
theorem l8 (l : List (Int × Int)) : (bL l).length ≤ l.length := by
 match l with
 | [] => exact Nat.le_refl _
 | [_] => exact Nat.le_refl _
 | a :: b :: m =>
  have := l8 (b :: m)
  rw [bL]
  split
  ·exact Nat.le_trans this (by simp)
  ·simp only [List.length_cons] at *; omega
theorem leC_anti {a b : Int × Int} (h : leC a b) (k : leC b a) : a = b := by
 unfold leC at *
 rcases h with h | h
 ·exact h
 ·rcases k with k | k
  ·exact k.symm
  ·exact absurd k (tY h)
theorem tl : ∀ {l m : List (Int × Int)}, l.Perm m → l.Pairwise leC → m.Pairwise leC → l = m
 | [], m, h, _, _ => (List.Perm.nil_eq h)
 | a :: l, [], h, _, _ => absurd h.symm.nil_eq (by simp)
 | a :: l, b :: m, h, h1, h2 => by
  rw [List.pairwise_cons] at h1 h2
  have hab : a = b := by
   have ha : a ∈ b :: m := h.subset (List.mem_cons_self ..)
   have hb : b ∈ a :: l := h.symm.subset (List.mem_cons_self ..)
   rcases List.mem_cons.1 ha with e | e
   ·exact e
   ·rcases List.mem_cons.1 hb with e2 | e2
    ·exact e2.symm
    ·exact leC_anti (h1.1 b e2) (h2.1 a e)
  subst hab
  rw [tl (List.Perm.cons_inv h) h1.2 h2.2]
theorem leC_tot (a b : Int × Int) : leC a b ∨ leC b a := by
 unfold leC
 rcases tj a b with h | h | h
 ·exact .inl (.inr h)
 ·exact .inl (.inl h)
 ·exact .inr (.inr h)
theorem leC_trans {a b c : Int × Int} (h : leC a b) (k : leC b c) : leC a c := by
 unfold leC at *
 rcases h with rfl | h
 ·exact k
 ·rcases k with rfl | k
  ·exact .inr h
  ·exact .inr (fY h k)
instance (a b : Int × Int) : Decidable (cO a b) := by unfold cO; infer_instance
instance (a b : Int × Int) : Decidable (leC a b) := by unfold leC; infer_instance
def di (l : List (Int × Int)) : List (Int × Int) := l.mergeSort fun a b => decide (leC a b)
theorem fF (l : List (Int × Int)) : (di l).Perm l := List.mergeSort_perm _ _
theorem ft (l : List (Int × Int)) : (di l).length = l.length := (fF l).length_eq
theorem gT (l : List (Int × Int)) : (di l).Pairwise leC := by
 have h := List.pairwise_mergeSort (le := fun a b => decide (leC a b)) (fun a b c h k => by simp only [decide_eq_true_eq] at *; exact leC_trans h k) (fun a b => by simp only [Bool.or_eq_true, decide_eq_true_eq]; exact leC_tot a b) l
 unfold di
 refine h.imp fun {a b} k => ?_
 simpa using k
theorem kB : di [] = [] := by simp [di]
open Go.RowKit
def prS (W Hh : Int) (l : List T6) (sc : List (Int × Int)) (g : Int) : Nat → List (Int × Int)
 | 0 => []
 | i + 1 => prS W Hh l sc g i ++ ej W Hh l (g1 sc i) (g2 sc i) g
def rowA (W Hh : Int) (l : List T6) (sc : List (Int × Int)) (g : Int) : List (Int × Int) := if fm l = true then prS W Hh l sc g sc.length else []
def aM (W Hh : Int) (l : List T6) (sc : List (Int × Int)) (g : Int) : List (Int × Int) := bL (di (rowA W Hh l sc g))
theorem jF (W Hh : Int) (l : List T6) (sc : List (Int × Int)) (g : Int) : ∀ i : Nat, (prS W Hh l sc g i).length ≤ 7225 * i
 | 0 => by simp [prS]
 | i + 1 => by
  have := jF W Hh l sc g i
  have := ti W Hh l (g1 sc i) (g2 sc i) g
  simp only [prS, List.length_append]; omega
theorem allL_nil {W Hh : Int} {l : List T6} {sc : List (Int × Int)} {g : Int} (h : fm l = false) : aM W Hh l sc g = [] ∧ rowA W Hh l sc g = [] := by
 have e : rowA W Hh l sc g = [] := if_neg (by rw [h]; decide)
 exact ⟨by unfold aM; rw [e, kB]; rfl, e⟩
def swS (l : List T9) (r g : Int) : Nat → List (Int × Int)
 | 0 => []
 | i + 1 => swS l r g i ++ cB (g91 l i) (g92 l i) (g93 l i) (g94 l i) (g97 l i) (g98 l i) (g99 l i) (if 0 < r - g then r - g else 0) (r + g)
def fu (l : List T6) (m r g : Int) : List (Int × Int) := if (decide (r = -1) || !fm l) = true then [] else swS (ar l m) r g (ar l m).length
def bh (l : List T6) (m r g : Int) : List (Int × Int) := bL (di (fu l m r g))
theorem jG (l : List T9) (r g : Int) : ∀ i : Nat, (swS l r g i).length ≤ 7225 * i
 | 0 => by simp [swS]
 | i + 1 => by
  have := jG l r g i
  have := ku (g91 l i) (g92 l i) (g93 l i) (g94 l i) (g97 l i) (g98 l i) (g99 l i) (if 0 < r - g then r - g else 0) (r + g)
  simp only [swS, List.length_append]; omega
theorem tm {l : List T6} {m r g : Int} (h : r = -1 ∨ fm l = false) : bh l m r g = [] ∧ fu l m r g = [] := by
 have e : fu l m r g = [] := if_pos (by rcases h with h | h <;> simp [h])
 exact ⟨by unfold bh; rw [e, kB]; rfl, e⟩
theorem dirA_tau {l : List T6} (hS : bX l = true) (h : fm l = true) (m : Int) : (ar l m).length ≤ 32 := by
 unfold fm at h
 rw [Bool.and_eq_true, decide_eq_true_eq] at h
 have k : ∀ i : Nat, i ≤ l.length → ((dirS l m i).length : Int) = sumC l i := fun i => by
  induction i with
  | zero => intro _; rfl
  | succ i ih =>
   intro hi
   have := ih (by omega)
   have q := l7 hS (show i < l.length by omega)
   simp only [dirS, sumC, List.length_append, iu]; omega
 have := k l.length (Nat.le_refl _)
 unfold ar; omega
open Go.RowKit
open Go.RowKit
def cidx (W : Int) (c : Int × Int) : Nat := (c.2 * W + c.1).toNat
def lrnF (W H : Int) : List (Int × Int) → List Int → Option (List Int)
 | [], o => some o
 | c :: l, o => if atI W H o c.1 c.2 = 2 then none else lrnF W H l (o.set (cidx W c) 1)
def fM (W H : Int) : List (List (Int × Int)) → List Int → Option (List Int)
 | [], o => some o
 | s :: l, o => match s.filter fun c => !(atI W H o c.1 c.2 == 1) with
  | [] => none
  | [c] => fM W H l (if inB W H c.1 c.2 = true then o.set (cidx W c) 2 else o)
  | _ => fM W H l o
theorem set_le {o : List Int} {i : Nat} {v : Int} (h : ∀ x ∈ o, x ≤ 2) (hv : v ≤ 2) : ∀ x ∈ o.set i v, x ≤ 2 := fun x hx => by
 rcases List.mem_or_eq_of_mem_set hx with k | k
 ·exact h x k
 ·rw [k]; exact hv
theorem at_in {W H : Int} {xs : List Int} {c : Int × Int} (h : inB W H c.1 c.2 = true) : atI W H xs c.1 c.2 = gi xs (cidx W c) := if_pos h
def echL (l : List T6) (sc : List (Int × Int)) (g : Int) : List (List (Int × Int)) := (sc.filter fun e => !(e.2 == -1)).map fun e => bh l e.1 e.2 g
def lnO (W Hh : Int) (xs : List Int) (l : List T6) (sc : List (Int × Int)) (g : Int) : Option (List Int) := if fm l = true then (lrnF W Hh (aM W Hh l sc g) xs).bind (fM W Hh (echL l sc g)) else some xs
def lnE (W Hh : Int) (xs : List Int) (l : List T6) (sc : List (Int × Int)) (g : Int) : Int := if dk W Hh xs l sc g = true then (match lnO W Hh xs l sc g with | none => 11 | some _ => 0) else 1
def lnX (W Hh : Int) (xs : List Int) (l : List T6) (sc : List (Int × Int)) (g : Int) : List Int := if dk W Hh xs l sc g = true then (lnO W Hh xs l sc g).getD [] else []
def lnZ (W Hh : Int) (xs : List Int) (l : List T6) (sc : List (Int × Int)) (g : Int) (n : Int) : Int := if lnE W Hh xs l sc g = 0 then n else 0
section
variable {W Hh : Int} {xs : List Int} {l : List T6} {sc : List (Int × Int)} {g : Int}
theorem ln_1 (h : dk W Hh xs l sc g = false) : lnE W Hh xs l sc g = 1 ∧ lnX W Hh xs l sc g = [] ∧ lnZ W Hh xs l sc g W = 0 ∧ lnZ W Hh xs l sc g Hh = 0 := by
 have e : lnE W Hh xs l sc g = 1 := if_neg (by rw [h]; decide)
 exact ⟨e, if_neg (by rw [h]; decide), if_neg (by rw [e]; decide), if_neg (by rw [e]; decide)⟩
theorem ln_11 (h : dk W Hh xs l sc g = true) (k : lnO W Hh xs l sc g = none) : lnE W Hh xs l sc g = 11 ∧ lnX W Hh xs l sc g = [] ∧ lnZ W Hh xs l sc g W = 0 ∧ lnZ W Hh xs l sc g Hh = 0 := by
 have e : lnE W Hh xs l sc g = 11 := by unfold lnE; rw [if_pos h, k]
 exact ⟨e, by unfold lnX; rw [if_pos h, k]; rfl, if_neg (by rw [e]; decide), if_neg (by rw [e]; decide)⟩
theorem ln_0 {o : List Int} (h : dk W Hh xs l sc g = true) (k : lnO W Hh xs l sc g = some o) : lnE W Hh xs l sc g = 0 ∧ lnX W Hh xs l sc g = o ∧ lnZ W Hh xs l sc g W = W ∧ lnZ W Hh xs l sc g Hh = Hh := by
 have e : lnE W Hh xs l sc g = 0 := by unfold lnE; rw [if_pos h, k]
 exact ⟨e, by unfold lnX; rw [if_pos h, k]; rfl, if_pos e, if_pos e⟩
theorem prS_in : ∀ {i : Nat} {c : Int × Int}, c ∈ prS W Hh l sc g i → inB W Hh c.1 c.2 = true
 | 0, _, h => by cases h
 | i + 1, c, h => by
  unfold prS at h
  rcases List.mem_append.1 h with h | h
  ·exact prS_in h
  ·unfold ej at h
   split at h
   ·cases h
   ·have k := (List.mem_filter.1 h).2
    unfold bK at k
    rw [Bool.and_eq_true, Bool.and_eq_true, bN, bN] at k
    exact dV.2 ⟨by omega, by omega, by omega, by omega⟩
theorem allL_in {c : Int × Int} (h : c ∈ aM W Hh l sc g) : inB W Hh c.1 c.2 = true := by
 unfold aM at h
 have h := (fF _).mem_iff.1 (fp.1 h)
 unfold rowA at h
 split at h
 ·exact prS_in h
 ·cases h
def lfS (W : Int) (A : List (Int × Int)) (xs : List Int) : Nat → List Int
 | 0 => xs
 | i + 1 => (lfS W A xs i).set ((g2 A i * W) + g1 A i).toNat 1
theorem vld_set {o : List Int} {i : Nat} {v : Int} (h : cl W Hh o = true) (hv : v ≤ 2) : cl W Hh (o.set i v) = true := by
 have q := cJ.1 h
 exact cJ.2 ⟨q.w0, q.w1, q.h0, q.h1, by rw [List.length_set]; exact q.len, set_le q.le hv⟩
theorem hP {A : List (Int × Int)} (h : cl W Hh xs = true) : ∀ i : Nat, cl W Hh (lfS W A xs i) = true
 | 0 => h
 | i + 1 => vld_set (hP h i) (by decide)
theorem pA {A : List (Int × Int)} {o : List Int} {i : Nat} (hi : i < A.length) (hA : ∀ c ∈ A, inB W Hh c.1 c.2 = true) : lrnF W Hh (A.drop i) o = if gi o ((g2 A i * W) + g1 A i).toNat = 2 then none else lrnF W Hh (A.drop (i + 1)) (o.set ((g2 A i * W) + g1 A i).toNat 1) := by
 rw [List.drop_eq_getElem_cons hi]
 have h := hA _ (List.getElem_mem hi)
 have e : cidx W A[i] = ((g2 A i * W) + g1 A i).toNat := by rw [← ct hi]; rfl
 conv => lhs; unfold lrnF
 rw [at_in h, e]
theorem gin_mem {A : List (Int × Int)} {i : Nat} (hi : i < A.length) (hA : ∀ c ∈ A, inB W Hh c.1 c.2 = true) : inB W Hh (g1 A i) (g2 A i) = true := by
 have h := hA _ (List.getElem_mem hi)
 rw [← ct hi] at h; exact h
def frP (W Hh : Int) (o : List Int) (c : Int × Int) : Bool := atI W Hh o c.1 c.2 == 1
def lwU (W Hh : Int) (o : List Int) (d : List (Int × Int)) : List Int := if d.length = 1 ∧ btw (g1 d 0) 0 (W - 1) = true ∧ btw (g2 d 0) 0 (Hh - 1) = true then o.set ((g2 d 0 * W) + g1 d 0).toNat 2 else o
def lwS (W Hh : Int) (l : List T6) (sc : List (Int × Int)) (g : Int) (o : List Int) : Nat → List Int
 | 0 => o
 | i + 1 => if g2 sc i = -1 then lwS W Hh l sc g o i else lwU W Hh (lwS W Hh l sc g o i) (bI (frP W Hh (lwS W Hh l sc g o i)) (bh l (g1 sc i) (g2 sc i) g))
theorem lwU_vld {o : List Int} {d : List (Int × Int)} (h : cl W Hh o = true) : cl W Hh (lwU W Hh o d) = true := by
 unfold lwU; split
 ·exact vld_set h (by decide)
 ·exact h
theorem hZ {o : List Int} (h : cl W Hh o = true) : ∀ i : Nat, cl W Hh (lwS W Hh l sc g o i) = true
 | 0 => h
 | i + 1 => by
  unfold lwS; split
  ·exact hZ h i
  ·exact lwU_vld (hZ h i)
theorem pB {o : List Int} {i : Nat} (hi : i < sc.length) : fM W Hh (echL l (sc.drop i) g) o = if g2 sc i = -1 then fM W Hh (echL l (sc.drop (i + 1)) g) o else if (bI (frP W Hh o) (bh l (g1 sc i) (g2 sc i) g)).length = 0 then none else fM W Hh (echL l (sc.drop (i + 1)) g) (lwU W Hh o (bI (frP W Hh o) (bh l (g1 sc i) (g2 sc i) g))) := by
 have e : sc[i] = (g1 sc i, g2 sc i) := (ct hi).symm
 unfold echL
 rw [List.drop_eq_getElem_cons hi, List.filter_cons, e]
 by_cases h : g2 sc i = -1
 ·rw [if_pos h, if_neg (by simp [h])]
 ·rw [if_neg h, if_pos (by simpa using h), List.map_cons]
  conv => lhs; unfold fM
  have hd : ∀ s : List (Int × Int), (s.filter fun c => !(atI W Hh o c.1 c.2 == 1)) = bI (frP W Hh o) s := fun _ => rfl
  simp only [hd]
  generalize bI (frP W Hh o) (bh l (g1 sc i) (g2 sc i) g) = d
  match d with
  | [] => simp
  | [c] =>
   simp only [List.length_cons, List.length_nil]
   unfold lwU
   have q : (btw (g1 [c] 0) 0 (W - 1) = true ∧ btw (g2 [c] 0) 0 (Hh - 1) = true) ↔ inB W Hh c.1 c.2 = true := by
    rw [bN, bN, dV]; show ((0 ≤ c.1 ∧ c.1 ≤ W - 1) ∧ 0 ≤ c.2 ∧ c.2 ≤ Hh - 1) ↔ _; omega
   simp only [List.length_cons, List.length_nil, Nat.zero_add, true_and, q, Nat.one_ne_zero, if_false]
   rfl
  | a :: b :: t => simp [lwU]
theorem lwS_skip {o : List Int} {i : Nat} (h : g2 sc i = -1) : lwS W Hh l sc g o (i + 1) = lwS W Hh l sc g o i := by simp only [lwS]; rw [if_pos h]
theorem kC {o : List Int} {i : Nat} (h : ¬ g2 sc i = -1) (k : ¬ ((bI (frP W Hh (lwS W Hh l sc g o i)) (bh l (g1 sc i) (g2 sc i) g)).length = 1 ∧ btw (g1 (bI (frP W Hh (lwS W Hh l sc g o i)) (bh l (g1 sc i) (g2 sc i) g)) 0) 0 (W - 1) = true ∧ btw (g2 (bI (frP W Hh (lwS W Hh l sc g o i)) (bh l (g1 sc i) (g2 sc i) g)) 0) 0 (Hh - 1) = true)) : lwS W Hh l sc g o (i + 1) = lwS W Hh l sc g o i := by simp only [lwS]; rw [if_neg h]; exact if_neg k
theorem lwS_set {o : List Int} {i : Nat} (h : ¬ g2 sc i = -1) (k : (bI (frP W Hh (lwS W Hh l sc g o i)) (bh l (g1 sc i) (g2 sc i) g)).length = 1 ∧ btw (g1 (bI (frP W Hh (lwS W Hh l sc g o i)) (bh l (g1 sc i) (g2 sc i) g)) 0) 0 (W - 1) = true ∧ btw (g2 (bI (frP W Hh (lwS W Hh l sc g o i)) (bh l (g1 sc i) (g2 sc i) g)) 0) 0 (Hh - 1) = true) : lwS W Hh l sc g o (i + 1) = (lwS W Hh l sc g o i).set ((g2 (bI (frP W Hh (lwS W Hh l sc g o i)) (bh l (g1 sc i) (g2 sc i) g)) 0 * W) + g1 (bI (frP W Hh (lwS W Hh l sc g o i)) (bh l (g1 sc i) (g2 sc i) g)) 0).toNat 2 := by simp only [lwS]; rw [if_neg h]; exact if_pos k
theorem tn {o : List Int} {i : Nat} (hi : i < sc.length) (h : g2 sc i = -1 ∨ ¬ (bI (frP W Hh (lwS W Hh l sc g o i)) (bh l (g1 sc i) (g2 sc i) g)).length = 0) : fM W Hh (echL l (sc.drop i) g) (lwS W Hh l sc g o i) = fM W Hh (echL l (sc.drop (i + 1)) g) (lwS W Hh l sc g o (i + 1)) := by
 rw [pB hi]
 simp only [lwS]
 by_cases k : g2 sc i = -1
 ·rw [if_pos k, if_pos k]
 ·rw [if_neg k, if_neg k, if_neg (by rcases h with h | h; exact absurd h k; exact h)]
theorem lwS_bad {o : List Int} {i : Nat} (hi : i < sc.length) (h : ¬ g2 sc i = -1) (k : (bI (frP W Hh (lwS W Hh l sc g o i)) (bh l (g1 sc i) (g2 sc i) g)).length = 0) : fM W Hh (echL l (sc.drop i) g) (lwS W Hh l sc g o i) = none := by
 rw [pB hi, if_neg h, if_pos k]
theorem vld_pos {o : List Int} (h : cl W Hh o = true) : 0 < o.length := by
 have q := cJ.1 h
 have := (q.idx (show inB W Hh 0 0 = true from dV.2 (by have := q.w0; have := q.h0; omega))).2.2.2.2.1
 omega
theorem pad_len {p : Int × Int → Bool} {l : List (Int × Int)} : (du l.length (bI p l)).length = l.length := by
 have := delL_le (p := p) (l := l)
 unfold du; simp; omega
theorem pad_g1 {n : Nat} {d : List (Int × Int)} (h : ¬ d.length = 0) : g1 (du n d) 0 = g1 d 0 := by
 match d, h with
 | a :: t, _ => rfl
theorem pad_g2 {n : Nat} {d : List (Int × Int)} (h : ¬ d.length = 0) : g2 (du n d) 0 = g2 d 0 := by
 match d, h with
 | a :: t, _ => rfl
theorem tp {m r : Int} (hS : bX l = true) : (bh l m r g).length ≤ 7225 * 4096 := by
 have h1 := jG (ar l m) r g (ar l m).length
 have h2 := ky hS m
 have h3 : (fu l m r g).length ≤ 7225 * 4096 := by
  unfold fu; split
  ·simp
  ·omega
 unfold bh
 have := l8 (di (fu l m r g)); rw [ft] at this; omega
theorem allL_len : (aM W Hh l sc g).length ≤ 7225 * sc.length := by
 have h1 := jF W Hh l sc g sc.length
 have h3 : (rowA W Hh l sc g).length ≤ 7225 * sc.length := by
  unfold rowA; split
  ·exact h1
  ·simp
 unfold aM
 have := l8 (di (rowA W Hh l sc g)); rw [ft] at this; omega
end
set_option linter.unusedSimpArgs false
set_option linter.unusedVariables false
open Go.RowKit
section
variable {W Hh : Int} {xs : List Int} {sc : List (Int × Int)}
end
set_option linter.unusedSimpArgs false
set_option linter.unusedVariables false
open Go.RowKit
set_option maxRecDepth 100000 in
theorem idx_r (H : ac) (s : AV) (l : List T9) (hs : Sl H 9 s l.length (r9 l)) (hl : l.length ≤ 1000000000) (g : FuncId) (caps : List AV) (hok : dz Tryz.prog g = true) (hc : AV.bels H.length caps = true) (p : T9 → Bool) (hf : ∀ j, j < l.length → ACalls Tryz.prog g (.agg [.int .i64 (g91 l j), .int .i64 (g92 l j), .int .i64 (g93 l j), .int .i64 (g94 l j), .int .i64 (g95 l j), .int .i64 (g96 l j), .int .i64 (g97 l j), .int .i64 (g98 l j), .int .i64 (g99 l j)] :: caps) H (fun v H' => v = .bool (p (g91 l j, g92 l j, g93 l j, g94 l j, g95 l j, g96 l j, g97 l j, g98 l j, g99 l j)) ∧ H' = H)) :
  ACalls Tryz.prog 198 [s, .fn g caps] H (fun v H' => v = .int .i64 (ec p l) ∧ H' = H) := by
 obtain ⟨b, own, cap, rfl, hb⟩ := hs
 have hbl := getElem?_lt hb
 have hmv := fun m sel => fl (n := H.length) (m := m) (sel := sel) hc
 (refine b9 try_mixed Tryz.func198 true _ rfl (Nat.le_of_ble_eq_true (by kernel_rfl)) (by kernel_rfl) ?_; intro hbel Q hQ hQ' c hc; unfold Tryz.f198 at hc; simp only [Option.some.injEq] at hc; subst hc; clear hQ')
 simp -implicitDefEqProofs (disch := omega) only [simprocAttr, aF, aG, Function.comp_apply, one1, lenV, ap, az, aA, aop, AV.ofValue, AV.ofCell, AV.cells, AV.flat, AV.one, arep, aP, av, aE]
 refine go_loop try_mixed (by kernel_rfl) (fun k F Hx => ∃ i : Nat, i + k = l.length ∧ (l.take i).any p = false ∧ F = [(0, .sl (some (b, 0)) l.length none), (1, .fn g caps), (7, .int .i64 l.length), (8, .int .i64 (i : Nat))] ∧ Hx = H) l.length ?_ ?_
 ·refine ⟨_, _, _, ⟨0, by omega, rfl, rfl, rfl⟩, Abs.by0 hbel ?_⟩
  exact aV @hmv
 ·rintro k F Hx ⟨i, hik, ht, rfl, rfl⟩ J hJ
  by_cases hi : i < l.length
  ·have hii : (i : Int) < (l.length : Int) := by omega
   have q1 := r9_load hi
   have hg := g9_eq hi
   simp -implicitDefEqProofs (disch := omega) only [hii, hb, q1, dC, jf, simprocAttr, aF, aG, Function.comp_apply, one1, lenV, ap, az, aA, aop, AV.ofValue, AV.ofCell, AV.cells, AV.flat, AV.one, arep, aP, av, aE]
   iterate 2 refine And.intro (by omega) ?_
   refine af hok (hf i hi) ?_
   have hst := gA (p := p) hi
   rw [ht, Bool.false_or, ← hg] at hst
   cases h1 : p (g91 l i, g92 l i, g93 l i, g94 l i, g95 l i, g96 l i, g97 l i, g98 l i, g99 l i)
   ·rw [h1] at hst
    simp -implicitDefEqProofs (disch := omega) only [h1, simprocAttr, aF, aG, Function.comp_apply, one1, lenV, ap, az, aA, aop, AV.ofValue, AV.ofCell, AV.cells, AV.flat, AV.one, arep, aP, av, aE]
    refine hJ _ _ ⟨k - 1, by omega, _, _, _, ⟨i + 1, by omega, hst, rfl, rfl⟩, Abs.by0 hbel ?_⟩
    exact aV @hmv
   ·simp -implicitDefEqProofs (disch := omega) only [h1, simprocAttr, aF, aG, Function.comp_apply, one1, lenV, ap, az, aA, aop, AV.ofValue, AV.ofCell, AV.cells, AV.flat, AV.one, arep, aP, av, aE]
    exact hQ _ _ (au (.inl rfl) hbel (x := .int .i64 (i : Nat)) (ai Tryz.results198) rfl ⟨by rw [gj hi ht (by rw [← hg]; exact h1)], rfl⟩)
  ·have hnn : ¬ ((i : Int) < (l.length : Int)) := by omega
   simp -implicitDefEqProofs (disch := omega) only [hnn, simprocAttr, aF, aG, Function.comp_apply, one1, lenV, ap, az, aA, aop, AV.ofValue, AV.ofCell, AV.cells, AV.flat, AV.one, arep, aP, av, aE]
   rw [List.take_of_length_le (by omega)] at ht
   exact hQ _ _ (au (.inl rfl) hbel (x := .int .i64 (-1)) (ai Tryz.results198) rfl ⟨by rw [ee ht], rfl⟩)
theorem has_r (H : ac) (s : AV) (l : List T9) (hs : Sl H 9 s l.length (r9 l)) (hl : l.length ≤ 1000000000) (g : FuncId) (caps : List AV) (hok : dz Tryz.prog g = true) (hc : AV.bels H.length caps = true) (p : T9 → Bool) (hf : ∀ j, j < l.length → ACalls Tryz.prog g (.agg [.int .i64 (g91 l j), .int .i64 (g92 l j), .int .i64 (g93 l j), .int .i64 (g94 l j), .int .i64 (g95 l j), .int .i64 (g96 l j), .int .i64 (g97 l j), .int .i64 (g98 l j), .int .i64 (g99 l j)] :: caps) H (fun v H' => v = .bool (p (g91 l j, g92 l j, g93 l j, g94 l j, g95 l j, g96 l j, g97 l j, g98 l j, g99 l j)) ∧ H' = H)) :
  ACalls Tryz.prog 165 [s, .fn g caps] H (fun v H' => v = .bool (l.any p) ∧ H' = H) := by
 have key := idx_r H s l hs hl g caps hok hc p hf
 obtain ⟨b, own, cap, rfl, hb⟩ := hs
 have hbl := getElem?_lt hb
 (refine b9 try_mixed Tryz.func165 true _ rfl (Nat.le_of_ble_eq_true (by kernel_rfl)) (by kernel_rfl) ?_; intro hbel Q hQ hQ' c hc; unfold Tryz.f165 at hc; simp only [Option.some.injEq] at hc; subst hc; clear hQ')
 simp -implicitDefEqProofs (disch := omega) only [simprocAttr, aF, aG, Function.comp_apply, one1, lenV, ap, az, aA, aop, AV.ofValue, AV.ofCell, AV.cells, AV.flat, AV.one, arep, aP, av, aE]
 refine af (by kernel_rfl) key ?_
 simp -implicitDefEqProofs (disch := omega) only [simprocAttr, aF, aG, Function.comp_apply, one1, lenV, ap, az, aA, aop, AV.ofValue, AV.ofCell, AV.cells, AV.flat, AV.one, arep, aP, av, aE]
 exact hQ _ _ (au (.inl rfl) hbel (x := .bool (decide (0 ≤ ec p l))) (ai Tryz.results165) rfl ⟨by rw [ip], rfl⟩)
open Go.RowKit
set_option maxRecDepth 100000 in
theorem idx_m (H : ac) (s : AV) (l : List (Int × Int)) (hs : Sl H 2 s l.length (prs l)) (hl : l.length ≤ 1000000000) (g : FuncId) (caps : List AV) (hok : dz Tryz.prog g = true) (hc : AV.bels H.length caps = true) (p : (Int × Int) → Bool) (hf : ∀ j, j < l.length → ACalls Tryz.prog g (.agg [.int .i64 (g1 l j), .int .i64 (g2 l j)] :: caps) H (fun v H' => v = .bool (p (g1 l j, g2 l j)) ∧ H' = H)) :
  ACalls Tryz.prog 114 [s, .fn g caps] H (fun v H' => v = .int .i64 (ec p l) ∧ H' = H) := by
 obtain ⟨b, own, cap, rfl, hb⟩ := hs
 have hbl := getElem?_lt hb
 have hmv := fun m sel => fl (n := H.length) (m := m) (sel := sel) hc
 (refine b9 try_mixed Tryz.func114 true _ rfl (Nat.le_of_ble_eq_true (by kernel_rfl)) (by kernel_rfl) ?_; intro hbel Q hQ hQ' c hc; unfold Tryz.f114 at hc; simp only [Option.some.injEq] at hc; subst hc; clear hQ')
 simp -implicitDefEqProofs (disch := omega) only [simprocAttr, aF, aG, Function.comp_apply, one1, lenV, ap, az, aA, aop, AV.ofValue, AV.ofCell, AV.cells, AV.flat, AV.one, arep, aP, av, aE]
 refine go_loop try_mixed (by kernel_rfl) (fun k F Hx => ∃ i : Nat, i + k = l.length ∧ (l.take i).any p = false ∧ F = [(0, .sl (some (b, 0)) l.length none), (1, .fn g caps), (7, .int .i64 l.length), (8, .int .i64 (i : Nat))] ∧ Hx = H) l.length ?_ ?_
 ·refine ⟨_, _, _, ⟨0, by omega, rfl, rfl, rfl⟩, Abs.by0 hbel ?_⟩
  exact aV @hmv
 ·rintro k F Hx ⟨i, hik, ht, rfl, rfl⟩ J hJ
  by_cases hi : i < l.length
  ·have hii : (i : Int) < (l.length : Int) := by omega
   have q1 := cA hi
   have hg := ct hi
   simp -implicitDefEqProofs (disch := omega) only [hii, hb, q1, bp, cC, simprocAttr, aF, aG, Function.comp_apply, one1, lenV, ap, az, aA, aop, AV.ofValue, AV.ofCell, AV.cells, AV.flat, AV.one, arep, aP, av, aE]
   iterate 2 refine And.intro (by omega) ?_
   refine af hok (hf i hi) ?_
   have hst := gA (p := p) hi
   rw [ht, Bool.false_or, ← hg] at hst
   cases h1 : p (g1 l i, g2 l i)
   ·rw [h1] at hst
    simp -implicitDefEqProofs (disch := omega) only [h1, simprocAttr, aF, aG, Function.comp_apply, one1, lenV, ap, az, aA, aop, AV.ofValue, AV.ofCell, AV.cells, AV.flat, AV.one, arep, aP, av, aE]
    refine hJ _ _ ⟨k - 1, by omega, _, _, _, ⟨i + 1, by omega, hst, rfl, rfl⟩, Abs.by0 hbel ?_⟩
    exact aV @hmv
   ·simp -implicitDefEqProofs (disch := omega) only [h1, simprocAttr, aF, aG, Function.comp_apply, one1, lenV, ap, az, aA, aop, AV.ofValue, AV.ofCell, AV.cells, AV.flat, AV.one, arep, aP, av, aE]
    exact hQ _ _ (au (.inl rfl) hbel (x := .int .i64 (i : Nat)) (ai Tryz.results114) rfl ⟨by rw [gj hi ht (by rw [← hg]; exact h1)], rfl⟩)
  ·have hnn : ¬ ((i : Int) < (l.length : Int)) := by omega
   simp -implicitDefEqProofs (disch := omega) only [hnn, simprocAttr, aF, aG, Function.comp_apply, one1, lenV, ap, az, aA, aop, AV.ofValue, AV.ofCell, AV.cells, AV.flat, AV.one, arep, aP, av, aE]
   rw [List.take_of_length_le (by omega)] at ht
   exact hQ _ _ (au (.inl rfl) hbel (x := .int .i64 (-1)) (ai Tryz.results114) rfl ⟨by rw [ee ht], rfl⟩)
theorem has_m (H : ac) (s : AV) (l : List (Int × Int)) (hs : Sl H 2 s l.length (prs l)) (hl : l.length ≤ 1000000000) (g : FuncId) (caps : List AV) (hok : dz Tryz.prog g = true) (hc : AV.bels H.length caps = true) (p : (Int × Int) → Bool) (hf : ∀ j, j < l.length → ACalls Tryz.prog g (.agg [.int .i64 (g1 l j), .int .i64 (g2 l j)] :: caps) H (fun v H' => v = .bool (p (g1 l j, g2 l j)) ∧ H' = H)) :
  ACalls Tryz.prog 72 [s, .fn g caps] H (fun v H' => v = .bool (l.any p) ∧ H' = H) := by
 have key := idx_m H s l hs hl g caps hok hc p hf
 obtain ⟨b, own, cap, rfl, hb⟩ := hs
 have hbl := getElem?_lt hb
 (refine b9 try_mixed Tryz.func72 true _ rfl (Nat.le_of_ble_eq_true (by kernel_rfl)) (by kernel_rfl) ?_; intro hbel Q hQ hQ' c hc; unfold Tryz.f72 at hc; simp only [Option.some.injEq] at hc; subst hc; clear hQ')
 simp -implicitDefEqProofs (disch := omega) only [simprocAttr, aF, aG, Function.comp_apply, one1, lenV, ap, az, aA, aop, AV.ofValue, AV.ofCell, AV.cells, AV.flat, AV.one, arep, aP, av, aE]
 refine af (by kernel_rfl) key ?_
 simp -implicitDefEqProofs (disch := omega) only [simprocAttr, aF, aG, Function.comp_apply, one1, lenV, ap, az, aA, aop, AV.ofValue, AV.ofCell, AV.cells, AV.flat, AV.one, arep, aP, av, aE]
 exact hQ _ _ (au (.inl rfl) hbel (x := .bool (decide (0 ≤ ec p l))) (ai Tryz.results72) rfl ⟨by rw [ip], rfl⟩)
open Go.RowKit
set_option maxHeartbeats 4000000
set_option maxRecDepth 100000
theorem cN (H : ac) (n : Int) (lo : Int) (hi : Int) : ACalls Tryz.prog 87 [.int .i64 n, .int .i64 lo, .int .i64 hi] H (fun v H' => v = .bool (btw n lo hi) ∧ H' = H) := by
 refine AcT true Tryz.func87 ?_; intro hbel Q hQ
 refine aQ ?_
 refine al (fun h1 => ?_) (fun h1 => ?_)
 ·have h1d := bsT h1
  have g'1 := (jn @h1 @h1d)
  refine aa g'1 ?_
  exact hQ _ _ (au (.inl rfl) hbel (x := .bool (decide (n ≤ hi))) (ai Tryz.results87) rfl ⟨by simp [btw, h1d], rfl⟩)
 ·have h1d := bsT h1
  have g'2 := (jn @h1 @h1d)
  refine aa g'2 ?_
  exact hQ _ _ (au (.inl rfl) hbel (x := .bool false) (ai Tryz.results87) rfl ⟨by simp [btw, h1d], rfl⟩)
theorem kvb_c (H : ac) (m : Int) (r : Int) : ACalls Tryz.prog 120 [.agg [.int .i64 m, .int .i64 r]] H (fun v H' => v = .bool (dA m r) ∧ H' = H) := by
 refine AcT true Tryz.func120 ?_; intro hbel Q hQ
 refine aQ ?_
 refine af (by kernel_rfl) (cN _ m 0 255) ?_
 refine aQ ?_
 refine al (fun h1 => ?_) (fun h1 => ?_)
 ·have h1d := bsT h1
  have g'3 := (jn @h1 @h1d)
  refine aa g'3 ?_
  refine af (by kernel_rfl) (cN _ r (-1) 1024) ?_
  refine aa g'3 ?_
  exact hQ _ _ (ae (.inl rfl) hbel (x := .bool (btw r (-1) 1024)) (ai Tryz.results120) rfl ⟨by simp [dA, h1d], rfl⟩)
 ·have h1d := bsT h1
  have g'4 := (jn @h1 @h1d)
  refine aa g'4 ?_
  exact hQ _ _ (ae (.inl rfl) hbel (x := .bool false) (ai Tryz.results120) rfl ⟨by simp [dA, h1d], rfl⟩)
theorem kright1_c (H : ac) (m : Int) (r : Int) : ACalls Tryz.prog 119 [.agg [.int .i64 m, .int .i64 r]] H (fun v H' => v = .bool (!(eJ (m, r))) ∧ H' = H) := by
 refine AcT true Tryz.func119 ?_; intro hbel Q hQ
 refine aQ ?_
 refine af (by kernel_rfl) (kvb_c _ m r) ?_
 refine aQ ?_
 exact hQ _ _ (ae (.inl rfl) hbel (x := .bool (!(dA m r))) (ai Tryz.results119) rfl ⟨rfl, rfl⟩)
theorem kset1_c (H : ac) (x0 : Int) (y0 : Int) (x1 : Int) (y1 : Int) (f : Int) (c : Int) : ACalls Tryz.prog 159 [.agg [.int .i64 x0, .int .i64 y0, .int .i64 x1, .int .i64 y1, .int .i64 f, .int .i64 c]] H (fun v H' => v = .bool (!(bxB x0 y0 x1 y1 f c)) ∧ H' = H) := by
 refine AcT true Tryz.func159 ?_; intro hbel Q hQ
 refine aQ ?_
 refine af (by kernel_rfl) (eE _ x0 y0 x1 y1 f c) ?_
 refine aQ ?_
 exact hQ _ _ (ae (.inl rfl) hbel (x := .bool (!(bxB x0 y0 x1 y1 f c))) (ai Tryz.results159) rfl ⟨rfl, rfl⟩)
open Go.RowKit
theorem kset_c (H : ac) (s : AV) (l : List T6) (hs : Sl H 6 s l.length (r6 l)) (hl : l.length ≤ 1000000000) : ACalls Tryz.prog 121 [s] H (fun v H' => v = .bool (bX l) ∧ H' = H) := by
 obtain ⟨bs, os, cs, rfl, hbs⟩ := hs
 have hbls := getElem?_lt hbs
 have hb0s := fun l => aq (l := l) hbs
 refine AcT true Tryz.func121 ?_; intro hbel Q hQ
 have g'1 := (jn @hbs @hb0s)
 refine aa g'1 ?_
 refine al (fun h1 => ?_) (fun h1 => ?_)
 ·have h1d := bsT h1
  have g'2 := (jn @h1 (jn @h1d g'1))
  refine aa g'2 ?_
  refine af (by kernel_rfl) (jz _ _ l ⟨_, _, _, rfl, by first | exact hb0s _ | exact hbs⟩ (by omega) _ [] (by kernel_rfl) rfl (fun b => !bJ b) (fun j hj => kset1_c _ _ _ _ _ _ _)) ?_
  refine aa g'2 ?_
  exact hQ _ _ (au (.inl rfl) hbel (x := .bool (!(l.any (fun b => !bJ b)))) (ai Tryz.results121) rfl ⟨by first | (simp [bX, h1d]; done) | (unfold bX; simp only [h1]; rfl), rfl⟩)
 ·have h1d := bsT h1
  have g'3 := (jn @h1 (jn @h1d g'1))
  refine aa g'3 ?_
  exact hQ _ _ (au (.inl rfl) hbel (x := .bool false) (ai Tryz.results121) rfl ⟨by first | (simp [bX, h1d]; done) | (unfold bX; simp only [h1]; rfl), rfl⟩)
theorem kpairs_c (H : ac) (s : AV) (l : List T6) (hs : Sl H 6 s l.length (r6 l)) (hS : bX l = true) : ACalls Tryz.prog 123 [s] H (fun v H' => v = .int .i64 (sumC l l.length) ∧ H' = H) := by
 obtain ⟨bs, os, cs, rfl, hbs⟩ := hs
 have hbls := getElem?_lt hbs
 have hb0s := fun l => aq (l := l) hbs
 have hln := gD hS
 refine AcT true Tryz.func123 ?_; intro hbel Q hQ
 have g'4 := (jn @hbs @hb0s)
 refine aa g'4 ?_
 refine go_loop try_mixed (by kernel_rfl) (fun k F Hx => ∃ i : Nat, i + k = l.length ∧ F = [(3, .int .i64 (sumC l i)), (6, .sl (some (bs, 0)) l.length cs), (7, .int .i64 ((l.length : Nat) : Int)), (8, .int .i64 ((i : Nat) : Int))] ∧ H = Hx) (l.length) ?_ ?_
 ·refine ⟨_, _, _, ⟨0, by omega, rfl, rfl⟩, Abs.by0 hbel ?_⟩
  exact aV @sumC.eq_1
 ·rintro k0 F Hx ⟨i, hm0, rfl, rfl⟩ J0 hJ0
  refine aa g'4 ?_
  refine ak (fun h1 => ?_) (fun h1 => ?_)
  ·have h1d := bsT h1
   have hsb := sumC_bd hS i (by omega)
   have hgb := g66_bd hS (show i < l.length by omega)
   have q2 := cD (l := l) (j := i) (by omega)
   have g'5 := (jn @h1 (jn @h1d (jn @bM (jn @q2 g'4))))
   refine aa g'5 ?_
   refine hJ0 _ _ ⟨k0 - 1, by omega, _, _, _, ⟨i + 1, by omega, rfl, rfl⟩, Abs.byN hbel ?_⟩
   exact aV @sumC.eq_2
  ·have h1d := bsT h1
   obtain rfl : i = l.length := by omega
   have g'6 := (jn @h1 (jn @h1d g'4))
   refine aa g'6 ?_
   exact hQ _ _ (au (.inl rfl) hbel (x := .int .i64 (sumC l l.length)) (ai Tryz.results123) rfl ⟨rfl, rfl⟩)
theorem ktau1_c (H : ac) (x0 : Int) (y0 : Int) (x1 : Int) (y1 : Int) (f : Int) (c : Int) (hb : bxB x0 y0 x1 y1 f c = true) : ACalls Tryz.prog 122 [.agg [.int .i64 x0, .int .i64 y0, .int .i64 x1, .int .i64 y1, .int .i64 f, .int .i64 c]] H (fun v H' => v = .bool (wdeB (x0, y0, x1, y1, f, c)) ∧ H' = H) := by
 have hbb := bO.1 hb
 refine AcT true Tryz.func122 ?_; intro hbel Q hQ
 refine aQ ?_
 refine al (fun h1 => ?_) (fun h1 => ?_)
 ·have h1d := bsT h1
  have g'7 := (jn @h1 @h1d)
  refine aa g'7 ?_
  exact hQ _ _ (ae (.inl rfl) hbel (x := .bool (decide (64 < (y1 - y0)))) (ai Tryz.results122) rfl ⟨by simp [wdeB, h1d], rfl⟩)
 ·have h1d := bsT h1
  have g'8 := (jn @h1 @h1d)
  refine aa g'8 ?_
  exact hQ _ _ (ae (.inl rfl) hbel (x := .bool true) (ai Tryz.results122) rfl ⟨by simp [wdeB, h1d], rfl⟩)
open Go.RowKit
theorem jg (H : ac) (s : AV) (l : List T6) (hs : Sl H 6 s l.length (r6 l)) (hS : bX l = true) : ACalls Tryz.prog 81 [s] H (fun v H' => v = .bool (fm l) ∧ H' = H) := by
 obtain ⟨bs, os, cs, rfl, hbs⟩ := hs
 have hbls := getElem?_lt hbs
 have hb0s := fun l => aq (l := l) hbs
 have hln := gD hS
 refine AcT true Tryz.func81 ?_; intro hbel Q hQ
 have g'1 := (jn @hbs @hb0s)
 refine aa g'1 ?_
 refine af (by kernel_rfl) (kpairs_c _ _ l ⟨_, _, _, rfl, by first | exact hb0s _ | exact hbs⟩ (by assumption)) ?_
 refine aa g'1 ?_
 refine al (fun h1 => ?_) (fun h1 => ?_)
 ·have h1d := bsT h1
  have g'2 := (jn @h1 (jn @h1d g'1))
  refine aa g'2 ?_
  refine af (by kernel_rfl) (jz _ _ l ⟨_, _, _, rfl, by first | exact hb0s _ | exact hbs⟩ (by omega) _ [] (by kernel_rfl) rfl (wdeB) (fun j hj => ktau1_c _ _ _ _ _ _ _ ((bY.1 hS).2 (g6 l j) (cU hj)))) ?_
  refine aa g'2 ?_
  exact hQ _ _ (au (.inl rfl) hbel (x := .bool (!(l.any (wdeB)))) (ai Tryz.results81) rfl ⟨by first | (simp [fm, h1d]; done) | (unfold fm; simp only [h1]; rfl), rfl⟩)
 ·have h1d := bsT h1
  have g'3 := (jn @h1 (jn @h1d g'1))
  refine aa g'3 ?_
  exact hQ _ _ (au (.inl rfl) hbel (x := .bool false) (ai Tryz.results81) rfl ⟨by first | (simp [fm, h1d]; done) | (unfold fm; simp only [h1]; rfl), rfl⟩)
theorem kright_c (H : ac) (W : Int) (Hh : Int) (pp : AV) (xs : List Int) (s : AV) (l : List T6) (q : AV) (sc : List (Int × Int)) (g : Int) (hpp : Sl H 1 pp xs.length (ints .u8 xs)) (hs : Sl H 6 s l.length (r6 l)) (hq : Sl H 2 q sc.length (prs sc)) (hl : l.length ≤ 1000000000) (hsc : sc.length ≤ 1000000000) : ACalls Tryz.prog 80 [.agg [.int .i64 W, .int .i64 Hh, pp], s, q, .int .i64 g] H (fun v H' => v = .bool (dk W Hh xs l sc g) ∧ H' = H) := by
 obtain ⟨bpp, opp, cpp, rfl, hbpp⟩ := hpp
 have hblpp := getElem?_lt hbpp
 have hb0pp := fun l => aq (l := l) hbpp
 obtain ⟨bs, os, cs, rfl, hbs⟩ := hs
 have hbls := getElem?_lt hbs
 have hb0s := fun l => aq (l := l) hbs
 obtain ⟨bq, oq, cq, rfl, hbq⟩ := hq
 have hblq := getElem?_lt hbq
 have hb0q := fun l => aq (l := l) hbq
 refine AcT true Tryz.func80 ?_; intro hbel Q hQ
 have g'4 := (jn @hbpp (jn @hb0pp (jn @hbs (jn @hb0s (jn @hbq @hb0q)))))
 refine aa g'4 ?_
 refine af (by kernel_rfl) (hI _ W Hh _ xs (.inr ⟨_, _, _, rfl, by first | exact hb0pp _ | exact hbpp⟩)) ?_
 refine aa g'4 ?_
 refine al (fun h1 => ?_) (fun h1 => ?_)
 ·have h1d := bsT h1
  have g'5 := (jn @h1 (jn @h1d g'4))
  refine aa g'5 ?_
  refine al (fun h2 => ?_) (fun h2 => ?_)
  ·have h2d := bsT h2
   have g'6 := (jn @h2 (jn @h2d g'5))
   refine aa g'6 ?_
   refine af (by kernel_rfl) (kset_c _ _ l ⟨_, _, _, rfl, by first | exact hb0s _ | exact hbs⟩ (by omega)) ?_
   refine aa g'6 ?_
   refine al (fun h3 => ?_) (fun h3 => ?_)
   ·have h3d := bsT h3
    have g'7 := (jn @h3 (jn @h3d g'6))
    refine aa g'7 ?_
    refine al (fun h4 => ?_) (fun h4 => ?_)
    ·have h4d := bsT h4
     have g'8 := (jn @h4 (jn @h4d g'7))
     refine aa g'8 ?_
     refine af (by kernel_rfl) (has_m _ _ sc ⟨_, _, _, rfl, by first | exact hb0q _ | exact hbq⟩ (by omega) _ [] (by kernel_rfl) rfl (fun e => !eJ e) (fun j hj => kright1_c _ _ _)) ?_
     refine aa g'8 ?_
     refine al (fun h5 => ?_) (fun h5 => ?_)
     ·have h5d := bsT h5
      have g'9 := (jn @h5 (jn @h5d g'8))
      refine aa g'9 ?_
      refine af (by kernel_rfl) (cN _ g 1 32) ?_
      refine aa g'9 ?_
      exact hQ _ _ (ae (.inl rfl) hbel (x := .bool (btw g 1 32)) (ai Tryz.results80) rfl ⟨by first | (simp [dk, cw, h1d, h2d, h3d, h4d, h5d]; done) | (unfold dk cw; simp only [h1, h2, h3, h4, h5]; rfl), rfl⟩)
     ·have h5d := bsT h5
      have g'10 := (jn @h5 (jn @h5d g'8))
      refine aa g'10 ?_
      exact hQ _ _ (ae (.inl rfl) hbel (x := .bool false) (ai Tryz.results80) rfl ⟨by first | (simp [dk, cw, h1d, h2d, h3d, h4d, h5d]; done) | (unfold dk cw; simp only [h1, h2, h3, h4, h5]; rfl), rfl⟩)
    ·have h4d := bsT h4
     have g'11 := (jn @h4 (jn @h4d g'7))
     refine aa g'11 ?_
     exact hQ _ _ (ae (.inl rfl) hbel (x := .bool false) (ai Tryz.results80) rfl ⟨by first | (simp [dk, cw, h1d, h2d, h3d, h4d]; done) | (unfold dk cw; simp only [h1, h2, h3, h4]; rfl), rfl⟩)
   ·have h3d := bsT h3
    have g'12 := (jn @h3 (jn @h3d g'6))
    refine aa g'12 ?_
    exact hQ _ _ (ae (.inl rfl) hbel (x := .bool false) (ai Tryz.results80) rfl ⟨by first | (simp [dk, cw, h1d, h2d, h3d]; done) | (unfold dk cw; simp only [h1, h2, h3]; rfl), rfl⟩)
  ·have h2d := bsT h2
   have g'13 := (jn @h2 (jn @h2d g'5))
   refine aa g'13 ?_
   exact hQ _ _ (ae (.inl rfl) hbel (x := .bool false) (ai Tryz.results80) rfl ⟨by first | (simp [dk, cw, h1d, h2d]; done) | (unfold dk cw; simp only [h1, h2]; rfl), rfl⟩)
 ·have h1d := bsT h1
  have g'14 := (jn @h1 (jn @h1d g'4))
  refine aa g'14 ?_
  exact hQ _ _ (ae (.inl rfl) hbel (x := .bool false) (ai Tryz.results80) rfl ⟨by first | (simp [dk, cw, h1d]; done) | (unfold dk cw; simp only [h1]; rfl), rfl⟩)
open Go.RowKit
theorem hlistk_c (H : ac) (l : List T6) (i : Nat) (ha : bD (g65 l i) (g66 l i) = true) : ACalls Tryz.prog 116 [.agg [.int .i64 (g65 l i), .int .i64 (g66 l i)]] H (fun v H' => v = .sl (some (H.length, 0)) (mkB (g6 l i)).length none ∧ H' = H ++ [.cells true 1 (ints .i64 (mkB (g6 l i)))]) := l0 H _ _ ha
theorem dL (H : ac) (l : List T6) (m far : Int) : ACalls Tryz.prog 160 [.agg [.int .i64 (g91 (ar l m) 0), .int .i64 (g92 (ar l m) 0)], .agg [.int .i64 (g97 (ar l m) 0), .int .i64 (g98 (ar l m) 0), .int .i64 (g99 (ar l m) 0)], .int .i64 0, .int .i64 far] H (fun v H' => v = .tup [.sl (some (H.length, 0)) (aH l m far).length (bb (aH l m far).length), .int .i64 (trE (g91 (ar l m) 0) (g92 (ar l m) 0) (g97 (ar l m) 0) (g98 (ar l m) 0) (g99 (ar l m) 0) 0 far)] ∧ H' = H ++ [.cells (aX (aH l m far).length) 2 (prs (aH l m far))]) := kw H _ _ _ _ _ _ _
theorem g9_mem {l : List T9} {j : Nat} (h : j < l.length) : g9 l j ∈ l := by
 have := g9_eq h
 have e : (g91 l j, g92 l j, g93 l j, g94 l j, g95 l j, g96 l j, g97 l j, g98 l j, g99 l j) = g9 l j := rfl
 rw [e] at this; rw [this]; exact List.getElem_mem h
theorem fstL_len (l : List T6) (m far : Int) : (aH l m far).length ≤ 7225 := jE _ _ _ _ _ _ _
theorem dD (H : ac) (x0 : Int) (y0 : Int) (x1 : Int) (y1 : Int) (f : Int) (c : Int) (ha : bxB x0 y0 x1 y1 f c = true) : ACalls Tryz.prog 161 [.agg [.int .i64 x0, .int .i64 y0, .int .i64 x1, .int .i64 y1, .int .i64 f, .int .i64 c]] H (fun v H' => v = .sl (some (H.length, 0)) 4 none ∧ H' = H ++ [.cells true 2 [.int .i64 x0, .int .i64 y0, .int .i64 x1, .int .i64 y0, .int .i64 x0, .int .i64 y1, .int .i64 x1, .int .i64 y1]]) := by
 refine AcT true Tryz.func161 ?_; intro hbel Q hQ
 have g'1 := @ha
 refine aa g'1 ?_
 refine af (by kernel_rfl) (eE _ x0 y0 x1 y1 f c) ?_
 refine aa g'1 ?_
 refine hQ _ _ (aY (.inl rfl) hbel (x1 := .sl (some (H.length + 1, 0)) 4 (some 4)) (l2 := [.cells true 2 [.int .i64 x0, .int .i64 y0, .int .i64 x1, .int .i64 y0, .int .i64 x0, .int .i64 y1, .int .i64 x1, .int .i64 y1]]) (.sl (some (H.length, 0)) 4 none) (ai Tryz.results161) [] rfl [1] (by decide) ⟨rfl, rfl⟩ ?_)
 exact aW
theorem iv (H : ac) (s : AV) (l : List T6) (m : Int) (r : Int) (hs : Sl H 6 s l.length (r6 l)) (hS : bX l = true) : ACalls Tryz.prog 129 [s, .agg [.int .i64 m, .int .i64 r]] H (fun v H' => v = .sl (some (H.length, 0)) ((ar l m).length) (bb (ar l m).length) ∧ H' = H ++ [.cells (aX (ar l m).length) 9 (r9 (ar l m))]) := by
 obtain ⟨bs, os, cs, rfl, hbs⟩ := hs
 have hbls := getElem?_lt hbs
 have hb0s := fun l => aq (l := l) hbs
 have hln := gD hS
 refine AcT true Tryz.func129 ?_; intro hbel Q hQ
 have g'2 := (jn @hbs @hb0s)
 refine aa g'2 ?_
 refine go_loop try_mixed (by kernel_rfl) (fun k F Hx => ∃ i : Nat, i + k = l.length ∧ F = [(3, .ptr (some (H.length, 0))), (5, .sl (some (H.length + 1, 0)) ((dirS l m i).length) (bb (dirS l m i).length)), (10, .sl (some (bs, 0)) l.length cs), (11, .int .i64 ((l.length : Nat) : Int)), (12, .int .i64 ((i : Nat) : Int))] ∧ Hx = H ++ [.cells true 0 [.int .i64 m, .int .i64 r], .cells (aX (dirS l m i).length) 9 (r9 (dirS l m i))]) (l.length) ?_ ?_
 ·refine ⟨_, _, _, ⟨0, by omega, rfl, rfl⟩, Abs.byG hbel [.cells false 9 []] rfl [0, 1] (by decide) ?_⟩
  exact aD (jn @dirS.eq_1 (jn @bi (jn @bo (jn @bZ @bU))))
 ·rintro k0 F Hx ⟨i, hm0, rfl, rfl⟩ J0 hJ0
  have g'3 := (jn @dC (jn @jf g'2))
  refine aa g'3 ?_
  refine ak (fun h1 => ?_) (fun h1 => ?_)
  ·have h1d := bsT h1
   have hai : bD (g65 l i) (g66 l i) = true := (bO.1 ((bY.1 hS).2 (g6 l i) (cU (by omega)))).2.2
   have hdl := kx hS m i (by omega)
   have hmk := l7 hS (show i < l.length by omega)
   have q2 := cD (l := l) (j := i) (by omega)
   have g'4 := (jn @h1 (jn @h1d (jn @bM (jn @q2 g'3))))
   refine aa g'4 ?_
   refine af (by kernel_rfl) (hlistk_c _ l i hai) ?_
   refine aa g'4 ?_
   refine go_loop try_mixed (by kernel_rfl) (fun k F Hx => ∃ j : Nat, j + k = (mkB (g6 l i)).length ∧ F = [(3, .ptr (some (H.length, 0))), (5, .sl (some (H.length + 3, 0)) ((dirS l m i ++ dirB (g6 l i) m j).length) (bb (dirS l m i ++ dirB (g6 l i) m j).length)), (7, .ptr (some (H.length + 1, 0))), (10, .sl (some (bs, 0)) l.length cs), (11, .int .i64 ((l.length : Nat) : Int)), (12, .int .i64 ((i : Nat) : Int)), (21, .sl (some (H.length + 2, 0)) ((mkB (g6 l i)).length) none), (22, .int .i64 (((mkB (g6 l i)).length : Nat) : Int)), (23, .int .i64 ((j : Nat) : Int))] ∧ Hx = H ++ [.cells true 0 [.int .i64 m, .int .i64 r], .cells true 0 [.int .i64 (g61 l i), .int .i64 (g62 l i), .int .i64 (g63 l i), .int .i64 (g64 l i), .int .i64 (g65 l i), .int .i64 (g66 l i)], .cells true 1 (ints .i64 (mkB (g6 l i))), .cells (aX (dirS l m i ++ dirB (g6 l i) m j).length) 9 (r9 (dirS l m i ++ dirB (g6 l i) m j))]) ((mkB (g6 l i)).length) ?_ ?_
   ·refine ⟨_, _, _, ⟨0, by omega, rfl, rfl⟩, Abs.byG hbel [] rfl [0, 2, 3, 1] (by decide) ?_⟩
    exact aD (jn @dirB.eq_1 (jn @List.append_nil.{0} (jn @bi (jn @bo (jn @bZ @bU)))))
   ·rintro k1 F Hx ⟨j, hm1, rfl, rfl⟩ J1 hJ1
    have hbl := iu (g6 l i) m j
    have hst : dirB (g6 l i) m (j + 1) = dirB (g6 l i) m j ++ [(g61 l i, g62 l i, g63 l i, g64 l i, g65 l i, g66 l i, (bH (gi (mkB (g6 l i)) j) m).1, (bH (gi (mkB (g6 l i)) j) m).2.1, (bH (gi (mkB (g6 l i)) j) m).2.2)] := rfl
    have g'5 := (jn @ck (jn @cZ g'4))
    refine aa g'5 ?_
    refine ak (fun h3 => ?_) (fun h3 => ?_)
    ·have h3d := bsT h3
     have q4 := dh (k := .i64) (xs := mkB (g6 l i)) (j := j) (by omega)
     have g'6 := (jn @h3 (jn @h3d (jn @q4 g'5)))
     refine aa g'6 ?_
     refine aB (by kernel_rfl) (hbeam_c _ (gi (mkB (g6 l i)) j) m) ?_
     have g'7 := (jn @bp (jn @dU g'6))
     refine aa g'7 ?_
     refine hJ1 _ _ ⟨k1 - 1, by omega, _, _, _, ⟨j + 1, by omega, rfl, rfl⟩, Abs.byG hbel [] rfl [0, 1, 2, 5] (by decide) ?_⟩
     exact aD (jn @hst (jn @List.append_assoc.{0} (jn @bi (jn @bo (jn @bZ @bU)))))
    ·have h3d := bsT h3
     obtain rfl : j = (mkB (g6 l i)).length := by omega
     have g'8 := (jn @h3 (jn @h3d g'5))
     refine aa g'8 ?_
     refine hJ0 _ _ ⟨k0 - 1, by omega, _, _, _, ⟨i + 1, by omega, rfl, rfl⟩, Abs.byG hbel [] rfl [0, 3] (by decide) ?_⟩
     exact aD (jn @dirS.eq_2 (jn @bi (jn @bo (jn @bZ @bU))))
  ·have h1d := bsT h1
   obtain rfl : i = l.length := by omega
   have g'9 := (jn @h1 (jn @h1d g'3))
   refine aa g'9 ?_
   refine hQ _ _ (aY (.inl rfl) hbel (x1 := .sl (some (H.length + 1, 0)) ((dirS l m l.length).length) (bb (dirS l m l.length).length)) (l2 := [.cells (aX (dirS l m l.length).length) 9 (r9 (dirS l m l.length))]) (.sl (some (H.length, 0)) ((dirS l m l.length).length) (bb (dirS l m l.length).length)) (ai Tryz.results129) [] rfl [1] (by decide) ⟨rfl, rfl⟩ ?_)
   exact aV @bU
theorem passes_c (H : ac) (x0 : Int) (y0 : Int) (x1 : Int) (y1 : Int) (f : Int) (c : Int) (vx : Int) (vy : Int) (vd : Int) (s0 : Int) (t0 : Int) (s1 : Int) (t1 : Int) (far : Int) (hp : bxB x0 y0 x1 y1 f c = true) : ACalls Tryz.prog 164 [.agg [.int .i64 x0, .int .i64 y0, .int .i64 x1, .int .i64 y1, .int .i64 f, .int .i64 c, .int .i64 vx, .int .i64 vy, .int .i64 vd], .agg [.int .i64 s0, .int .i64 t0, .int .i64 s1, .int .i64 t1], .int .i64 far] H (fun v H' => v = .bool (psB (x0, y0, x1, y1, f, c, vx, vy, vd) s0 t0 s1 t1 far) ∧ H' = H) := by
 refine AcT true Tryz.func164 ?_; intro hbel Q hQ
 refine aQ ?_
 refine af (by kernel_rfl) (dD _ x0 y0 x1 y1 f c (by assumption)) ?_
 refine aQ ?_
 refine go_loop try_mixed (by kernel_rfl) (fun k F Hx => ∃ j : Nat, j + k = 4 ∧ ((1 ≤ j → dF x0 y0 vx vy vd far s0 t0 s1 t1 = true) ∧ (2 ≤ j → dF x1 y0 vx vy vd far s0 t0 s1 t1 = true) ∧ (3 ≤ j → dF x0 y1 vx vy vd far s0 t0 s1 t1 = true) ∧ (4 ≤ j → dF x1 y1 vx vy vd far s0 t0 s1 t1 = true)) ∧ F = [(2, .int .i64 far), (3, .ptr (some (H.length, 0))), (4, .ptr (some (H.length + 1, 0))), (11, .sl (some (H.length + 2, 0)) 4 none), (12, .int .i64 4), (13, .int .i64 ((j : Nat) : Int))] ∧ Hx = H ++ [.cells true 0 [.int .i64 x0, .int .i64 y0, .int .i64 x1, .int .i64 y1, .int .i64 f, .int .i64 c, .int .i64 vx, .int .i64 vy, .int .i64 vd], .cells true 0 [.int .i64 s0, .int .i64 t0, .int .i64 s1, .int .i64 t1], .cells true 2 [.int .i64 x0, .int .i64 y0, .int .i64 x1, .int .i64 y0, .int .i64 x0, .int .i64 y1, .int .i64 x1, .int .i64 y1]]) (4) ?_ ?_
 ·refine ⟨_, _, _, ⟨0, by omega, ⟨fun h => by omega, fun h => by omega, fun h => by omega, fun h => by omega⟩, rfl, rfl⟩, Abs.byG hbel [] rfl [0, 1, 2] (by decide) ?_⟩
  exact aW
 ·rintro k0 F Hx ⟨j, hm0, hal, rfl, rfl⟩ J0 hJ0
  refine aQ ?_
  refine ak (fun h1 => ?_) (fun h1 => ?_)
  ·have h1d := bsT h1
   obtain rfl | rfl | rfl | rfl := (by omega : j = 0 ∨ j = 1 ∨ j = 2 ∨ j = 3)
   ·skip
    have g'10 := (jn @h1 @h1d)
    refine aa g'10 ?_
    refine af (by kernel_rfl) (dK _ x0 y0 vx vy vd far s0 t0 s1 t1) ?_
    refine aa g'10 ?_
    refine ak (fun h2 => ?_) (fun h2 => ?_)
    ·have h2d := bsT h2
     have hfinP : psB (x0, y0, x1, y1, f, c, vx, vy, vd) s0 t0 s1 t1 far = false := by simp [psB, h2d]
     have g'11 := (jn @h2 (jn @h2d g'10))
     refine aa g'11 ?_
     exact hQ _ _ (ae (.inl rfl) hbel (x := .bool false) (ai Tryz.results164) rfl ⟨by rw [hfinP], rfl⟩)
    ·have h2d := bsT h2
     have hc0 := h2d
     have g'12 := (jn @h2 (jn @h2d g'10))
     refine aa g'12 ?_
     refine hJ0 _ _ ⟨k0 - 1, by omega, _, _, _, ⟨0 + 1, by omega, by refine ⟨fun h => ?_, fun h => ?_, fun h => ?_, fun h => ?_⟩ <;> first | omega | assumption | exact hal.1 (by omega) | exact hal.2.1 (by omega) | exact hal.2.2.1 (by omega), rfl, rfl⟩, Abs.byG hbel [] rfl [0, 1, 2] (by decide) ?_⟩
     exact aW
   ·skip
    have g'13 := (jn @h1 @h1d)
    refine aa g'13 ?_
    refine af (by kernel_rfl) (dK _ x1 y0 vx vy vd far s0 t0 s1 t1) ?_
    refine aa g'13 ?_
    refine ak (fun h3 => ?_) (fun h3 => ?_)
    ·have h3d := bsT h3
     have hfinP : psB (x0, y0, x1, y1, f, c, vx, vy, vd) s0 t0 s1 t1 far = false := by simp [psB, h3d]
     have g'14 := (jn @h3 (jn @h3d g'13))
     refine aa g'14 ?_
     exact hQ _ _ (ae (.inl rfl) hbel (x := .bool false) (ai Tryz.results164) rfl ⟨by rw [hfinP], rfl⟩)
    ·have h3d := bsT h3
     have hc1 := h3d
     have g'15 := (jn @h3 (jn @h3d g'13))
     refine aa g'15 ?_
     refine hJ0 _ _ ⟨k0 - 1, by omega, _, _, _, ⟨1 + 1, by omega, by refine ⟨fun h => ?_, fun h => ?_, fun h => ?_, fun h => ?_⟩ <;> first | omega | assumption | exact hal.1 (by omega) | exact hal.2.1 (by omega) | exact hal.2.2.1 (by omega), rfl, rfl⟩, Abs.byG hbel [] rfl [0, 1, 2] (by decide) ?_⟩
     exact aW
   ·skip
    have g'16 := (jn @h1 @h1d)
    refine aa g'16 ?_
    refine af (by kernel_rfl) (dK _ x0 y1 vx vy vd far s0 t0 s1 t1) ?_
    refine aa g'16 ?_
    refine ak (fun h4 => ?_) (fun h4 => ?_)
    ·have h4d := bsT h4
     have hfinP : psB (x0, y0, x1, y1, f, c, vx, vy, vd) s0 t0 s1 t1 far = false := by simp [psB, h4d]
     have g'17 := (jn @h4 (jn @h4d g'16))
     refine aa g'17 ?_
     exact hQ _ _ (ae (.inl rfl) hbel (x := .bool false) (ai Tryz.results164) rfl ⟨by rw [hfinP], rfl⟩)
    ·have h4d := bsT h4
     have hc2 := h4d
     have g'18 := (jn @h4 (jn @h4d g'16))
     refine aa g'18 ?_
     refine hJ0 _ _ ⟨k0 - 1, by omega, _, _, _, ⟨2 + 1, by omega, by refine ⟨fun h => ?_, fun h => ?_, fun h => ?_, fun h => ?_⟩ <;> first | omega | assumption | exact hal.1 (by omega) | exact hal.2.1 (by omega) | exact hal.2.2.1 (by omega), rfl, rfl⟩, Abs.byG hbel [] rfl [0, 1, 2] (by decide) ?_⟩
     exact aW
   ·skip
    have g'19 := (jn @h1 @h1d)
    refine aa g'19 ?_
    refine af (by kernel_rfl) (dK _ x1 y1 vx vy vd far s0 t0 s1 t1) ?_
    refine aa g'19 ?_
    refine ak (fun h5 => ?_) (fun h5 => ?_)
    ·have h5d := bsT h5
     have hfinP : psB (x0, y0, x1, y1, f, c, vx, vy, vd) s0 t0 s1 t1 far = false := by simp [psB, h5d]
     have g'20 := (jn @h5 (jn @h5d g'19))
     refine aa g'20 ?_
     exact hQ _ _ (ae (.inl rfl) hbel (x := .bool false) (ai Tryz.results164) rfl ⟨by rw [hfinP], rfl⟩)
    ·have h5d := bsT h5
     have hc3 := h5d
     have g'21 := (jn @h5 (jn @h5d g'19))
     refine aa g'21 ?_
     refine hJ0 _ _ ⟨k0 - 1, by omega, _, _, _, ⟨3 + 1, by omega, by refine ⟨fun h => ?_, fun h => ?_, fun h => ?_, fun h => ?_⟩ <;> first | omega | assumption | exact hal.1 (by omega) | exact hal.2.1 (by omega) | exact hal.2.2.1 (by omega), rfl, rfl⟩, Abs.byG hbel [] rfl [0, 1, 2] (by decide) ?_⟩
     exact aW
  ·have h1d := bsT h1
   have hfinP : psB (x0, y0, x1, y1, f, c, vx, vy, vd) s0 t0 s1 t1 far = true := by unfold psB; simp only; rw [hal.1 (by omega), hal.2.1 (by omega), hal.2.2.1 (by omega), hal.2.2.2 (by omega)]; rfl
   have g'22 := (jn @h1 @h1d)
   refine aa g'22 ?_
   exact hQ _ _ (ae (.inl rfl) hbel (x := .bool true) (ai Tryz.results164) rfl ⟨by rw [hfinP], rfl⟩)
theorem kprv1_c (H : ac) (x0 : Int) (y0 : Int) (x1 : Int) (y1 : Int) (f : Int) (c : Int) (vx : Int) (vy : Int) (vd : Int) (s0 : Int) (t0 : Int) (s1 : Int) (t1 : Int) (bz : Nat) (far : Int) (bw : Nat) (hz : ∃ o, H[bz]? = some (.cells o 0 [.int .i64 s0, .int .i64 t0, .int .i64 s1, .int .i64 t1])) (hw : ∃ o, H[bw]? = some (.cells o 0 [.int .i64 far])) (hp : bxB x0 y0 x1 y1 f c = true) : ACalls Tryz.prog 163 [.agg [.int .i64 x0, .int .i64 y0, .int .i64 x1, .int .i64 y1, .int .i64 f, .int .i64 c, .int .i64 vx, .int .i64 vy, .int .i64 vd], .ptr (some (bz, 0)), .ptr (some (bw, 0))] H (fun v H' => v = .bool (!(psB (x0, y0, x1, y1, f, c, vx, vy, vd) s0 t0 s1 t1 far)) ∧ H' = H) := by
 obtain ⟨oz, hbz⟩ := hz
 have hblz := getElem?_lt hbz
 have hb0z := fun l => aq (l := l) hbz
 obtain ⟨ow, hbw⟩ := hw
 have hblw := getElem?_lt hbw
 have hb0w := fun l => aq (l := l) hbw
 refine AcT true Tryz.func163 ?_; intro hbel Q hQ
 have g'23 := (jn @hbz (jn @hb0z (jn @hbw @hb0w)))
 refine aa g'23 ?_
 refine af (by kernel_rfl) (passes_c _ x0 y0 x1 y1 f c vx vy vd s0 t0 s1 t1 far (by assumption)) ?_
 refine aa g'23 ?_
 exact hQ _ _ (ae (.inl rfl) hbel (x := .bool (!(psB (x0, y0, x1, y1, f, c, vx, vy, vd) s0 t0 s1 t1 far))) (ai Tryz.results163) rfl ⟨rfl, rfl⟩)
theorem psqr_c (H : ac) (x : Int) (y : Int) : ACalls Tryz.prog 162 [.agg [.int .i64 x, .int .i64 y]] H (fun v H' => v = .tup [.agg [.int .i64 (mkV (sqO x y) (x * 64)), .int .i64 (mkV (sqO x y) (y * 64)), .int .i64 (mkV (sqO x y) (x * 64 + 64)), .int .i64 (mkV (sqO x y) (y * 64 + 64))], .bool (sqO x y)] ∧ H' = H) := by
 refine AcT true Tryz.func162 ?_; intro hbel Q hQ
 refine aQ ?_
 refine af (by kernel_rfl) (eT _ x 16384 (by omega)) ?_
 refine aQ ?_
 refine al (fun h1 => ?_) (fun h1 => ?_)
 ·have h1d := bsT h1
  have wx := bl.1 h1d
  have g'24 := (jn @h1 @h1d)
  refine aa g'24 ?_
  refine af (by kernel_rfl) (eT _ y 16384 (by omega)) ?_
  refine aa g'24 ?_
  refine ak (fun h2 => ?_) (fun h2 => ?_)
  ·have h2d := bsT h2
   have wy : ¬ (-16384 ≤ y ∧ y ≤ 16384) := mt bl.2 (by rw [h2d]; decide)
   have g'25 := (jn @h2 (jn @h2d g'24))
   refine aa g'25 ?_
   exact hQ _ _ (ae (.inl rfl) hbel (x := .tup [.agg [.int .i64 0, .int .i64 0, .int .i64 0, .int .i64 0], .bool false]) (ai Tryz.results162) rfl ⟨by simp [mkV, sqO, h1d, h2d], rfl⟩)
  ·have h2d := bsT h2
   have wy := bl.1 h2d
   have g'26 := (jn @h2 (jn @h2d g'24))
   refine aa g'26 ?_
   refine af (by kernel_rfl) (gP _ x y (by omega) (by omega)) ?_
   refine aa g'26 ?_
   exact hQ _ _ (ae (.inl rfl) hbel (x := .tup [.agg [.int .i64 (x * 64), .int .i64 (y * 64), .int .i64 (x * 64 + 64), .int .i64 (y * 64 + 64)], .bool true]) (ai Tryz.results162) rfl ⟨by simp [mkV, sqO, h1d, h2d], rfl⟩)
 ·have h1d := bsT h1
  have wx : ¬ (-16384 ≤ x ∧ x ≤ 16384) := mt bl.2 (by rw [h1d]; decide)
  have g'27 := (jn @h1 @h1d)
  refine aa g'27 ?_
  exact hQ _ _ (ae (.inl rfl) hbel (x := .tup [.agg [.int .i64 0, .int .i64 0, .int .i64 0, .int .i64 0], .bool false]) (ai Tryz.results162) rfl ⟨by simp [mkV, sqO, h1d], rfl⟩)
theorem psqr_t (H : ac) (x y : Int) (h : sqO x y = true) : ACalls Tryz.prog 162 [.agg [.int .i64 x, .int .i64 y]] H (fun v H' => v = .tup [.agg [.int .i64 (x * 64), .int .i64 (y * 64), .int .i64 (x * 64 + 64), .int .i64 (y * 64 + 64)], .bool true] ∧ H' = H) := by
 have q := psqr_c H x y
 simp only [h, mkV, if_true] at q; exact q
theorem psqr_f (H : ac) (x y : Int) (h : sqO x y = false) : ACalls Tryz.prog 162 [.agg [.int .i64 x, .int .i64 y]] H (fun v H' => v = .tup [.agg [.int .i64 0, .int .i64 0, .int .i64 0, .int .i64 0], .bool false] ∧ H' = H) := by
 have q := psqr_c H x y
 simp only [h, mkV, if_false, Bool.false_eq_true] at q; exact q
open Go.RowKit
open Go.RowKit
theorem gi_mkB {b : T6} {j : Nat} (h : j < (mkB b).length) : gi (mkB b) j = (b.2.2.2.2.1 + (j : Int)) % 256 := by
 have h2 : j < b.2.2.2.2.2.toNat := by have e : (mkB b).length = b.2.2.2.2.2.toNat := c7 _ _; omega
 show gi (aJ b.2.2.2.2.1 b.2.2.2.2.2.toNat) j = _
 rw [gi_eq (by rw [c7]; exact h2)]
 unfold aJ
 rw [List.getElem_map, List.getElem_range]
open Go.RowKit
theorem all_put {W Hh : Int} {l : List T6} {sc : List (Int × Int)} {g : Int} : aM W Hh l sc g = (rowA W Hh l sc g).foldl (fun o c => fq c o) [] := cpt_put (gT _) fun _ => (fF _).mem_iff
theorem sus_put {l : List T6} {m r g : Int} : bh l m r g = (fu l m r g).foldl (fun o c => fq c o) [] := cpt_put (gT _) fun _ => (fF _).mem_iff
open Go.RowKit
open Go.RowKit
def low0 (r g : Int) : Int := if 0 < r - g then r - g else 0
open Go.RowKit
section
variable {W Hh : Int} {xs : List Int} {px py vx vy vd most : Int}
end
set_option linter.unusedSimpArgs false
set_option linter.unusedVariables false
open Go.RowKit
theorem mkV_t (n : Int) : mkV true n = n := rfl
open Go.RowKit
open Go.RowKit
def hcB (op : Bool) (x y vx vy vd far cx cy : Int) : Bool := bif op then dF x y vx vy vd far (cx * 64) (cy * 64) ((cx + 1) * 64) ((cy + 1) * 64) else eh x y vx vy vd 0 far (cx * 64) (cy * 64) ((cx + 1) * 64) ((cy + 1) * 64)
def h4B (op : Bool) (x0 y0 x1 y1 vx vy vd far cx cy : Int) : Bool := hcB op x0 y0 vx vy vd far cx cy && (hcB op x1 y0 vx vy vd far cx cy && (hcB op x0 y1 vx vy vd far cx cy && hcB op x1 y1 vx vy vd far cx cy))
def fv (W Hh : Int) (xs : List Int) (op : Bool) (x0 y0 x1 y1 vx vy vd far : Int) (c : Int × Int) : Bool := (atI W Hh xs c.1 c.2 == 2) && h4B op x0 y0 x1 y1 vx vy vd far c.1 c.2
def d3 (W Hh : Int) (xs : List Int) (x0 y0 x1 y1 vx vy vd far : Int) (op : Bool) : Bool := !decide (far < 0) && (trL x0 y0 vx vy vd 0 far).any (fv W Hh xs op x0 y0 x1 y1 vx vy vd far)
def frC (W Hh : Int) (xs : List Int) (c : Int × Int) : Bool := atI W Hh xs c.1 c.2 == 1
def empB (W Hh : Int) (xs : List Int) (x0 y0 x1 y1 vx vy vd lo hi : Int) : Bool := (cB x0 y0 x1 y1 vx vy vd lo hi).all (frC W Hh xs)
def refB (W Hh : Int) (xs : List Int) (x0 y0 x1 y1 h m r g : Int) : Bool :=
 bif r == -1 then d3 W Hh xs x0 y0 x1 y1 (bH h m).1 (bH h m).2.1 (bH h m).2.2 (1024 - g) false
 else d3 W Hh xs x0 y0 x1 y1 (bH h m).1 (bH h m).2.1 (bH h m).2.2 (r - g) true || empB W Hh xs x0 y0 x1 y1 (bH h m).1 (bH h m).2.1 (bH h m).2.2 (low0 r g) (r + g)
def dS (x0 y0 x1 y1 : Int) : Bool := btw x0 (-1048576) 1048576 && (btw y0 (-1048576) 1048576 && (btw x1 (-1048576) 1048576 && (btw y1 (-1048576) 1048576 && (btw (x1 - x0) 0 1024 && btw (y1 - y0) 0 1024))))
def badB (W Hh : Int) (xs : List Int) (x0 y0 x1 y1 h : Int) (s : List (Int × Int)) (g : Int) : Bool := dS x0 y0 x1 y1 && s.any fun e => refB W Hh xs x0 y0 x1 y1 h e.1 e.2 g
theorem admB_iff {x0 y0 x1 y1 : Int} : dS x0 y0 x1 y1 = true ↔ ((-1048576 ≤ x0 ∧ x0 ≤ x1 ∧ x1 ≤ 1048576) ∧ -1048576 ≤ y0 ∧ y0 ≤ y1 ∧ y1 ≤ 1048576) ∧ x1 - x0 ≤ 1024 ∧ y1 - y0 ≤ 1024 := by
 unfold dS
 simp only [Bool.and_eq_true, bN]
 omega
def ldN (p : Nat → Bool) : Nat → Nat
 | 0 => 0
 | n + 1 => if ldN p n = n ∧ p n = true then n + 1 else ldN p n
def tlN (p : Nat → Bool) : Nat → Nat
 | 0 => 0
 | n + 1 => if p n = true then tlN p n else n + 1
theorem ldN_le (p : Nat → Bool) : ∀ n, ldN p n ≤ n
 | 0 => Nat.le_refl _
 | n + 1 => by have := ldN_le p n; unfold ldN; split <;> omega
theorem lE {p : Nat → Bool} {i : Nat} : ∀ {n : Nat}, (∀ k, k < i → p k = true) → i ≤ n → (i = n ∨ p i = false) → ldN p n = i
 | 0, _, h, _ => by unfold ldN; omega
 | n + 1, h1, h2, h3 => by
  unfold ldN
  rcases Nat.lt_or_ge i (n + 1) with h | h
  ·have hp : p i = false := h3.resolve_left (by omega)
   have e := lE (n := n) h1 (by omega) (.inr hp)
   rw [e, if_neg]
   rintro ⟨rfl, q⟩
   rw [hp] at q; cases q
  ·obtain rfl : i = n + 1 := by omega
   have e := lE (p := p) (i := n) (n := n) (fun k hk => h1 k (by omega)) (Nat.le_refl _) (.inl rfl)
   rw [e, if_pos ⟨rfl, h1 n (by omega)⟩]
theorem ldN_at {p : Nat → Bool} : ∀ {n : Nat}, ldN p n < n → p (ldN p n) = false
 | n + 1, h => by
  unfold ldN at h ⊢
  split at h
  ·omega
  ·rename_i hn
   rw [if_neg hn]
   rcases Nat.lt_or_ge (ldN p n) n with q | q
   ·exact ldN_at q
   ·have e : ldN p n = n := by have := ldN_le p n; omega
    rw [e] at hn ⊢
    rw [← Bool.not_eq_true]
    exact fun k => hn ⟨rfl, k⟩
theorem tlN_le (p : Nat → Bool) : ∀ n, tlN p n ≤ n
 | 0 => Nat.le_refl _
 | n + 1 => by have := tlN_le p n; unfold tlN; split <;> omega
theorem tlN_lt {p : Nat → Bool} {k : Nat} (hp : p k = false) : ∀ {n : Nat}, k < n → k < tlN p n
 | n + 1, h => by
  unfold tlN
  split
  ·rename_i q
   refine tlN_lt hp ?_
   rcases Nat.lt_or_ge k n with h' | h'
   ·exact h'
   ·obtain rfl : k = n := by omega
    rw [hp] at q; cases q
  ·exact h
theorem tlN_eq {p : Nat → Bool} {j : Nat} (hj : 0 < j ∧ p (j - 1) = false) : ∀ {n : Nat}, j ≤ n → (∀ k, j ≤ k → k < n → p k = true) → tlN p n = j
 | 0, h, _ => by omega
 | n + 1, h, h1 => by
  unfold tlN
  rcases Nat.lt_or_ge n j with q | q
  ·obtain rfl : j = n + 1 := by omega
   rw [if_neg (by rw [show p n = false from hj.2]; decide)]
  ·rw [if_pos (h1 n q (by omega))]
   exact tlN_eq hj q (fun k a b => h1 k a (by omega))
def tX0 (b : T6) : Int := if b.1 < 0 then 0 else b.1
def tY0 (b : T6) : Int := if b.2.1 < 0 then 0 else b.2.1
def tX1 (W : Int) (b : T6) : Int := if 64 * W < b.2.2.1 then 64 * W else b.2.2.1
def tY1 (Hh : Int) (b : T6) : Int := if 64 * Hh < b.2.2.2.1 then 64 * Hh else b.2.2.2.1
def tP (W Hh : Int) (xs : List Int) (b : T6) (s : List (Int × Int)) (g : Int) (k : Nat) : Bool := badB W Hh xs (tX0 b) (tY0 b) (tX1 W b) (tY1 Hh b) (gi (mkB b) k) s g
def tI (W Hh : Int) (xs : List Int) (b : T6) (s : List (Int × Int)) (g : Int) : Nat := ldN (tP W Hh xs b s g) (mkB b).length
def tJ (W Hh : Int) (xs : List Int) (b : T6) (s : List (Int × Int)) (g : Int) : Nat := tlN (tP W Hh xs b s g) (mkB b).length
def tOk (W Hh : Int) (xs : List Int) (b : T6) (s : List (Int × Int)) (g : Int) : Bool := !decide (tX1 W b < tX0 b) && (!decide (tY1 Hh b < tY0 b) && decide (tI W Hh xs b s g < (mkB b).length))
def tB (W Hh : Int) (xs : List Int) (b : T6) (s : List (Int × Int)) (g : Int) : T6 := (tX0 b, tY0 b, tX1 W b, tY1 Hh b, gi (mkB b) (tI W Hh xs b s g), (((tJ W Hh xs b s g - tI W Hh xs b s g : Nat)) : Int))
def InP (b : T6) (x y h : Int) : Prop := (b.1 ≤ x ∧ x ≤ b.2.2.1) ∧ (b.2.1 ≤ y ∧ y ≤ b.2.2.2.1) ∧ jy b.2.2.2.2.1 b.2.2.2.2.2 h
theorem mkB_n {b : T6} : (mkB b).length = b.2.2.2.2.2.toNat := c7 _ _
theorem tB_ok {W Hh : Int} {xs : List Int} {b : T6} {s : List (Int × Int)} {g : Int} (hW : 1 ≤ W ∧ W ≤ 64) (hH : 1 ≤ Hh ∧ Hh ≤ 64) (hb : bJ b = true) (h : tOk W Hh xs b s g = true) : bJ (tB W Hh xs b s g) = true ∧ tI W Hh xs b s g < tJ W Hh xs b s g ∧ tJ W Hh xs b s g ≤ (mkB b).length := by
 unfold tOk at h
 simp only [Bool.and_eq_true, Bool.not_eq_true', decide_eq_false_iff_not, decide_eq_true_eq] at h
 obtain ⟨h1, h2, h3⟩ := h
 have hb6 := bO.1 hb
 have ha := bm.1 hb6.2.2
 have hf : tP W Hh xs b s g (tI W Hh xs b s g) = false := ldN_at h3
 have h4 : tI W Hh xs b s g < tJ W Hh xs b s g := tlN_lt hf h3
 have h5 : tJ W Hh xs b s g ≤ (mkB b).length := tlN_le _ _
 refine ⟨?_, h4, h5⟩
 have hgi := gi_mkB (b := b) h3
 rw [mkB_n] at h3 h5
 unfold bJ tB
 simp only
 refine bO.2 ⟨?_, ?_, bm.2 ?_⟩
 ·have q1 : (tX0 b = 0 ∧ b.1 < 0) ∨ (tX0 b = b.1 ∧ 0 ≤ b.1) := by unfold tX0; split <;> omega
  have q2 : (tX1 W b = 64 * W ∧ 64 * W < b.2.2.1) ∨ (tX1 W b = b.2.2.1 ∧ b.2.2.1 ≤ 64 * W) := by unfold tX1; split <;> omega
  omega
 ·have q1 : (tY0 b = 0 ∧ b.2.1 < 0) ∨ (tY0 b = b.2.1 ∧ 0 ≤ b.2.1) := by unfold tY0; split <;> omega
  have q2 : (tY1 Hh b = 64 * Hh ∧ 64 * Hh < b.2.2.2.1) ∨ (tY1 Hh b = b.2.2.2.1 ∧ b.2.2.2.1 ≤ 64 * Hh) := by unfold tY1; split <;> omega
  omega
 ·rw [hgi]; omega
def c9 (n u : Int) : Int := if n = 1 then 0 else n * u
def fw (b : T6) : Int := c9 (b.2.2.1 - b.1 + 1) 1
def fN (b : T6) : Int := c9 (b.2.2.2.1 - b.2.1 + 1) 1
def splC (b : T6) : Int := c9 b.2.2.2.2.2 8
def c6 (b : T6) : Int := if bJ b = true then (b.2.2.1 - b.1 + 1) * (b.2.2.2.1 - b.2.1 + 1) * b.2.2.2.2.2 else 0
def cW (b : T6) : Bool := !decide (c6 b < 2)
def dx (b : T6) : T6 := if fN b ≤ fw b ∧ splC b ≤ fw b then (b.1, b.2.1, b.1 + (b.2.2.1 - b.1 + 1) / 2 - 1, b.2.2.2.1, b.2.2.2.2.1, b.2.2.2.2.2)
 else if splC b ≤ fN b then (b.1, b.2.1, b.2.2.1, b.2.1 + (b.2.2.2.1 - b.2.1 + 1) / 2 - 1, b.2.2.2.2.1, b.2.2.2.2.2)
 else (b.1, b.2.1, b.2.2.1, b.2.2.2.1, b.2.2.2.2.1, b.2.2.2.2.2 / 2)
def dy (b : T6) : T6 := if fN b ≤ fw b ∧ splC b ≤ fw b then (b.1 + (b.2.2.1 - b.1 + 1) / 2, b.2.1, b.2.2.1, b.2.2.2.1, b.2.2.2.2.1, b.2.2.2.2.2)
 else if splC b ≤ fN b then (b.1, b.2.1 + (b.2.2.2.1 - b.2.1 + 1) / 2, b.2.2.1, b.2.2.2.1, b.2.2.2.2.1, b.2.2.2.2.2)
 else (b.1, b.2.1, b.2.2.1, b.2.2.2.1, (b.2.2.2.2.1 + b.2.2.2.2.2 / 2) % 256, b.2.2.2.2.2 - b.2.2.2.2.2 / 2)
theorem splS_1 {n : Int} (h : 1 ≤ n) : (c9 n 1 = 0 ∧ n = 1) ∨ (c9 n 1 = n ∧ 2 ≤ n) := by unfold c9; split <;> omega
theorem splS_8 {n : Int} (h : 1 ≤ n) : (c9 n 8 = 0 ∧ n = 1) ∨ (c9 n 8 = 8 * n ∧ 2 ≤ n) := by unfold c9; split <;> omega
theorem spl_ok {b : T6} (hb : bJ b = true) (h : cW b = true) : bJ (dx b) = true ∧ bJ (dy b) = true ∧ ∀ x y h : Int, InP b x y h → InP (dx b) x y h ∨ InP (dy b) x y h := by
 have hb6 := bO.1 hb
 have ha := bm.1 hb6.2.2
 have hA : (fw b = 0 ∧ b.2.2.1 - b.1 + 1 = 1) ∨ (fw b = b.2.2.1 - b.1 + 1 ∧ 2 ≤ b.2.2.1 - b.1 + 1) := splS_1 (by omega)
 have hB : (fN b = 0 ∧ b.2.2.2.1 - b.2.1 + 1 = 1) ∨ (fN b = b.2.2.2.1 - b.2.1 + 1 ∧ 2 ≤ b.2.2.2.1 - b.2.1 + 1) := splS_1 (by omega)
 have hC : (splC b = 0 ∧ b.2.2.2.2.2 = 1) ∨ (splC b = 8 * b.2.2.2.2.2 ∧ 2 ≤ b.2.2.2.2.2) := splS_8 (by omega)
 have hn : ¬ (b.2.2.1 - b.1 + 1 = 1 ∧ b.2.2.2.1 - b.2.1 + 1 = 1 ∧ b.2.2.2.2.2 = 1) := fun ⟨q1, q2, q3⟩ => by
  unfold cW c6 at h
  rw [if_pos hb, q1, q2, q3] at h
  revert h; decide
 unfold dx dy
 split
 ·rename_i hc
  refine ⟨?_, ?_, fun x y h ⟨k1, k2, k3⟩ => ?_⟩
  ·exact bO.2 ⟨by simp only; omega, hb6.2.1, hb6.2.2⟩
  ·exact bO.2 ⟨by simp only; omega, hb6.2.1, hb6.2.2⟩
  ·rcases Int.lt_or_le x (b.1 + (b.2.2.1 - b.1 + 1) / 2) with q | q
   ·exact .inl ⟨by simp only; omega, k2, k3⟩
   ·exact .inr ⟨by simp only; omega, k2, k3⟩
 ·split
  ·rename_i hc0 hc
   refine ⟨?_, ?_, fun x y h ⟨k1, k2, k3⟩ => ?_⟩
   ·exact bO.2 ⟨hb6.1, by simp only; omega, hb6.2.2⟩
   ·exact bO.2 ⟨hb6.1, by simp only; omega, hb6.2.2⟩
   ·rcases Int.lt_or_le y (b.2.1 + (b.2.2.2.1 - b.2.1 + 1) / 2) with q | q
    ·exact .inl ⟨k1, by simp only; omega, k3⟩
    ·exact .inr ⟨k1, by simp only; omega, k3⟩
  ·rename_i hc0 hc
   refine ⟨?_, ?_, fun x y h ⟨k1, k2, k3⟩ => ?_⟩
   ·exact bO.2 ⟨hb6.1, hb6.2.1, bm.2 (by simp only; omega)⟩
   ·exact bO.2 ⟨hb6.1, hb6.2.1, bm.2 (by simp only; omega)⟩
   ·unfold jy at k3
    rcases Int.lt_or_le ((h - b.2.2.2.2.1) % 256) (b.2.2.2.2.2 / 2) with q | q
    ·exact .inl ⟨k1, k2, by unfold jy; simp only; omega⟩
    ·exact .inr ⟨k1, k2, by unfold jy; simp only; omega⟩
def rfn (W Hh : Int) (xs : List Int) (s : List (Int × Int)) (g : Int) : Nat → List T6 → Nat → List T6 → List T6
 | 0, _, _, O => O
 | _ + 1, [], _, O => O
 | n + 1, b :: Q, k, O => if tOk W Hh xs b s g = true then (if 0 < k ∧ cW (tB W Hh xs b s g) = true then rfn W Hh xs s g n (Q ++ [dx (tB W Hh xs b s g), dy (tB W Hh xs b s g)]) (k - 1) O else rfn W Hh xs s g n Q k (O ++ [tB W Hh xs b s g])) else rfn W Hh xs s g n Q k O
def co (W Hh : Int) (xs : List Int) (l : List T6) (s : List (Int × Int)) (g : Int) (k : Nat) : List T6 := rfn W Hh xs s g (l.length + 2 * k) l k []
theorem jh {W Hh : Int} {xs : List Int} {s : List (Int × Int)} {g : Int} (hW : 1 ≤ W ∧ W ≤ 64) (hH : 1 ≤ Hh ∧ Hh ≤ 64) : ∀ (n : Nat) (Q : List T6) (k : Nat) (O : List T6), n = Q.length + 2 * k → (∀ b ∈ Q, bJ b = true) → (∀ b ∈ O, bJ b = true) → (∀ b ∈ rfn W Hh xs s g n Q k O, bJ b = true) ∧ (rfn W Hh xs s g n Q k O).length ≤ Q.length + k + O.length
 | 0, Q, k, O, hn, hQ, hO => ⟨hO, by unfold rfn; omega⟩
 | n + 1, [], k, O, hn, hQ, hO => ⟨hO, by unfold rfn; omega⟩
 | n + 1, b :: Q, k, O, hn, hQ, hO => by
  have hb := hQ b (List.mem_cons_self ..)
  have hQ' : ∀ b ∈ Q, bJ b = true := fun c hc => hQ c (List.mem_cons_of_mem _ hc)
  rw [List.length_cons] at hn ⊢
  unfold rfn
  split
  ·rename_i ht
   have hb' := (tB_ok hW hH hb ht).1
   split
   ·rename_i h2
    have hs := spl_ok hb' h2.2
    have ih := jh hW hH (xs := xs) (s := s) (g := g) n (Q ++ [dx (tB W Hh xs b s g), dy (tB W Hh xs b s g)]) (k - 1) O (by rw [List.length_append]; simp only [List.length_cons, List.length_nil]; omega) (fun c hc => by
     rcases List.mem_append.1 hc with hc | hc
     ·exact hQ' c hc
     ·rcases List.mem_cons.1 hc with hc | hc
      ·rw [hc]; exact hs.1
      ·rw [List.mem_singleton.1 hc]; exact hs.2.1) hO
    refine ⟨ih.1, ?_⟩
    have := ih.2
    rw [List.length_append] at this
    simp only [List.length_cons, List.length_nil] at this
    omega
   ·have hO' : ∀ c ∈ O ++ [tB W Hh xs b s g], bJ c = true := fun c hc => by
     rcases List.mem_append.1 hc with hc | hc
     ·exact hO c hc
     ·rw [List.mem_singleton.1 hc]; exact hb'
    rcases Nat.eq_zero_or_pos n with hn0 | hn0
    ·subst hn0
     refine ⟨hO', ?_⟩
     unfold rfn
     rw [List.length_append]; simp only [List.length_cons, List.length_nil]; omega
    ·have ih := jh hW hH (xs := xs) (s := s) (g := g) n Q k (O ++ [tB W Hh xs b s g]) (by omega) hQ' hO'
     refine ⟨ih.1, ?_⟩
     have := ih.2
     rw [List.length_append] at this
     simp only [List.length_cons, List.length_nil] at this
     omega
  ·have ih := jh hW hH (xs := xs) (s := s) (g := g) n Q k O (by omega) hQ' hO
   exact ⟨ih.1, by have := ih.2; omega⟩
open Go.RowKit
set_option maxHeartbeats 4000000
set_option maxRecDepth 100000
def cqX (x0 x1 : Int) : Nat → Int
 | 0 => x0
 | 1 => x1
 | 2 => x0
 | _ => x1
def cqY (y0 y1 : Int) : Nat → Int
 | 0 => y0
 | 1 => y0
 | 2 => y1
 | _ => y1
def h4K (op : Bool) (x0 y0 x1 y1 vx vy vd far cx cy : Int) : Nat → Bool
 | 0 => true
 | n + 1 => h4K op x0 y0 x1 y1 vx vy vd far cx cy n && hcB op (cqX x0 x1 n) (cqY y0 y1 n) vx vy vd far cx cy
theorem h4K_4 {op : Bool} {x0 y0 x1 y1 vx vy vd far cx cy : Int} : h4K op x0 y0 x1 y1 vx vy vd far cx cy 4 = h4B op x0 y0 x1 y1 vx vy vd far cx cy := by
 simp only [h4K, h4B, cqX, cqY, Bool.true_and, Bool.and_assoc]
theorem hcB_t {op : Bool} (h : op = true) {x y vx vy vd far cx cy : Int} : hcB op x y vx vy vd far cx cy = dF x y vx vy vd far (cx * 64) (cy * 64) ((cx + 1) * 64) ((cy + 1) * 64) := by unfold hcB; rw [h]; rfl
theorem hcB_f {op : Bool} (h : op = false) {x y vx vy vd far cx cy : Int} : hcB op x y vx vy vd far cx cy = eh x y vx vy vd 0 far (cx * 64) (cy * 64) ((cx + 1) * 64) ((cy + 1) * 64) := by unfold hcB; rw [h]; rfl
def ad4 (x0 y0 x1 y1 : Int) : Nat → Int
 | 0 => x0
 | 1 => y0
 | 2 => x1
 | _ => y1
theorem lF {α : Type} {p : α → Bool} {l : List α} (h : ∀ j : Nat, (hj : j < l.length) → p l[j] = false) : l.any p = false := List.any_eq_false.2 fun c hc => by
 obtain ⟨j, hj, rfl⟩ := List.mem_iff_getElem.1 hc
 rw [h j hj]; decide
theorem dn (H : ac) (n : Int) (lo : Int) (hi : Int) : ACalls Tryz.prog 74 [.int .i64 n, .int .i64 lo, .int .i64 hi] H (fun v H' => v = .bool (btw n lo hi) ∧ H' = H) := by
 refine AcT true Tryz.func74 ?_; intro hbel Q hQ
 refine aQ ?_
 refine al (fun h1 => ?_) (fun h1 => ?_)
 ·have h1d := bsT h1
  have g'1 := (jn @h1 @h1d)
  refine aa g'1 ?_
  exact hQ _ _ (au (.inl rfl) hbel (x := .bool (decide (n ≤ hi))) (ai Tryz.results74) rfl ⟨by simp [btw, h1d], rfl⟩)
 ·have h1d := bsT h1
  have g'2 := (jn @h1 @h1d)
  refine aa g'2 ?_
  exact hQ _ _ (au (.inl rfl) hbel (x := .bool false) (ai Tryz.results74) rfl ⟨by simp [btw, h1d], rfl⟩)
theorem cvb_c (H : ac) (m : Int) (r : Int) : ACalls Tryz.prog 155 [.agg [.int .i64 m, .int .i64 r]] H (fun v H' => v = .bool (dA m r) ∧ H' = H) := by
 refine AcT true Tryz.func155 ?_; intro hbel Q hQ
 refine aQ ?_
 refine af (by kernel_rfl) (dn _ m 0 255) ?_
 refine aQ ?_
 refine al (fun h1 => ?_) (fun h1 => ?_)
 ·have h1d := bsT h1
  have g'3 := (jn @h1 @h1d)
  refine aa g'3 ?_
  refine af (by kernel_rfl) (dn _ r (-1) 1024) ?_
  refine aa g'3 ?_
  exact hQ _ _ (ae (.inl rfl) hbel (x := .bool (btw r (-1) 1024)) (ai Tryz.results155) rfl ⟨by simp [dA, h1d], rfl⟩)
 ·have h1d := bsT h1
  have g'4 := (jn @h1 @h1d)
  refine aa g'4 ?_
  exact hQ _ _ (ae (.inl rfl) hbel (x := .bool false) (ai Tryz.results155) rfl ⟨by simp [dA, h1d], rfl⟩)
theorem cvs_c (H : ac) (q : AV) (sc : List (Int × Int)) (hq : Sl H 2 q sc.length (prs sc)) (hl : sc.length ≤ 1000000000) : ACalls Tryz.prog 115 [q] H (fun v H' => v = .bool (cw sc) ∧ H' = H) := by
 obtain ⟨bq, oq, cq, rfl, hbq⟩ := hq
 have hblq := getElem?_lt hbq
 have hb0q := fun l => aq (l := l) hbq
 refine AcT true Tryz.func115 ?_; intro hbel Q hQ
 have g'5 := (jn @hbq @hb0q)
 refine aa g'5 ?_
 refine go_loop try_mixed (by kernel_rfl) (fun k F Hx => ∃ i : Nat, i + k = sc.length ∧ (∀ j : Nat, j < i → dA (g1 sc j) (g2 sc j) = true) ∧ F = [(0, .sl (some (bq, 0)) sc.length cq), (5, .sl (some (bq, 0)) sc.length cq), (6, .int .i64 ((sc.length : Nat) : Int)), (7, .int .i64 ((i : Nat) : Int))] ∧ H = Hx) (sc.length) ?_ ?_
 ·refine ⟨_, _, _, ⟨0, by omega, (fun j h => by omega), rfl, rfl⟩, Abs.by0 hbel ?_⟩
  exact aW
 ·rintro k0 F Hx ⟨i, hm0, hal, rfl, rfl⟩ J0 hJ0
  refine aa g'5 ?_
  refine ak (fun h1 => ?_) (fun h1 => ?_)
  ·have h1d := bsT h1
   have hlt : i < sc.length := by omega
   have q2 := cA (l := sc) (j := i) (by omega)
   have g'6 := (jn @h1 (jn @h1d (jn @q2 g'5)))
   refine aa g'6 ?_
   refine af (by kernel_rfl) (cvb_c _ (g1 sc i) (g2 sc i)) ?_
   refine aa g'6 ?_
   refine ak (fun h3 => ?_) (fun h3 => ?_)
   ·have h3d := bsT h3
    have hfinS : cw sc = false := by
     rw [← Bool.not_eq_true]; intro k
     have q := (ef.1 k).2 _ (List.getElem_mem hlt)
     rw [← ct hlt] at q
     exact absurd (q.symm.trans h3d) (by decide)
    have g'7 := (jn @h3 (jn @h3d g'6))
    refine aa g'7 ?_
    exact hQ _ _ (ae (.inl rfl) hbel (x := .bool false) (ai Tryz.results115) rfl ⟨by first | (rw [hfinS]; done) | (rw [hfinS]; rfl), rfl⟩)
   ·have h3d := bsT h3
    have hbk := h3d
    have g'8 := (jn @h3 (jn @h3d g'6))
    refine aa g'8 ?_
    refine hJ0 _ _ ⟨k0 - 1, by omega, _, _, _, ⟨i + 1, by omega, fun j hj => by
          rcases Nat.lt_or_ge j i with h | h
          ·exact hal j h
          ·rw [show j = i by omega]; exact hbk, rfl, rfl⟩, Abs.byN hbel ?_⟩
    exact aW
  ·have h1d := bsT h1
   obtain rfl : i = sc.length := by omega
   have hfinS : cw sc = decide (((sc.length : Nat) : Int) ≤ 32) := by
    unfold cw
    rw [lF (fun j hj => by rw [← ct hj]; show (!dA _ _) = false; rw [hal j hj]; rfl)]; simp
   have g'9 := (jn @h1 (jn @h1d g'5))
   refine aa g'9 ?_
   exact hQ _ _ (au (.inl rfl) hbel (x := .bool (decide (((sc.length : Nat) : Int) ≤ 32))) (ai Tryz.results115) rfl ⟨by first | (rw [hfinS]; done) | (rw [hfinS]; rfl), rfl⟩)
theorem cadm_c (H : ac) (x0 : Int) (y0 : Int) (x1 : Int) (y1 : Int) : ACalls Tryz.prog 157 [.agg [.int .i64 x0, .int .i64 y0, .int .i64 x1, .int .i64 y1]] H (fun v H' => v = .bool (dS x0 y0 x1 y1) ∧ H' = H) := by
 refine AcT true Tryz.func157 ?_; intro hbel Q hQ
 refine aQ ?_
 refine go_loop try_mixed (by kernel_rfl) (fun k F Hx => ∃ i : Nat, i + k = 4 ∧ (∀ j : Nat, j < i → btw (ad4 x0 y0 x1 y1 j) (-1048576) 1048576 = true) ∧ F = [(1, .ptr (some (H.length, 0))), (13, .agg [.int .i64 x0, .int .i64 y0, .int .i64 x1, .int .i64 y1]), (14, .int .i64 ((i : Nat) : Int))] ∧ Hx = H ++ [.cells true 0 [.int .i64 x0, .int .i64 y0, .int .i64 x1, .int .i64 y1]]) (4) ?_ ?_
 ·refine ⟨_, _, _, ⟨0, by omega, (fun j h => by omega), rfl, rfl⟩, Abs.byG hbel [] rfl [0] (by decide) ?_⟩
  exact aW
 ·rintro k0 F Hx ⟨i, hm0, hal, rfl, rfl⟩ J0 hJ0
  refine aQ ?_
  refine ak (fun h1 => ?_) (fun h1 => ?_)
  ·have h1d := bsT h1
   obtain rfl | rfl | rfl | rfl := (by omega : i = 0 ∨ i = 1 ∨ i = 2 ∨ i = 3)
   ·skip
    have g'10 := (jn @h1 @h1d)
    refine aa g'10 ?_
    refine af (by kernel_rfl) (dn _ x0 (-1048576) 1048576) ?_
    refine aa g'10 ?_
    refine ak (fun h2 => ?_) (fun h2 => ?_)
    ·have h2d := bsT h2
     have hfinA : dS x0 y0 x1 y1 = false := by unfold dS; simp [h2d]
     have g'11 := (jn @h2 (jn @h2d g'10))
     refine aa g'11 ?_
     exact hQ _ _ (ae (.inl rfl) hbel (x := .bool false) (ai Tryz.results157) rfl ⟨by first | (rw [hfinA]; done) | (unfold dS; rw [hfa0, hfa1, hfa2, hfa3]; simp [h1d, h2d, hfinA]; done), rfl⟩)
    ·have h2d := bsT h2
     have hbk := h2d
     have g'12 := (jn @h2 (jn @h2d g'10))
     refine aa g'12 ?_
     refine hJ0 _ _ ⟨k0 - 1, by omega, _, _, _, ⟨0 + 1, by omega, fun j hj => by
           rcases Nat.lt_or_ge j 0 with h | h
           ·exact hal j h
           ·rw [show j = 0 by omega]; exact hbk, rfl, rfl⟩, Abs.byG hbel [] rfl [0] (by decide) ?_⟩
     exact aW
   ·skip
    have g'13 := (jn @h1 @h1d)
    refine aa g'13 ?_
    refine af (by kernel_rfl) (dn _ y0 (-1048576) 1048576) ?_
    refine aa g'13 ?_
    refine ak (fun h3 => ?_) (fun h3 => ?_)
    ·have h3d := bsT h3
     have hfinA : dS x0 y0 x1 y1 = false := by unfold dS; simp [h3d]
     have g'14 := (jn @h3 (jn @h3d g'13))
     refine aa g'14 ?_
     exact hQ _ _ (ae (.inl rfl) hbel (x := .bool false) (ai Tryz.results157) rfl ⟨by first | (rw [hfinA]; done) | (unfold dS; rw [hfa0, hfa1, hfa2, hfa3]; simp [h1d, h3d, hfinA]; done), rfl⟩)
    ·have h3d := bsT h3
     have hbk := h3d
     have g'15 := (jn @h3 (jn @h3d g'13))
     refine aa g'15 ?_
     refine hJ0 _ _ ⟨k0 - 1, by omega, _, _, _, ⟨1 + 1, by omega, fun j hj => by
           rcases Nat.lt_or_ge j 1 with h | h
           ·exact hal j h
           ·rw [show j = 1 by omega]; exact hbk, rfl, rfl⟩, Abs.byG hbel [] rfl [0] (by decide) ?_⟩
     exact aW
   ·skip
    have g'16 := (jn @h1 @h1d)
    refine aa g'16 ?_
    refine af (by kernel_rfl) (dn _ x1 (-1048576) 1048576) ?_
    refine aa g'16 ?_
    refine ak (fun h4 => ?_) (fun h4 => ?_)
    ·have h4d := bsT h4
     have hfinA : dS x0 y0 x1 y1 = false := by unfold dS; simp [h4d]
     have g'17 := (jn @h4 (jn @h4d g'16))
     refine aa g'17 ?_
     exact hQ _ _ (ae (.inl rfl) hbel (x := .bool false) (ai Tryz.results157) rfl ⟨by first | (rw [hfinA]; done) | (unfold dS; rw [hfa0, hfa1, hfa2, hfa3]; simp [h1d, h4d, hfinA]; done), rfl⟩)
    ·have h4d := bsT h4
     have hbk := h4d
     have g'18 := (jn @h4 (jn @h4d g'16))
     refine aa g'18 ?_
     refine hJ0 _ _ ⟨k0 - 1, by omega, _, _, _, ⟨2 + 1, by omega, fun j hj => by
           rcases Nat.lt_or_ge j 2 with h | h
           ·exact hal j h
           ·rw [show j = 2 by omega]; exact hbk, rfl, rfl⟩, Abs.byG hbel [] rfl [0] (by decide) ?_⟩
     exact aW
   ·skip
    have g'19 := (jn @h1 @h1d)
    refine aa g'19 ?_
    refine af (by kernel_rfl) (dn _ y1 (-1048576) 1048576) ?_
    refine aa g'19 ?_
    refine ak (fun h5 => ?_) (fun h5 => ?_)
    ·have h5d := bsT h5
     have hfinA : dS x0 y0 x1 y1 = false := by unfold dS; simp [h5d]
     have g'20 := (jn @h5 (jn @h5d g'19))
     refine aa g'20 ?_
     exact hQ _ _ (ae (.inl rfl) hbel (x := .bool false) (ai Tryz.results157) rfl ⟨by first | (rw [hfinA]; done) | (unfold dS; rw [hfa0, hfa1, hfa2, hfa3]; simp [h1d, h5d, hfinA]; done), rfl⟩)
    ·have h5d := bsT h5
     have hbk := h5d
     have g'21 := (jn @h5 (jn @h5d g'19))
     refine aa g'21 ?_
     refine hJ0 _ _ ⟨k0 - 1, by omega, _, _, _, ⟨3 + 1, by omega, fun j hj => by
           rcases Nat.lt_or_ge j 3 with h | h
           ·exact hal j h
           ·rw [show j = 3 by omega]; exact hbk, rfl, rfl⟩, Abs.byG hbel [] rfl [0] (by decide) ?_⟩
     exact aW
  ·have h1d := bsT h1
   obtain rfl : i = 4 := by omega
   have hfa0 : btw x0 (-1048576) 1048576 = true := hal 0 (by omega)
   have hfa1 : btw y0 (-1048576) 1048576 = true := hal 1 (by omega)
   have hfa2 : btw x1 (-1048576) 1048576 = true := hal 2 (by omega)
   have hfa3 : btw y1 (-1048576) 1048576 = true := hal 3 (by omega)
   have hxb := bN.1 hfa0
   have hyb := bN.1 hfa1
   have hxc := bN.1 hfa2
   have hyc := bN.1 hfa3
   have g'22 := (jn @h1 @h1d)
   refine aa g'22 ?_
   refine af (by kernel_rfl) (dn _ (x1 - x0) 0 1024) ?_
   refine aa g'22 ?_
   refine al (fun h6 => ?_) (fun h6 => ?_)
   ·have h6d := bsT h6
    have g'23 := (jn @h6 (jn @h6d g'22))
    refine aa g'23 ?_
    refine af (by kernel_rfl) (dn _ (y1 - y0) 0 1024) ?_
    refine aa g'23 ?_
    exact hQ _ _ (ae (.inl rfl) hbel (x := .bool (btw (y1 - y0) 0 1024)) (ai Tryz.results157) rfl ⟨by first | (rw [hfinA]; done) | (unfold dS; rw [hfa0, hfa1, hfa2, hfa3]; simp [h1d, h6d]; done), rfl⟩)
   ·have h6d := bsT h6
    have g'24 := (jn @h6 (jn @h6d g'22))
    refine aa g'24 ?_
    exact hQ _ _ (ae (.inl rfl) hbel (x := .bool false) (ai Tryz.results157) rfl ⟨by first | (rw [hfinA]; done) | (unfold dS; rw [hfa0, hfa1, hfa2, hfa3]; simp [h1d, h6d]; done), rfl⟩)
theorem cright_c (H : ac) (W : Int) (Hh : Int) (pp : AV) (xs : List Int) (q : AV) (sc : List (Int × Int)) (g : Int) (hpp : Sl H 1 pp xs.length (ints .u8 xs)) (hq : Sl H 2 q sc.length (prs sc)) (hsc : sc.length ≤ 1000000000) : ACalls Tryz.prog 73 [.agg [.int .i64 W, .int .i64 Hh, pp], q, .int .i64 g] H (fun v H' => v = .bool (cl W Hh xs && (cw sc && btw g 1 32)) ∧ H' = H) := by
 obtain ⟨bpp, opp, cpp, rfl, hbpp⟩ := hpp
 have hblpp := getElem?_lt hbpp
 have hb0pp := fun l => aq (l := l) hbpp
 obtain ⟨bq, oq, cq, rfl, hbq⟩ := hq
 have hblq := getElem?_lt hbq
 have hb0q := fun l => aq (l := l) hbq
 refine AcT true Tryz.func73 ?_; intro hbel Q hQ
 have g'25 := (jn @hbpp (jn @hb0pp (jn @hbq @hb0q)))
 refine aa g'25 ?_
 refine af (by kernel_rfl) (hI _ W Hh _ xs (.inr ⟨_, _, _, rfl, by first | exact hb0pp _ | exact hbpp⟩)) ?_
 refine aa g'25 ?_
 refine al (fun h1 => ?_) (fun h1 => ?_)
 ·have h1d := bsT h1
  have g'26 := (jn @h1 (jn @h1d g'25))
  refine aa g'26 ?_
  refine af (by kernel_rfl) (cvs_c _ _ sc ⟨_, _, _, rfl, by first | exact hb0q _ | exact hbq⟩ (by first | omega | simp)) ?_
  refine aa g'26 ?_
  refine al (fun h2 => ?_) (fun h2 => ?_)
  ·have h2d := bsT h2
   have g'27 := (jn @h2 (jn @h2d g'26))
   refine aa g'27 ?_
   refine af (by kernel_rfl) (dn _ g 1 32) ?_
   refine aa g'27 ?_
   exact hQ _ _ (ae (.inl rfl) hbel (x := .bool (btw g 1 32)) (ai Tryz.results73) rfl ⟨by first | (simp [h1d, h2d]; done) | (simp only [h1, h2]; rfl), rfl⟩)
  ·have h2d := bsT h2
   have g'28 := (jn @h2 (jn @h2d g'26))
   refine aa g'28 ?_
   exact hQ _ _ (ae (.inl rfl) hbel (x := .bool false) (ai Tryz.results73) rfl ⟨by first | (simp [h1d, h2d]; done) | (simp only [h1, h2]; rfl), rfl⟩)
 ·have h1d := bsT h1
  have g'29 := (jn @h1 (jn @h1d g'25))
  refine aa g'29 ?_
  exact hQ _ _ (ae (.inl rfl) hbel (x := .bool false) (ai Tryz.results73) rfl ⟨by first | (simp [h1d]; done) | (simp only [h1]; rfl), rfl⟩)
open Go.RowKit
theorem hidt_c (H : ac) (W : Int) (Hh : Int) (pp : AV) (xs : List Int) (x0 : Int) (y0 : Int) (x1 : Int) (y1 : Int) (vx : Int) (vy : Int) (vd : Int) (far : Int)  (hpp : Sl H 1 pp xs.length (ints .u8 xs)) (hV : cl W Hh xs = true) (hx : -1048576 ≤ x0 ∧ x0 ≤ 1048576) (hy : -1048576 ≤ y0 ∧ y0 ≤ 1048576) : ACalls Tryz.prog 192 [.agg [.int .i64 W, .int .i64 Hh, pp], .agg [.int .i64 x0, .int .i64 y0, .int .i64 x1, .int .i64 y1], .agg [.int .i64 vx, .int .i64 vy, .int .i64 vd], .int .i64 far, .bool true] H (fun v H' => v = .bool (d3 W Hh xs x0 y0 x1 y1 vx vy vd far true) ∧ H' = H) := by
 obtain ⟨bpp, opp, cpp, rfl, hbpp⟩ := hpp
 have hblpp := getElem?_lt hbpp
 have hb0pp := fun l => aq (l := l) hbpp
 have htl := jE x0 y0 vx vy vd 0 far
 refine AcT true Tryz.func192 ?_; intro hbel Q hQ
 have g'1 := (jn @hbpp @hb0pp)
 refine aa g'1 ?_
 refine ak (fun h1 => ?_) (fun h1 => ?_)
 ·have h1d := bsT h1
  have hfinH : d3 W Hh xs x0 y0 x1 y1 vx vy vd far true = false := by unfold d3; rw [decide_eq_true h1d]; rfl
  have g'2 := (jn @h1 (jn @h1d g'1))
  refine aa g'2 ?_
  exact hQ _ _ (ae (.inl rfl) hbel (x := .bool false) (ai Tryz.results192) rfl ⟨by first | (rw [hfinH]; done) | (rw [hfinH]; rfl), rfl⟩)
 ·have h1d := bsT h1
  have hf0 := h1d
  have g'3 := (jn @h1 (jn @h1d g'1))
  refine aa g'3 ?_
  refine af (by kernel_rfl) (kw _ x0 y0 vx vy vd 0 far) ?_
  refine aa g'3 ?_
  refine go_loop try_mixed (by kernel_rfl) (fun k F Hx => ∃ i : Nat, i + k = (trL x0 y0 vx vy vd 0 far).length ∧ (∀ j : Nat, j < i → fv W Hh xs true x0 y0 x1 y1 vx vy vd far (g1 (trL x0 y0 vx vy vd 0 far) j, g2 (trL x0 y0 vx vy vd 0 far) j) = false) ∧ F = [(3, .int .i64 far), (4, .bool true), (5, .ptr (some (H.length, 0))), (7, .ptr (some (H.length + 1, 0))), (11, .ptr (some (H.length + 2, 0))), (51, .sl (some (H.length + 3, 0)) ((trL x0 y0 vx vy vd 0 far).length) (bb (trL x0 y0 vx vy vd 0 far).length)), (52, .int .i64 (((trL x0 y0 vx vy vd 0 far).length : Nat) : Int)), (53, .int .i64 ((i : Nat) : Int))] ∧ Hx = H ++ [.cells true 0 [.int .i64 W, .int .i64 Hh, .sl (some (bpp, 0)) xs.length cpp], .cells true 0 [.int .i64 vx, .int .i64 vy, .int .i64 vd], .cells true 0 [.int .i64 x0, .int .i64 y0, .int .i64 x1, .int .i64 y0, .int .i64 x0, .int .i64 y1, .int .i64 x1, .int .i64 y1], .cells (aX (trL x0 y0 vx vy vd 0 far).length) 2 (prs (trL x0 y0 vx vy vd 0 far))]) ((trL x0 y0 vx vy vd 0 far).length) ?_ ?_
  ·refine ⟨_, _, _, ⟨0, by omega, (fun j h => by omega), rfl, rfl⟩, Abs.byG hbel [] rfl [0, 2, 3, 4] (by decide) ?_⟩
   exact eZ
  ·rintro k0 F Hx ⟨i, hm0, hal, rfl, rfl⟩ J0 hJ0
   have g'4 := (jn @bp (jn @cC g'3))
   refine aa g'4 ?_
   refine ak (fun h2 => ?_) (fun h2 => ?_)
   ·have h2d := bsT h2
    have hlt : i < (trL x0 y0 vx vy vd 0 far).length := by omega
    have htm := trL_mem (List.getElem_mem hlt)
    rw [← ct hlt] at htm
    simp only at htm
    have q3 := cA (l := trL x0 y0 vx vy vd 0 far) (j := i) (by omega)
    have g'5 := (jn @h2 (jn @h2d (jn @q3 g'4)))
    refine aa g'5 ?_
    refine af (by kernel_rfl) (pat_c _ W Hh _ xs (g1 (trL x0 y0 vx vy vd 0 far) i) (g2 (trL x0 y0 vx vy vd 0 far) i) ⟨_, _, _, rfl, by first | exact hb0pp _ | exact hbpp⟩ hV) ?_
    refine aa g'5 ?_
    refine ak (fun h4 => ?_) (fun h4 => ?_)
    ·have h4d := bsT h4
     have h4n := bnT h4
     have hno : fv W Hh xs true x0 y0 x1 y1 vx vy vd far ((g1 (trL x0 y0 vx vy vd 0 far) i), (g2 (trL x0 y0 vx vy vd 0 far) i)) = false := by unfold fv; rw [beq_eq_false_iff_ne.2 (by first | exact h4d | simpa using h4d)]; rfl
     have g'6 := (jn @h4 (jn @h4n (jn @bg (jn @be g'5))))
     refine aa g'6 ?_
     refine hJ0 _ _ ⟨k0 - 1, by omega, _, _, _, ⟨i + 1, by omega, fun j hj => by
           rcases Nat.lt_or_ge j i with h | h
           ·exact hal j h
           ·rw [show j = i by omega]; exact hno, rfl, rfl⟩, Abs.byG hbel [] rfl [0, 1, 2, 3] (by decide) ?_⟩
     exact eZ
    ·have h4d := bsT h4
     have h4n := bnT h4
     have hat : atI W Hh xs (g1 (trL x0 y0 vx vy vd 0 far) i) (g2 (trL x0 y0 vx vy vd 0 far) i) = 2 := by first | exact h4d | simpa using h4d
     have g'7 := (jn @h4 (jn @h4n (jn @bg (jn @be g'5))))
     refine aa g'7 ?_
     refine go_loop try_mixed (by kernel_rfl) (fun k F Hx => ∃ n : Nat, n + k = 4 ∧ F = [(3, .int .i64 far), (4, .bool true), (5, .ptr (some (H.length, 0))), (7, .ptr (some (H.length + 1, 0))), (11, .ptr (some (H.length + 2, 0))), (16, .ptr (some (H.length + 4, 0))), (17, .bool (h4K true x0 y0 x1 y1 vx vy vd far (g1 (trL x0 y0 vx vy vd 0 far) i) (g2 (trL x0 y0 vx vy vd 0 far) i) n)), (51, .sl (some (H.length + 3, 0)) ((trL x0 y0 vx vy vd 0 far).length) (bb (trL x0 y0 vx vy vd 0 far).length)), (52, .int .i64 (((trL x0 y0 vx vy vd 0 far).length : Nat) : Int)), (53, .int .i64 ((i : Nat) : Int)), (76, .agg [.int .i64 x0, .int .i64 y0, .int .i64 x1, .int .i64 y0, .int .i64 x0, .int .i64 y1, .int .i64 x1, .int .i64 y1]), (77, .int .i64 ((n : Nat) : Int))] ∧ Hx = H ++ [.cells true 0 [.int .i64 W, .int .i64 Hh, .sl (some (bpp, 0)) xs.length cpp], .cells true 0 [.int .i64 vx, .int .i64 vy, .int .i64 vd], .cells true 0 [.int .i64 x0, .int .i64 y0, .int .i64 x1, .int .i64 y0, .int .i64 x0, .int .i64 y1, .int .i64 x1, .int .i64 y1], .cells (aX (trL x0 y0 vx vy vd 0 far).length) 2 (prs (trL x0 y0 vx vy vd 0 far)), .cells true 0 [.int .i64 ((g1 (trL x0 y0 vx vy vd 0 far) i) * 64), .int .i64 ((g2 (trL x0 y0 vx vy vd 0 far) i) * 64), .int .i64 (((g1 (trL x0 y0 vx vy vd 0 far) i) + 1) * 64), .int .i64 (((g2 (trL x0 y0 vx vy vd 0 far) i) + 1) * 64)]]) (4) ?_ ?_
     ·refine ⟨_, _, _, ⟨0, by omega, rfl, rfl⟩, Abs.byG hbel [] rfl [0, 1, 2, 3, 5] (by decide) ?_⟩
      exact aD @h4K.eq_1
     ·rintro k1 F Hx ⟨n, hm1, rfl, rfl⟩ J1 hJ1
      refine aa g'7 ?_
      refine ak (fun h5 => ?_) (fun h5 => ?_)
      ·have h5d := bsT h5
       obtain rfl | rfl | rfl | rfl := (by omega : n = 0 ∨ n = 1 ∨ n = 2 ∨ n = 3)
       ·skip
        have g'8 := (jn @h5 (jn @h5d g'7))
        refine aa g'8 ?_
        refine al (fun h6 => ?_) (fun h6 => ?_)
        ·have h6d := bsT h6
         have hst : h4K true x0 y0 x1 y1 vx vy vd far (g1 (trL x0 y0 vx vy vd 0 far) i) (g2 (trL x0 y0 vx vy vd 0 far) i) 1 = dF x0 y0 vx vy vd far ((g1 (trL x0 y0 vx vy vd 0 far) i) * 64) ((g2 (trL x0 y0 vx vy vd 0 far) i) * 64) (((g1 (trL x0 y0 vx vy vd 0 far) i) + 1) * 64) (((g2 (trL x0 y0 vx vy vd 0 far) i) + 1) * 64) := by
          show (h4K true x0 y0 x1 y1 vx vy vd far (g1 (trL x0 y0 vx vy vd 0 far) i) (g2 (trL x0 y0 vx vy vd 0 far) i) 0 && hcB true x0 y0 vx vy vd far (g1 (trL x0 y0 vx vy vd 0 far) i) (g2 (trL x0 y0 vx vy vd 0 far) i)) = _
          rw [h6d, Bool.true_and]; exact hcB_t rfl
         have g'9 := (jn @h6 (jn @h6d g'8))
         refine aa g'9 ?_
         refine af (by kernel_rfl) (dK _ x0 y0 vx vy vd far ((g1 (trL x0 y0 vx vy vd 0 far) i) * 64) ((g2 (trL x0 y0 vx vy vd 0 far) i) * 64) (((g1 (trL x0 y0 vx vy vd 0 far) i) + 1) * 64) (((g2 (trL x0 y0 vx vy vd 0 far) i) + 1) * 64)) ?_
         refine aa g'9 ?_
         refine hJ1 _ _ ⟨k1 - 1, by omega, _, _, _, ⟨0 + 1, by omega, rfl, rfl⟩, Abs.byG hbel [] rfl [0, 1, 2, 3, 4] (by decide) ?_⟩
         exact aD @hst
        ·have h6d := bsT h6
         exact absurd (show true = false from h6d) (by decide)
       ·skip
        have g'10 := (jn @h5 (jn @h5d g'7))
        refine aa g'10 ?_
        refine al (fun h7 => ?_) (fun h7 => ?_)
        ·have h7d := bsT h7
         have hst : h4K true x0 y0 x1 y1 vx vy vd far (g1 (trL x0 y0 vx vy vd 0 far) i) (g2 (trL x0 y0 vx vy vd 0 far) i) 2 = dF x1 y0 vx vy vd far ((g1 (trL x0 y0 vx vy vd 0 far) i) * 64) ((g2 (trL x0 y0 vx vy vd 0 far) i) * 64) (((g1 (trL x0 y0 vx vy vd 0 far) i) + 1) * 64) (((g2 (trL x0 y0 vx vy vd 0 far) i) + 1) * 64) := by
          show (h4K true x0 y0 x1 y1 vx vy vd far (g1 (trL x0 y0 vx vy vd 0 far) i) (g2 (trL x0 y0 vx vy vd 0 far) i) 1 && hcB true x1 y0 vx vy vd far (g1 (trL x0 y0 vx vy vd 0 far) i) (g2 (trL x0 y0 vx vy vd 0 far) i)) = _
          rw [h7d, Bool.true_and]; exact hcB_t rfl
         have g'11 := (jn @h7 (jn @h7d g'10))
         refine aa g'11 ?_
         refine af (by kernel_rfl) (dK _ x1 y0 vx vy vd far ((g1 (trL x0 y0 vx vy vd 0 far) i) * 64) ((g2 (trL x0 y0 vx vy vd 0 far) i) * 64) (((g1 (trL x0 y0 vx vy vd 0 far) i) + 1) * 64) (((g2 (trL x0 y0 vx vy vd 0 far) i) + 1) * 64)) ?_
         refine aa g'11 ?_
         refine hJ1 _ _ ⟨k1 - 1, by omega, _, _, _, ⟨1 + 1, by omega, rfl, rfl⟩, Abs.byG hbel [] rfl [0, 1, 2, 3, 4] (by decide) ?_⟩
         exact aD @hst
        ·have h7d := bsT h7
         have hst : h4K true x0 y0 x1 y1 vx vy vd far (g1 (trL x0 y0 vx vy vd 0 far) i) (g2 (trL x0 y0 vx vy vd 0 far) i) 2 = false := by
          show (h4K true x0 y0 x1 y1 vx vy vd far (g1 (trL x0 y0 vx vy vd 0 far) i) (g2 (trL x0 y0 vx vy vd 0 far) i) 1 && _) = false
          rw [h7d]; rfl
         have g'12 := (jn @h7 (jn @h7d g'10))
         refine aa g'12 ?_
         refine hJ1 _ _ ⟨k1 - 1, by omega, _, _, _, ⟨1 + 1, by omega, rfl, rfl⟩, Abs.byG hbel [] rfl [0, 1, 2, 3, 4] (by decide) ?_⟩
         exact aD @hst
       ·skip
        have g'13 := (jn @h5 (jn @h5d g'7))
        refine aa g'13 ?_
        refine al (fun h8 => ?_) (fun h8 => ?_)
        ·have h8d := bsT h8
         have hst : h4K true x0 y0 x1 y1 vx vy vd far (g1 (trL x0 y0 vx vy vd 0 far) i) (g2 (trL x0 y0 vx vy vd 0 far) i) 3 = dF x0 y1 vx vy vd far ((g1 (trL x0 y0 vx vy vd 0 far) i) * 64) ((g2 (trL x0 y0 vx vy vd 0 far) i) * 64) (((g1 (trL x0 y0 vx vy vd 0 far) i) + 1) * 64) (((g2 (trL x0 y0 vx vy vd 0 far) i) + 1) * 64) := by
          show (h4K true x0 y0 x1 y1 vx vy vd far (g1 (trL x0 y0 vx vy vd 0 far) i) (g2 (trL x0 y0 vx vy vd 0 far) i) 2 && hcB true x0 y1 vx vy vd far (g1 (trL x0 y0 vx vy vd 0 far) i) (g2 (trL x0 y0 vx vy vd 0 far) i)) = _
          rw [h8d, Bool.true_and]; exact hcB_t rfl
         have g'14 := (jn @h8 (jn @h8d g'13))
         refine aa g'14 ?_
         refine af (by kernel_rfl) (dK _ x0 y1 vx vy vd far ((g1 (trL x0 y0 vx vy vd 0 far) i) * 64) ((g2 (trL x0 y0 vx vy vd 0 far) i) * 64) (((g1 (trL x0 y0 vx vy vd 0 far) i) + 1) * 64) (((g2 (trL x0 y0 vx vy vd 0 far) i) + 1) * 64)) ?_
         refine aa g'14 ?_
         refine hJ1 _ _ ⟨k1 - 1, by omega, _, _, _, ⟨2 + 1, by omega, rfl, rfl⟩, Abs.byG hbel [] rfl [0, 1, 2, 3, 4] (by decide) ?_⟩
         exact aD @hst
        ·have h8d := bsT h8
         have hst : h4K true x0 y0 x1 y1 vx vy vd far (g1 (trL x0 y0 vx vy vd 0 far) i) (g2 (trL x0 y0 vx vy vd 0 far) i) 3 = false := by
          show (h4K true x0 y0 x1 y1 vx vy vd far (g1 (trL x0 y0 vx vy vd 0 far) i) (g2 (trL x0 y0 vx vy vd 0 far) i) 2 && _) = false
          rw [h8d]; rfl
         have g'15 := (jn @h8 (jn @h8d g'13))
         refine aa g'15 ?_
         refine hJ1 _ _ ⟨k1 - 1, by omega, _, _, _, ⟨2 + 1, by omega, rfl, rfl⟩, Abs.byG hbel [] rfl [0, 1, 2, 3, 4] (by decide) ?_⟩
         exact aD @hst
       ·skip
        have g'16 := (jn @h5 (jn @h5d g'7))
        refine aa g'16 ?_
        refine al (fun h9 => ?_) (fun h9 => ?_)
        ·have h9d := bsT h9
         have hst : h4K true x0 y0 x1 y1 vx vy vd far (g1 (trL x0 y0 vx vy vd 0 far) i) (g2 (trL x0 y0 vx vy vd 0 far) i) 4 = dF x1 y1 vx vy vd far ((g1 (trL x0 y0 vx vy vd 0 far) i) * 64) ((g2 (trL x0 y0 vx vy vd 0 far) i) * 64) (((g1 (trL x0 y0 vx vy vd 0 far) i) + 1) * 64) (((g2 (trL x0 y0 vx vy vd 0 far) i) + 1) * 64) := by
          show (h4K true x0 y0 x1 y1 vx vy vd far (g1 (trL x0 y0 vx vy vd 0 far) i) (g2 (trL x0 y0 vx vy vd 0 far) i) 3 && hcB true x1 y1 vx vy vd far (g1 (trL x0 y0 vx vy vd 0 far) i) (g2 (trL x0 y0 vx vy vd 0 far) i)) = _
          rw [h9d, Bool.true_and]; exact hcB_t rfl
         have g'17 := (jn @h9 (jn @h9d g'16))
         refine aa g'17 ?_
         refine af (by kernel_rfl) (dK _ x1 y1 vx vy vd far ((g1 (trL x0 y0 vx vy vd 0 far) i) * 64) ((g2 (trL x0 y0 vx vy vd 0 far) i) * 64) (((g1 (trL x0 y0 vx vy vd 0 far) i) + 1) * 64) (((g2 (trL x0 y0 vx vy vd 0 far) i) + 1) * 64)) ?_
         refine aa g'17 ?_
         refine hJ1 _ _ ⟨k1 - 1, by omega, _, _, _, ⟨3 + 1, by omega, rfl, rfl⟩, Abs.byG hbel [] rfl [0, 1, 2, 3, 4] (by decide) ?_⟩
         exact aD @hst
        ·have h9d := bsT h9
         have hst : h4K true x0 y0 x1 y1 vx vy vd far (g1 (trL x0 y0 vx vy vd 0 far) i) (g2 (trL x0 y0 vx vy vd 0 far) i) 4 = false := by
          show (h4K true x0 y0 x1 y1 vx vy vd far (g1 (trL x0 y0 vx vy vd 0 far) i) (g2 (trL x0 y0 vx vy vd 0 far) i) 3 && _) = false
          rw [h9d]; rfl
         have g'18 := (jn @h9 (jn @h9d g'16))
         refine aa g'18 ?_
         refine hJ1 _ _ ⟨k1 - 1, by omega, _, _, _, ⟨3 + 1, by omega, rfl, rfl⟩, Abs.byG hbel [] rfl [0, 1, 2, 3, 4] (by decide) ?_⟩
         exact aD @hst
      ·have h5d := bsT h5
       obtain rfl : n = 4 := by omega
       have g'19 := (jn @h5 (jn @h5d g'7))
       refine aa g'19 ?_
       refine ak (fun h10 => ?_) (fun h10 => ?_)
       ·have h10d := bsT h10
        have hfinH : d3 W Hh xs x0 y0 x1 y1 vx vy vd far true = true := by
         unfold d3
         rw [decide_eq_false hf0]
         exact List.any_eq_true.2 ⟨_, List.getElem_mem hlt, by
          rw [← ct hlt]; unfold fv; rw [Bool.and_eq_true, beq_iff_eq]; exact ⟨hat, h4K_4.symm.trans h10d⟩⟩
        have g'20 := (jn @h10 (jn @h10d g'19))
        refine aa g'20 ?_
        exact hQ _ _ (ae (.inl rfl) hbel (x := .bool true) (ai Tryz.results192) rfl ⟨by first | (rw [hfinH]; done) | (rw [hfinH]; rfl), rfl⟩)
       ·have h10d := bsT h10
        have hno : fv W Hh xs true x0 y0 x1 y1 vx vy vd far ((g1 (trL x0 y0 vx vy vd 0 far) i), (g2 (trL x0 y0 vx vy vd 0 far) i)) = false := by unfold fv; rw [Bool.and_eq_false_iff]; right; exact h4K_4.symm.trans h10d
        have g'21 := (jn @h10 (jn @h10d g'19))
        refine aa g'21 ?_
        refine hJ0 _ _ ⟨k0 - 1, by omega, _, _, _, ⟨i + 1, by omega, fun j hj => by
              rcases Nat.lt_or_ge j i with h | h
              ·exact hal j h
              ·rw [show j = i by omega]; exact hno, rfl, rfl⟩, Abs.byG hbel [] rfl [0, 1, 2, 3] (by decide) ?_⟩
        exact eZ
   ·have h2d := bsT h2
    obtain rfl : i = (trL x0 y0 vx vy vd 0 far).length := by omega
    have hfinH : d3 W Hh xs x0 y0 x1 y1 vx vy vd far true = false := by
     unfold d3
     rw [lF (fun j hj => by rw [← ct hj]; exact hal j hj)]; simp
    have g'22 := (jn @h2 (jn @h2d g'4))
    refine aa g'22 ?_
    exact hQ _ _ (ae (.inl rfl) hbel (x := .bool false) (ai Tryz.results192) rfl ⟨by first | (rw [hfinH]; done) | (rw [hfinH]; rfl), rfl⟩)
theorem hidf_c (H : ac) (W : Int) (Hh : Int) (pp : AV) (xs : List Int) (x0 : Int) (y0 : Int) (x1 : Int) (y1 : Int) (vx : Int) (vy : Int) (vd : Int) (far : Int)  (hpp : Sl H 1 pp xs.length (ints .u8 xs)) (hV : cl W Hh xs = true) (hx : -1048576 ≤ x0 ∧ x0 ≤ 1048576) (hy : -1048576 ≤ y0 ∧ y0 ≤ 1048576) : ACalls Tryz.prog 192 [.agg [.int .i64 W, .int .i64 Hh, pp], .agg [.int .i64 x0, .int .i64 y0, .int .i64 x1, .int .i64 y1], .agg [.int .i64 vx, .int .i64 vy, .int .i64 vd], .int .i64 far, .bool false] H (fun v H' => v = .bool (d3 W Hh xs x0 y0 x1 y1 vx vy vd far false) ∧ H' = H) := by
 obtain ⟨bpp, opp, cpp, rfl, hbpp⟩ := hpp
 have hblpp := getElem?_lt hbpp
 have hb0pp := fun l => aq (l := l) hbpp
 have htl := jE x0 y0 vx vy vd 0 far
 refine AcT true Tryz.func192 ?_; intro hbel Q hQ
 have g'23 := (jn @hbpp @hb0pp)
 refine aa g'23 ?_
 refine ak (fun h1 => ?_) (fun h1 => ?_)
 ·have h1d := bsT h1
  have hfinH : d3 W Hh xs x0 y0 x1 y1 vx vy vd far false = false := by unfold d3; rw [decide_eq_true h1d]; rfl
  have g'24 := (jn @h1 (jn @h1d g'23))
  refine aa g'24 ?_
  exact hQ _ _ (ae (.inl rfl) hbel (x := .bool false) (ai Tryz.results192) rfl ⟨by first | (rw [hfinH]; done) | (rw [hfinH]; rfl), rfl⟩)
 ·have h1d := bsT h1
  have hf0 := h1d
  have g'25 := (jn @h1 (jn @h1d g'23))
  refine aa g'25 ?_
  refine af (by kernel_rfl) (kw _ x0 y0 vx vy vd 0 far) ?_
  refine aa g'25 ?_
  refine go_loop try_mixed (by kernel_rfl) (fun k F Hx => ∃ i : Nat, i + k = (trL x0 y0 vx vy vd 0 far).length ∧ (∀ j : Nat, j < i → fv W Hh xs false x0 y0 x1 y1 vx vy vd far (g1 (trL x0 y0 vx vy vd 0 far) j, g2 (trL x0 y0 vx vy vd 0 far) j) = false) ∧ F = [(3, .int .i64 far), (4, .bool false), (5, .ptr (some (H.length, 0))), (7, .ptr (some (H.length + 1, 0))), (11, .ptr (some (H.length + 2, 0))), (51, .sl (some (H.length + 3, 0)) ((trL x0 y0 vx vy vd 0 far).length) (bb (trL x0 y0 vx vy vd 0 far).length)), (52, .int .i64 (((trL x0 y0 vx vy vd 0 far).length : Nat) : Int)), (53, .int .i64 ((i : Nat) : Int))] ∧ Hx = H ++ [.cells true 0 [.int .i64 W, .int .i64 Hh, .sl (some (bpp, 0)) xs.length cpp], .cells true 0 [.int .i64 vx, .int .i64 vy, .int .i64 vd], .cells true 0 [.int .i64 x0, .int .i64 y0, .int .i64 x1, .int .i64 y0, .int .i64 x0, .int .i64 y1, .int .i64 x1, .int .i64 y1], .cells (aX (trL x0 y0 vx vy vd 0 far).length) 2 (prs (trL x0 y0 vx vy vd 0 far))]) ((trL x0 y0 vx vy vd 0 far).length) ?_ ?_
  ·refine ⟨_, _, _, ⟨0, by omega, (fun j h => by omega), rfl, rfl⟩, Abs.byG hbel [] rfl [0, 2, 3, 4] (by decide) ?_⟩
   exact eZ
  ·rintro k0 F Hx ⟨i, hm0, hal, rfl, rfl⟩ J0 hJ0
   have g'26 := (jn @bp (jn @cC g'25))
   refine aa g'26 ?_
   refine ak (fun h2 => ?_) (fun h2 => ?_)
   ·have h2d := bsT h2
    have hlt : i < (trL x0 y0 vx vy vd 0 far).length := by omega
    have htm := trL_mem (List.getElem_mem hlt)
    rw [← ct hlt] at htm
    simp only at htm
    have q3 := cA (l := trL x0 y0 vx vy vd 0 far) (j := i) (by omega)
    have g'27 := (jn @h2 (jn @h2d (jn @q3 g'26)))
    refine aa g'27 ?_
    refine af (by kernel_rfl) (pat_c _ W Hh _ xs (g1 (trL x0 y0 vx vy vd 0 far) i) (g2 (trL x0 y0 vx vy vd 0 far) i) ⟨_, _, _, rfl, by first | exact hb0pp _ | exact hbpp⟩ hV) ?_
    refine aa g'27 ?_
    refine ak (fun h4 => ?_) (fun h4 => ?_)
    ·have h4d := bsT h4
     have h4n := bnT h4
     have hno : fv W Hh xs false x0 y0 x1 y1 vx vy vd far ((g1 (trL x0 y0 vx vy vd 0 far) i), (g2 (trL x0 y0 vx vy vd 0 far) i)) = false := by unfold fv; rw [beq_eq_false_iff_ne.2 (by first | exact h4d | simpa using h4d)]; rfl
     have g'28 := (jn @h4 (jn @h4n (jn @bg (jn @be g'27))))
     refine aa g'28 ?_
     refine hJ0 _ _ ⟨k0 - 1, by omega, _, _, _, ⟨i + 1, by omega, fun j hj => by
           rcases Nat.lt_or_ge j i with h | h
           ·exact hal j h
           ·rw [show j = i by omega]; exact hno, rfl, rfl⟩, Abs.byG hbel [] rfl [0, 1, 2, 3] (by decide) ?_⟩
     exact eZ
    ·have h4d := bsT h4
     have h4n := bnT h4
     have hat : atI W Hh xs (g1 (trL x0 y0 vx vy vd 0 far) i) (g2 (trL x0 y0 vx vy vd 0 far) i) = 2 := by first | exact h4d | simpa using h4d
     have g'29 := (jn @h4 (jn @h4n (jn @bg (jn @be g'27))))
     refine aa g'29 ?_
     refine go_loop try_mixed (by kernel_rfl) (fun k F Hx => ∃ n : Nat, n + k = 4 ∧ F = [(3, .int .i64 far), (4, .bool false), (5, .ptr (some (H.length, 0))), (7, .ptr (some (H.length + 1, 0))), (11, .ptr (some (H.length + 2, 0))), (16, .ptr (some (H.length + 4, 0))), (17, .bool (h4K false x0 y0 x1 y1 vx vy vd far (g1 (trL x0 y0 vx vy vd 0 far) i) (g2 (trL x0 y0 vx vy vd 0 far) i) n)), (51, .sl (some (H.length + 3, 0)) ((trL x0 y0 vx vy vd 0 far).length) (bb (trL x0 y0 vx vy vd 0 far).length)), (52, .int .i64 (((trL x0 y0 vx vy vd 0 far).length : Nat) : Int)), (53, .int .i64 ((i : Nat) : Int)), (76, .agg [.int .i64 x0, .int .i64 y0, .int .i64 x1, .int .i64 y0, .int .i64 x0, .int .i64 y1, .int .i64 x1, .int .i64 y1]), (77, .int .i64 ((n : Nat) : Int))] ∧ Hx = H ++ [.cells true 0 [.int .i64 W, .int .i64 Hh, .sl (some (bpp, 0)) xs.length cpp], .cells true 0 [.int .i64 vx, .int .i64 vy, .int .i64 vd], .cells true 0 [.int .i64 x0, .int .i64 y0, .int .i64 x1, .int .i64 y0, .int .i64 x0, .int .i64 y1, .int .i64 x1, .int .i64 y1], .cells (aX (trL x0 y0 vx vy vd 0 far).length) 2 (prs (trL x0 y0 vx vy vd 0 far)), .cells true 0 [.int .i64 ((g1 (trL x0 y0 vx vy vd 0 far) i) * 64), .int .i64 ((g2 (trL x0 y0 vx vy vd 0 far) i) * 64), .int .i64 (((g1 (trL x0 y0 vx vy vd 0 far) i) + 1) * 64), .int .i64 (((g2 (trL x0 y0 vx vy vd 0 far) i) + 1) * 64)]]) (4) ?_ ?_
     ·refine ⟨_, _, _, ⟨0, by omega, rfl, rfl⟩, Abs.byG hbel [] rfl [0, 1, 2, 3, 5] (by decide) ?_⟩
      exact aD @h4K.eq_1
     ·rintro k1 F Hx ⟨n, hm1, rfl, rfl⟩ J1 hJ1
      refine aa g'29 ?_
      refine ak (fun h5 => ?_) (fun h5 => ?_)
      ·have h5d := bsT h5
       obtain rfl | rfl | rfl | rfl := (by omega : n = 0 ∨ n = 1 ∨ n = 2 ∨ n = 3)
       ·skip
        have g'30 := (jn @h5 (jn @h5d g'29))
        refine aa g'30 ?_
        refine al (fun h6 => ?_) (fun h6 => ?_)
        ·have h6d := bsT h6
         have hst : h4K false x0 y0 x1 y1 vx vy vd far (g1 (trL x0 y0 vx vy vd 0 far) i) (g2 (trL x0 y0 vx vy vd 0 far) i) 1 = eh x0 y0 vx vy vd 0 far ((g1 (trL x0 y0 vx vy vd 0 far) i) * 64) ((g2 (trL x0 y0 vx vy vd 0 far) i) * 64) (((g1 (trL x0 y0 vx vy vd 0 far) i) + 1) * 64) (((g2 (trL x0 y0 vx vy vd 0 far) i) + 1) * 64) := by
          show (h4K false x0 y0 x1 y1 vx vy vd far (g1 (trL x0 y0 vx vy vd 0 far) i) (g2 (trL x0 y0 vx vy vd 0 far) i) 0 && hcB false x0 y0 vx vy vd far (g1 (trL x0 y0 vx vy vd 0 far) i) (g2 (trL x0 y0 vx vy vd 0 far) i)) = _
          rw [h6d, Bool.true_and]; exact hcB_f rfl
         have g'31 := (jn @h6 (jn @h6d g'30))
         refine aa g'31 ?_
         refine af (by kernel_rfl) (gE _ x0 y0 vx vy vd 0 far ((g1 (trL x0 y0 vx vy vd 0 far) i) * 64) ((g2 (trL x0 y0 vx vy vd 0 far) i) * 64) (((g1 (trL x0 y0 vx vy vd 0 far) i) + 1) * 64) (((g2 (trL x0 y0 vx vy vd 0 far) i) + 1) * 64)) ?_
         refine aa g'31 ?_
         refine hJ1 _ _ ⟨k1 - 1, by omega, _, _, _, ⟨0 + 1, by omega, rfl, rfl⟩, Abs.byG hbel [] rfl [0, 1, 2, 3, 4] (by decide) ?_⟩
         exact aD @hst
        ·have h6d := bsT h6
         exact absurd (show true = false from h6d) (by decide)
       ·skip
        have g'32 := (jn @h5 (jn @h5d g'29))
        refine aa g'32 ?_
        refine al (fun h7 => ?_) (fun h7 => ?_)
        ·have h7d := bsT h7
         have hst : h4K false x0 y0 x1 y1 vx vy vd far (g1 (trL x0 y0 vx vy vd 0 far) i) (g2 (trL x0 y0 vx vy vd 0 far) i) 2 = eh x1 y0 vx vy vd 0 far ((g1 (trL x0 y0 vx vy vd 0 far) i) * 64) ((g2 (trL x0 y0 vx vy vd 0 far) i) * 64) (((g1 (trL x0 y0 vx vy vd 0 far) i) + 1) * 64) (((g2 (trL x0 y0 vx vy vd 0 far) i) + 1) * 64) := by
          show (h4K false x0 y0 x1 y1 vx vy vd far (g1 (trL x0 y0 vx vy vd 0 far) i) (g2 (trL x0 y0 vx vy vd 0 far) i) 1 && hcB false x1 y0 vx vy vd far (g1 (trL x0 y0 vx vy vd 0 far) i) (g2 (trL x0 y0 vx vy vd 0 far) i)) = _
          rw [h7d, Bool.true_and]; exact hcB_f rfl
         have g'33 := (jn @h7 (jn @h7d g'32))
         refine aa g'33 ?_
         refine af (by kernel_rfl) (gE _ x1 y0 vx vy vd 0 far ((g1 (trL x0 y0 vx vy vd 0 far) i) * 64) ((g2 (trL x0 y0 vx vy vd 0 far) i) * 64) (((g1 (trL x0 y0 vx vy vd 0 far) i) + 1) * 64) (((g2 (trL x0 y0 vx vy vd 0 far) i) + 1) * 64)) ?_
         refine aa g'33 ?_
         refine hJ1 _ _ ⟨k1 - 1, by omega, _, _, _, ⟨1 + 1, by omega, rfl, rfl⟩, Abs.byG hbel [] rfl [0, 1, 2, 3, 4] (by decide) ?_⟩
         exact aD @hst
        ·have h7d := bsT h7
         have hst : h4K false x0 y0 x1 y1 vx vy vd far (g1 (trL x0 y0 vx vy vd 0 far) i) (g2 (trL x0 y0 vx vy vd 0 far) i) 2 = false := by
          show (h4K false x0 y0 x1 y1 vx vy vd far (g1 (trL x0 y0 vx vy vd 0 far) i) (g2 (trL x0 y0 vx vy vd 0 far) i) 1 && _) = false
          rw [h7d]; rfl
         have g'34 := (jn @h7 (jn @h7d g'32))
         refine aa g'34 ?_
         refine hJ1 _ _ ⟨k1 - 1, by omega, _, _, _, ⟨1 + 1, by omega, rfl, rfl⟩, Abs.byG hbel [] rfl [0, 1, 2, 3, 4] (by decide) ?_⟩
         exact aD @hst
       ·skip
        have g'35 := (jn @h5 (jn @h5d g'29))
        refine aa g'35 ?_
        refine al (fun h8 => ?_) (fun h8 => ?_)
        ·have h8d := bsT h8
         have hst : h4K false x0 y0 x1 y1 vx vy vd far (g1 (trL x0 y0 vx vy vd 0 far) i) (g2 (trL x0 y0 vx vy vd 0 far) i) 3 = eh x0 y1 vx vy vd 0 far ((g1 (trL x0 y0 vx vy vd 0 far) i) * 64) ((g2 (trL x0 y0 vx vy vd 0 far) i) * 64) (((g1 (trL x0 y0 vx vy vd 0 far) i) + 1) * 64) (((g2 (trL x0 y0 vx vy vd 0 far) i) + 1) * 64) := by
          show (h4K false x0 y0 x1 y1 vx vy vd far (g1 (trL x0 y0 vx vy vd 0 far) i) (g2 (trL x0 y0 vx vy vd 0 far) i) 2 && hcB false x0 y1 vx vy vd far (g1 (trL x0 y0 vx vy vd 0 far) i) (g2 (trL x0 y0 vx vy vd 0 far) i)) = _
          rw [h8d, Bool.true_and]; exact hcB_f rfl
         have g'36 := (jn @h8 (jn @h8d g'35))
         refine aa g'36 ?_
         refine af (by kernel_rfl) (gE _ x0 y1 vx vy vd 0 far ((g1 (trL x0 y0 vx vy vd 0 far) i) * 64) ((g2 (trL x0 y0 vx vy vd 0 far) i) * 64) (((g1 (trL x0 y0 vx vy vd 0 far) i) + 1) * 64) (((g2 (trL x0 y0 vx vy vd 0 far) i) + 1) * 64)) ?_
         refine aa g'36 ?_
         refine hJ1 _ _ ⟨k1 - 1, by omega, _, _, _, ⟨2 + 1, by omega, rfl, rfl⟩, Abs.byG hbel [] rfl [0, 1, 2, 3, 4] (by decide) ?_⟩
         exact aD @hst
        ·have h8d := bsT h8
         have hst : h4K false x0 y0 x1 y1 vx vy vd far (g1 (trL x0 y0 vx vy vd 0 far) i) (g2 (trL x0 y0 vx vy vd 0 far) i) 3 = false := by
          show (h4K false x0 y0 x1 y1 vx vy vd far (g1 (trL x0 y0 vx vy vd 0 far) i) (g2 (trL x0 y0 vx vy vd 0 far) i) 2 && _) = false
          rw [h8d]; rfl
         have g'37 := (jn @h8 (jn @h8d g'35))
         refine aa g'37 ?_
         refine hJ1 _ _ ⟨k1 - 1, by omega, _, _, _, ⟨2 + 1, by omega, rfl, rfl⟩, Abs.byG hbel [] rfl [0, 1, 2, 3, 4] (by decide) ?_⟩
         exact aD @hst
       ·skip
        have g'38 := (jn @h5 (jn @h5d g'29))
        refine aa g'38 ?_
        refine al (fun h9 => ?_) (fun h9 => ?_)
        ·have h9d := bsT h9
         have hst : h4K false x0 y0 x1 y1 vx vy vd far (g1 (trL x0 y0 vx vy vd 0 far) i) (g2 (trL x0 y0 vx vy vd 0 far) i) 4 = eh x1 y1 vx vy vd 0 far ((g1 (trL x0 y0 vx vy vd 0 far) i) * 64) ((g2 (trL x0 y0 vx vy vd 0 far) i) * 64) (((g1 (trL x0 y0 vx vy vd 0 far) i) + 1) * 64) (((g2 (trL x0 y0 vx vy vd 0 far) i) + 1) * 64) := by
          show (h4K false x0 y0 x1 y1 vx vy vd far (g1 (trL x0 y0 vx vy vd 0 far) i) (g2 (trL x0 y0 vx vy vd 0 far) i) 3 && hcB false x1 y1 vx vy vd far (g1 (trL x0 y0 vx vy vd 0 far) i) (g2 (trL x0 y0 vx vy vd 0 far) i)) = _
          rw [h9d, Bool.true_and]; exact hcB_f rfl
         have g'39 := (jn @h9 (jn @h9d g'38))
         refine aa g'39 ?_
         refine af (by kernel_rfl) (gE _ x1 y1 vx vy vd 0 far ((g1 (trL x0 y0 vx vy vd 0 far) i) * 64) ((g2 (trL x0 y0 vx vy vd 0 far) i) * 64) (((g1 (trL x0 y0 vx vy vd 0 far) i) + 1) * 64) (((g2 (trL x0 y0 vx vy vd 0 far) i) + 1) * 64)) ?_
         refine aa g'39 ?_
         refine hJ1 _ _ ⟨k1 - 1, by omega, _, _, _, ⟨3 + 1, by omega, rfl, rfl⟩, Abs.byG hbel [] rfl [0, 1, 2, 3, 4] (by decide) ?_⟩
         exact aD @hst
        ·have h9d := bsT h9
         have hst : h4K false x0 y0 x1 y1 vx vy vd far (g1 (trL x0 y0 vx vy vd 0 far) i) (g2 (trL x0 y0 vx vy vd 0 far) i) 4 = false := by
          show (h4K false x0 y0 x1 y1 vx vy vd far (g1 (trL x0 y0 vx vy vd 0 far) i) (g2 (trL x0 y0 vx vy vd 0 far) i) 3 && _) = false
          rw [h9d]; rfl
         have g'40 := (jn @h9 (jn @h9d g'38))
         refine aa g'40 ?_
         refine hJ1 _ _ ⟨k1 - 1, by omega, _, _, _, ⟨3 + 1, by omega, rfl, rfl⟩, Abs.byG hbel [] rfl [0, 1, 2, 3, 4] (by decide) ?_⟩
         exact aD @hst
      ·have h5d := bsT h5
       obtain rfl : n = 4 := by omega
       have g'41 := (jn @h5 (jn @h5d g'29))
       refine aa g'41 ?_
       refine ak (fun h10 => ?_) (fun h10 => ?_)
       ·have h10d := bsT h10
        have hfinH : d3 W Hh xs x0 y0 x1 y1 vx vy vd far false = true := by
         unfold d3
         rw [decide_eq_false hf0]
         exact List.any_eq_true.2 ⟨_, List.getElem_mem hlt, by
          rw [← ct hlt]; unfold fv; rw [Bool.and_eq_true, beq_iff_eq]; exact ⟨hat, h4K_4.symm.trans h10d⟩⟩
        have g'42 := (jn @h10 (jn @h10d g'41))
        refine aa g'42 ?_
        exact hQ _ _ (ae (.inl rfl) hbel (x := .bool true) (ai Tryz.results192) rfl ⟨by first | (rw [hfinH]; done) | (rw [hfinH]; rfl), rfl⟩)
       ·have h10d := bsT h10
        have hno : fv W Hh xs false x0 y0 x1 y1 vx vy vd far ((g1 (trL x0 y0 vx vy vd 0 far) i), (g2 (trL x0 y0 vx vy vd 0 far) i)) = false := by unfold fv; rw [Bool.and_eq_false_iff]; right; exact h4K_4.symm.trans h10d
        have g'43 := (jn @h10 (jn @h10d g'41))
        refine aa g'43 ?_
        refine hJ0 _ _ ⟨k0 - 1, by omega, _, _, _, ⟨i + 1, by omega, fun j hj => by
              rcases Nat.lt_or_ge j i with h | h
              ·exact hal j h
              ·rw [show j = i by omega]; exact hno, rfl, rfl⟩, Abs.byG hbel [] rfl [0, 1, 2, 3] (by decide) ?_⟩
        exact eZ
   ·have h2d := bsT h2
    obtain rfl : i = (trL x0 y0 vx vy vd 0 far).length := by omega
    have hfinH : d3 W Hh xs x0 y0 x1 y1 vx vy vd far false = false := by
     unfold d3
     rw [lF (fun j hj => by rw [← ct hj]; exact hal j hj)]; simp
    have g'44 := (jn @h2 (jn @h2d g'26))
    refine aa g'44 ?_
    exact hQ _ _ (ae (.inl rfl) hbel (x := .bool false) (ai Tryz.results192) rfl ⟨by first | (rw [hfinH]; done) | (rw [hfinH]; rfl), rfl⟩)
open Go.RowKit
theorem emp_c (H : ac) (W : Int) (Hh : Int) (pp : AV) (xs : List Int) (x0 : Int) (y0 : Int) (x1 : Int) (y1 : Int) (vx : Int) (vy : Int) (vd : Int) (lo : Int) (hi : Int) (hpp : Sl H 1 pp xs.length (ints .u8 xs)) (hV : cl W Hh xs = true) : ACalls Tryz.prog 193 [.agg [.int .i64 W, .int .i64 Hh, pp], .agg [.int .i64 x0, .int .i64 y0, .int .i64 x1, .int .i64 y1], .agg [.int .i64 vx, .int .i64 vy, .int .i64 vd], .int .i64 lo, .int .i64 hi] H (fun v H' => v = .bool (empB W Hh xs x0 y0 x1 y1 vx vy vd lo hi) ∧ H' = H) := by
 obtain ⟨bpp, opp, cpp, rfl, hbpp⟩ := hpp
 have hblpp := getElem?_lt hbpp
 have hb0pp := fun l => aq (l := l) hbpp
 have htl := ku x0 y0 x1 y1 vx vy vd lo hi
 refine AcT true Tryz.func193 ?_; intro hbel Q hQ
 have g'1 := (jn @hbpp @hb0pp)
 refine aa g'1 ?_
 refine af (by kernel_rfl) (swept_c _ x0 y0 x1 y1 vx vy vd lo hi) ?_
 refine aa g'1 ?_
 refine go_loop try_mixed (by kernel_rfl) (fun k F Hx => ∃ i : Nat, i + k = (cB x0 y0 x1 y1 vx vy vd lo hi).length ∧ (∀ j : Nat, j < i → frC W Hh xs (g1 (cB x0 y0 x1 y1 vx vy vd lo hi) j, g2 (cB x0 y0 x1 y1 vx vy vd lo hi) j) = true) ∧ F = [(5, .ptr (some (H.length, 0))), (23, .sl (some (H.length + 1, 0)) ((cB x0 y0 x1 y1 vx vy vd lo hi).length) (bb (cB x0 y0 x1 y1 vx vy vd lo hi).length)), (24, .int .i64 (((cB x0 y0 x1 y1 vx vy vd lo hi).length : Nat) : Int)), (25, .int .i64 ((i : Nat) : Int))] ∧ Hx = H ++ [.cells true 0 [.int .i64 W, .int .i64 Hh, .sl (some (bpp, 0)) xs.length cpp], .cells (aX (cB x0 y0 x1 y1 vx vy vd lo hi).length) 2 (prs (cB x0 y0 x1 y1 vx vy vd lo hi))]) ((cB x0 y0 x1 y1 vx vy vd lo hi).length) ?_ ?_
 ·refine ⟨_, _, _, ⟨0, by omega, (fun j h => by omega), rfl, rfl⟩, Abs.byG hbel [] rfl [0, 3] (by decide) ?_⟩
  exact eZ
 ·rintro k0 F Hx ⟨i, hm0, hal, rfl, rfl⟩ J0 hJ0
  have g'2 := (jn @bp (jn @cC g'1))
  refine aa g'2 ?_
  refine ak (fun h1 => ?_) (fun h1 => ?_)
  ·have h1d := bsT h1
   have hlt : i < (cB x0 y0 x1 y1 vx vy vd lo hi).length := by omega
   have q2 := cA (l := cB x0 y0 x1 y1 vx vy vd lo hi) (j := i) (by omega)
   have g'3 := (jn @h1 (jn @h1d (jn @q2 g'2)))
   refine aa g'3 ?_
   refine af (by kernel_rfl) (pat_c _ W Hh _ xs (g1 (cB x0 y0 x1 y1 vx vy vd lo hi) i) (g2 (cB x0 y0 x1 y1 vx vy vd lo hi) i) ⟨_, _, _, rfl, by first | exact hb0pp _ | exact hbpp⟩ hV) ?_
   refine aa g'3 ?_
   refine ak (fun h3 => ?_) (fun h3 => ?_)
   ·have h3d := bsT h3
    have h3n := bnT h3
    have hfinE : empB W Hh xs x0 y0 x1 y1 vx vy vd lo hi = false := by
     rw [← Bool.not_eq_true]; intro k
     have q := List.all_eq_true.1 k _ (List.getElem_mem hlt)
     rw [← ct hlt] at q
     have q2 : atI W Hh xs (g1 (cB x0 y0 x1 y1 vx vy vd lo hi) i) (g2 (cB x0 y0 x1 y1 vx vy vd lo hi) i) = 1 := by unfold frC at q; simpa using q
     exact absurd q2 (by first | exact h3d | simpa using h3d)
    have g'4 := (jn @h3 (jn @h3n (jn @bg (jn @be g'3))))
    refine aa g'4 ?_
    exact hQ _ _ (ae (.inl rfl) hbel (x := .bool false) (ai Tryz.results193) rfl ⟨by first | (rw [hfinE]; done) | (rw [hfinE]; rfl), rfl⟩)
   ·have h3d := bsT h3
    have h3n := bnT h3
    have hone : frC W Hh xs ((g1 (cB x0 y0 x1 y1 vx vy vd lo hi) i), (g2 (cB x0 y0 x1 y1 vx vy vd lo hi) i)) = true := by unfold frC; rw [beq_iff_eq]; first | exact h3d | simpa using h3d
    have g'5 := (jn @h3 (jn @h3n (jn @bg (jn @be g'3))))
    refine aa g'5 ?_
    refine hJ0 _ _ ⟨k0 - 1, by omega, _, _, _, ⟨i + 1, by omega, fun j hj => by
          rcases Nat.lt_or_ge j i with h | h
          ·exact hal j h
          ·rw [show j = i by omega]; exact hone, rfl, rfl⟩, Abs.byG hbel [] rfl [0, 1] (by decide) ?_⟩
    exact eZ
  ·have h1d := bsT h1
   obtain rfl : i = (cB x0 y0 x1 y1 vx vy vd lo hi).length := by omega
   have hfinE : empB W Hh xs x0 y0 x1 y1 vx vy vd lo hi = true := List.all_eq_true.2 fun c hc => by
    obtain ⟨j, hj, rfl⟩ := List.mem_iff_getElem.1 hc
    rw [← ct hj]; exact hal j hj
   have g'6 := (jn @h1 (jn @h1d g'2))
   refine aa g'6 ?_
   exact hQ _ _ (ae (.inl rfl) hbel (x := .bool true) (ai Tryz.results193) rfl ⟨by first | (rw [hfinE]; done) | (rw [hfinE]; rfl), rfl⟩)
theorem ref_c (H : ac) (W : Int) (Hh : Int) (pp : AV) (xs : List Int) (x0 : Int) (y0 : Int) (x1 : Int) (y1 : Int) (h : Int) (m : Int) (r : Int) (g : Int) (hpp : Sl H 1 pp xs.length (ints .u8 xs)) (hV : cl W Hh xs = true) (hA : dS x0 y0 x1 y1 = true) (hg : 1 ≤ g ∧ g ≤ 32) (hbe : dA m r = true) : ACalls Tryz.prog 158 [.agg [.int .i64 W, .int .i64 Hh, pp], .agg [.int .i64 x0, .int .i64 y0, .int .i64 x1, .int .i64 y1], .int .i64 h, .agg [.int .i64 m, .int .i64 r], .int .i64 g] H (fun v H' => v = .bool (refB W Hh xs x0 y0 x1 y1 h m r g) ∧ H' = H) := by
 obtain ⟨bpp, opp, cpp, rfl, hbpp⟩ := hpp
 have hblpp := getElem?_lt hbpp
 have hb0pp := fun l => aq (l := l) hbpp
 have had := admB_iff.1 hA
 have hbb := kp.1 hbe
 have el0 : (if 0 < r - g then r - g else 0) = low0 r g := rfl
 have el1 : 0 ≤ low0 r g := by unfold low0; split <;> omega
 refine AcT true Tryz.func158 ?_; intro hbel Q hQ
 have g'7 := (jn @hbpp (jn @hb0pp @el0))
 refine aa g'7 ?_
 refine af (by kernel_rfl) (hbeam_c _ h m) ?_
 refine aa g'7 ?_
 refine ak (fun h1 => ?_) (fun h1 => ?_)
 ·have h1d := bsT h1
  have h1n := bnT h1
  have hfinR : refB W Hh xs x0 y0 x1 y1 h m r g = d3 W Hh xs x0 y0 x1 y1 ((bH h m).1) ((bH h m).2.1) ((bH h m).2.2) (1024 - g) false := by unfold refB; rw [h1]; rfl
  have g'8 := (jn @h1 (jn @h1n (jn @bg (jn @be g'7))))
  refine aa g'8 ?_
  refine af (by kernel_rfl) (hidf_c _ W Hh _ xs x0 y0 x1 y1 ((bH h m).1) ((bH h m).2.1) ((bH h m).2.2) (1024 - g) ⟨_, _, _, rfl, by first | exact hb0pp _ | exact hbpp⟩ hV (by omega) (by omega)) ?_
  refine aa g'8 ?_
  exact hQ _ _ (ae (.inl rfl) hbel (x := .bool (d3 W Hh xs x0 y0 x1 y1 ((bH h m).1) ((bH h m).2.1) ((bH h m).2.2) (1024 - g) false)) (ai Tryz.results158) rfl ⟨by first | (rw [hfinR]; done) | (rw [hfinR]; rfl), rfl⟩)
 ·have h1d := bsT h1
  have h1n := bnT h1
  have hrf := h1
  have g'9 := (jn @h1 (jn @h1n (jn @bg (jn @be g'7))))
  refine aa g'9 ?_
  refine af (by kernel_rfl) (hidt_c _ W Hh _ xs x0 y0 x1 y1 ((bH h m).1) ((bH h m).2.1) ((bH h m).2.2) (r - g) ⟨_, _, _, rfl, by first | exact hb0pp _ | exact hbpp⟩ hV (by omega) (by omega)) ?_
  refine aa g'9 ?_
  refine al (fun h2 => ?_) (fun h2 => ?_)
  ·have h2d := bsT h2
   have hfinR : refB W Hh xs x0 y0 x1 y1 h m r g = empB W Hh xs x0 y0 x1 y1 (bH h m).1 (bH h m).2.1 (bH h m).2.2 (low0 r g) (r + g) := by unfold refB; rw [hrf, h2d]; rfl
   have g'10 := (jn @h2 (jn @h2d g'9))
   refine aa g'10 ?_
   refine af (by kernel_rfl) (emp_c _ W Hh _ xs x0 y0 x1 y1 ((bH h m).1) ((bH h m).2.1) ((bH h m).2.2) (low0 r g) (r + g) ⟨_, _, _, rfl, by first | exact hb0pp _ | exact hbpp⟩ hV) ?_
   refine aa g'10 ?_
   exact hQ _ _ (ae (.inl rfl) hbel (x := .bool (empB W Hh xs x0 y0 x1 y1 ((bH h m).1) ((bH h m).2.1) ((bH h m).2.2) (low0 r g) (r + g))) (ai Tryz.results158) rfl ⟨by first | (rw [hfinR]; done) | (rw [hfinR]; rfl), rfl⟩)
  ·have h2d := bsT h2
   have hfinR : refB W Hh xs x0 y0 x1 y1 h m r g = true := by unfold refB; rw [hrf, h2d]; rfl
   have g'11 := (jn @h2 (jn @h2d g'9))
   refine aa g'11 ?_
   exact hQ _ _ (ae (.inl rfl) hbel (x := .bool true) (ai Tryz.results158) rfl ⟨by first | (rw [hfinR]; done) | (rw [hfinR]; rfl), rfl⟩)
theorem bad_c (H : ac) (W : Int) (Hh : Int) (pp : AV) (xs : List Int) (x0 : Int) (y0 : Int) (x1 : Int) (y1 : Int) (h : Int) (q : AV) (sc : List (Int × Int)) (g : Int) (hpp : Sl H 1 pp xs.length (ints .u8 xs)) (hq : Sl H 2 q sc.length (prs sc)) (hV : cl W Hh xs = true) (hg : 1 ≤ g ∧ g ≤ 32) (hsB : cw sc = true) : ACalls Tryz.prog 117 [.agg [.int .i64 W, .int .i64 Hh, pp], .agg [.int .i64 x0, .int .i64 y0, .int .i64 x1, .int .i64 y1], .int .i64 h, q, .int .i64 g] H (fun v H' => v = .bool (badB W Hh xs x0 y0 x1 y1 h sc g) ∧ H' = H) := by
 obtain ⟨bpp, opp, cpp, rfl, hbpp⟩ := hpp
 have hblpp := getElem?_lt hbpp
 have hb0pp := fun l => aq (l := l) hbpp
 obtain ⟨bq, oq, cq, rfl, hbq⟩ := hq
 have hblq := getElem?_lt hbq
 have hb0q := fun l => aq (l := l) hbq
 have hsc := ef.1 hsB
 refine AcT true Tryz.func117 ?_; intro hbel Q hQ
 have g'12 := (jn @hbpp (jn @hb0pp (jn @hbq @hb0q)))
 refine aa g'12 ?_
 refine af (by kernel_rfl) (cadm_c _ x0 y0 x1 y1) ?_
 refine aa g'12 ?_
 refine ak (fun h1 => ?_) (fun h1 => ?_)
 ·have h1d := bsT h1
  have hfinB : badB W Hh xs x0 y0 x1 y1 h sc g = false := by unfold badB; rw [h1d]; rfl
  have g'13 := (jn @h1 (jn @h1d g'12))
  refine aa g'13 ?_
  exact hQ _ _ (ae (.inl rfl) hbel (x := .bool false) (ai Tryz.results117) rfl ⟨by first | (rw [hfinB]; done) | (rw [hfinB]; rfl), rfl⟩)
 ·have h1d := bsT h1
  have hadm := h1d
  have g'14 := (jn @h1 (jn @h1d g'12))
  refine aa g'14 ?_
  refine go_loop try_mixed (by kernel_rfl) (fun k F Hx => ∃ i : Nat, i + k = sc.length ∧ (∀ j : Nat, j < i → refB W Hh xs x0 y0 x1 y1 h (g1 sc j) (g2 sc j) g = false) ∧ F = [(2, .int .i64 h), (4, .int .i64 g), (5, .ptr (some (H.length, 0))), (6, .ptr (some (H.length + 1, 0))), (16, .sl (some (bq, 0)) sc.length cq), (17, .int .i64 ((sc.length : Nat) : Int)), (18, .int .i64 ((i : Nat) : Int))] ∧ Hx = H ++ [.cells true 0 [.int .i64 W, .int .i64 Hh, .sl (some (bpp, 0)) xs.length cpp], .cells true 0 [.int .i64 x0, .int .i64 y0, .int .i64 x1, .int .i64 y1]]) (sc.length) ?_ ?_
  ·refine ⟨_, _, _, ⟨0, by omega, (fun j h => by omega), rfl, rfl⟩, Abs.byG hbel [] rfl [0, 1] (by decide) ?_⟩
   exact aW
  ·rintro k0 F Hx ⟨i, hm0, hal, rfl, rfl⟩ J0 hJ0
   refine aa g'14 ?_
   refine ak (fun h2 => ?_) (fun h2 => ?_)
   ·have h2d := bsT h2
    have hlt : i < sc.length := by omega
    have hbe := hsc.2 _ (List.getElem_mem hlt)
    rw [← ct hlt] at hbe
    have hbe2 : dA (g1 sc i) (g2 sc i) = true := hbe
    have q3 := cA (l := sc) (j := i) (by omega)
    have g'15 := (jn @h2 (jn @h2d (jn @q3 g'14)))
    refine aa g'15 ?_
    refine af (by kernel_rfl) (ref_c _ W Hh _ xs x0 y0 x1 y1 h (g1 sc i) (g2 sc i) g ⟨_, _, _, rfl, by first | exact hb0pp _ | exact hbpp⟩ hV (by assumption) hg (by assumption)) ?_
    refine aa g'15 ?_
    refine ak (fun h4 => ?_) (fun h4 => ?_)
    ·have h4d := bsT h4
     have hfinB : badB W Hh xs x0 y0 x1 y1 h sc g = true := by
      unfold badB
      rw [hadm]
      exact List.any_eq_true.2 ⟨_, List.getElem_mem hlt, by rw [← ct hlt]; exact h4d⟩
     have g'16 := (jn @h4 (jn @h4d g'15))
     refine aa g'16 ?_
     exact hQ _ _ (ae (.inl rfl) hbel (x := .bool true) (ai Tryz.results117) rfl ⟨by first | (rw [hfinB]; done) | (rw [hfinB]; rfl), rfl⟩)
    ·have h4d := bsT h4
     have hno := h4d
     have g'17 := (jn @h4 (jn @h4d g'15))
     refine aa g'17 ?_
     refine hJ0 _ _ ⟨k0 - 1, by omega, _, _, _, ⟨i + 1, by omega, fun j hj => by
           rcases Nat.lt_or_ge j i with h | h
           ·exact hal j h
           ·rw [show j = i by omega]; exact hno, rfl, rfl⟩, Abs.byG hbel [] rfl [0, 1] (by decide) ?_⟩
     exact aW
   ·have h2d := bsT h2
    obtain rfl : i = sc.length := by omega
    have hfinB : badB W Hh xs x0 y0 x1 y1 h sc g = false := by
     unfold badB
     rw [lF (fun j hj => by rw [← ct hj]; exact hal j hj)]; simp
    have g'18 := (jn @h2 (jn @h2d g'14))
    refine aa g'18 ?_
    exact hQ _ _ (ae (.inl rfl) hbel (x := .bool false) (ai Tryz.results117) rfl ⟨by first | (rw [hfinB]; done) | (rw [hfinB]; rfl), rfl⟩)
open Go.RowKit
theorem tOk_x {W Hh : Int} {xs : List Int} {b : T6} {s : List (Int × Int)} {g : Int} (h : tX1 W b < tX0 b) : tOk W Hh xs b s g = false := by unfold tOk; rw [decide_eq_true h]; rfl
theorem tOk_y {W Hh : Int} {xs : List Int} {b : T6} {s : List (Int × Int)} {g : Int} (h : tY1 Hh b < tY0 b) : tOk W Hh xs b s g = false := by unfold tOk; rw [decide_eq_true h]; simp
theorem tOk_n {W Hh : Int} {xs : List Int} {b : T6} {s : List (Int × Int)} {g : Int} {i : Nat} (hi : i = (mkB b).length) (h : ∀ k : Nat, k < i → tP W Hh xs b s g k = true) : tOk W Hh xs b s g = false := by
 have e : tI W Hh xs b s g = (mkB b).length := by unfold tI; rw [← hi]; exact lE h (Nat.le_refl _) (.inl rfl)
 unfold tOk; rw [e, decide_eq_false (Nat.lt_irrefl _)]; simp
theorem tI_i {W Hh : Int} {xs : List Int} {b : T6} {s : List (Int × Int)} {g : Int} {i : Nat} (hi : i < (mkB b).length) (h : ∀ k : Nat, k < i → tP W Hh xs b s g k = true) (h0 : tP W Hh xs b s g i = false) : tI W Hh xs b s g = i := lE h (by omega) (.inr h0)
theorem tOk_y2 {W Hh : Int} {xs : List Int} {b : T6} {s : List (Int × Int)} {g : Int} {i : Nat} (hx : ¬ tX1 W b < tX0 b) (hy : ¬ tY1 Hh b < tY0 b) (hi : i < (mkB b).length) (h : tI W Hh xs b s g = i) : tOk W Hh xs b s g = true := by
 unfold tOk; rw [decide_eq_false hx, decide_eq_false hy, h, decide_eq_true hi]; rfl
theorem tJ_j {W Hh : Int} {xs : List Int} {b : T6} {s : List (Int × Int)} {g : Int} {j : Nat} (hj : 0 < j) (h0 : tP W Hh xs b s g (j - 1) = false) (hn : j ≤ (mkB b).length) (h : ∀ k : Nat, j ≤ k → k < (mkB b).length → tP W Hh xs b s g k = true) : tJ W Hh xs b s g = j := tlN_eq ⟨hj, h0⟩ hn h
theorem trim_c (H : ac) (W : Int) (Hh : Int) (pp : AV) (xs : List Int) (x0 : Int) (y0 : Int) (x1 : Int) (y1 : Int) (f : Int) (c : Int) (q : AV) (sc : List (Int × Int)) (g : Int) (hpp : Sl H 1 pp xs.length (ints .u8 xs)) (hq : Sl H 2 q sc.length (prs sc)) (hV : cl W Hh xs = true) (hb : bxB x0 y0 x1 y1 f c = true) (hsB : cw sc = true) (hg : 1 ≤ g ∧ g ≤ 32) : ACalls Tryz.prog 75 [.agg [.int .i64 W, .int .i64 Hh, pp], .agg [.int .i64 x0, .int .i64 y0, .int .i64 x1, .int .i64 y1, .int .i64 f, .int .i64 c], q, .int .i64 g] H (fun v H' => v = .tup [.agg [.int .i64 (mkV (tOk W Hh xs (x0, y0, x1, y1, f, c) sc g) ((tB W Hh xs (x0, y0, x1, y1, f, c) sc g).1)), .int .i64 (mkV (tOk W Hh xs (x0, y0, x1, y1, f, c) sc g) ((tB W Hh xs (x0, y0, x1, y1, f, c) sc g).2.1)), .int .i64 (mkV (tOk W Hh xs (x0, y0, x1, y1, f, c) sc g) ((tB W Hh xs (x0, y0, x1, y1, f, c) sc g).2.2.1)), .int .i64 (mkV (tOk W Hh xs (x0, y0, x1, y1, f, c) sc g) ((tB W Hh xs (x0, y0, x1, y1, f, c) sc g).2.2.2.1)), .int .i64 (mkV (tOk W Hh xs (x0, y0, x1, y1, f, c) sc g) ((tB W Hh xs (x0, y0, x1, y1, f, c) sc g).2.2.2.2.1)), .int .i64 (mkV (tOk W Hh xs (x0, y0, x1, y1, f, c) sc g) ((tB W Hh xs (x0, y0, x1, y1, f, c) sc g).2.2.2.2.2))], .bool (tOk W Hh xs (x0, y0, x1, y1, f, c) sc g)] ∧ H' = H) := by
 obtain ⟨bpp, opp, cpp, rfl, hbpp⟩ := hpp
 have hblpp := getElem?_lt hbpp
 have hb0pp := fun l => aq (l := l) hbpp
 obtain ⟨bq, oq, cq, rfl, hbq⟩ := hq
 have hblq := getElem?_lt hbq
 have hb0q := fun l => aq (l := l) hbq
 have hbb := bO.1 hb
 have hab := hbb.2.2
 have haa := bm.1 hab
 have hVV := cJ.1 hV
 have hw0 := hVV.w0
 have hw1 := hVV.w1
 have hh0 := hVV.h0
 have hh1 := hVV.h1
 have hln := c7 f c.toNat
 have e0 : (if x0 < 0 then 0 else x0) = tX0 (x0, y0, x1, y1, f, c) := rfl
 have e1 : (if y0 < 0 then 0 else y0) = tY0 (x0, y0, x1, y1, f, c) := rfl
 have e2 : (if 64 * W < x1 then 64 * W else x1) = tX1 W (x0, y0, x1, y1, f, c) := rfl
 have e3 : (if 64 * Hh < y1 then 64 * Hh else y1) = tY1 Hh (x0, y0, x1, y1, f, c) := rfl
 refine AcT true Tryz.func75 ?_; intro hbel Q hQ
 have g'1 := (jn @hbpp (jn @hb0pp (jn @hbq (jn @hb0q (jn @e0 (jn @e1 (jn @e2 @e3)))))))
 refine aa g'1 ?_
 refine al (fun h1 => ?_) (fun h1 => ?_)
 ·have h1d := bsT h1
  have hnx := h1d
  have g'2 := (jn @h1 (jn @h1d g'1))
  refine aa g'2 ?_
  refine ak (fun h2 => ?_) (fun h2 => ?_)
  ·have h2d := bsT h2
   have hfinO := tOk_y (W := W) (Hh := Hh) (xs := xs) (b := (x0, y0, x1, y1, f, c)) (s := sc) (g := g) h2d
   have g'3 := (jn @h2 (jn @h2d g'2))
   refine aa g'3 ?_
   exact hQ _ _ (ae (.inl rfl) hbel (x := .tup [.agg [.int .i64 0, .int .i64 0, .int .i64 0, .int .i64 0, .int .i64 0, .int .i64 0], .bool false]) (ai Tryz.results75) rfl ⟨by first | (rw [hfinO]; done) | (rw [hfinO]; rfl) | (unfold tB; rw [hfinO, hfinI, hfinJ]; rfl) | skip, rfl⟩)
  ·have h2d := bsT h2
   have hny := h2d
   have g'4 := (jn @h2 (jn @h2d g'2))
   refine aa g'4 ?_
   refine af (by kernel_rfl) (l0 _ f c hab) ?_
   refine aa g'4 ?_
   refine go_loop try_mixed (by kernel_rfl) (fun k F Hx => ∃ i : Nat, i + k = (aJ f c.toNat).length ∧ (∀ j : Nat, j < i → tP W Hh xs (x0, y0, x1, y1, f, c) sc g j = true) ∧ F = [(2, .sl (some (bq, 0)) sc.length cq), (3, .int .i64 g), (4, .ptr (some (H.length, 0))), (8, .ptr (some (H.length + 1, 0))), (10, .ptr (some (H.length + 2, 0))), (11, .sl (some (H.length + 3, i)) ((aJ f c.toNat).length - i) none)] ∧ Hx = H ++ [.cells true 0 [.int .i64 W, .int .i64 Hh, .sl (some (bpp, 0)) xs.length cpp], .cells true 0 [.int .i64 0, .int .i64 0, .int .i64 0, .int .i64 0, .int .i64 0, .int .i64 0], .cells true 0 [.int .i64 (tX0 (x0, y0, x1, y1, f, c)), .int .i64 (tY0 (x0, y0, x1, y1, f, c)), .int .i64 (tX1 W (x0, y0, x1, y1, f, c)), .int .i64 (tY1 Hh (x0, y0, x1, y1, f, c))], .cells true 1 (ints .i64 (aJ f c.toNat))]) ((aJ f c.toNat).length) ?_ ?_
   ·refine ⟨_, _, _, ⟨0, by omega, (fun j h => by omega), rfl, rfl⟩, Abs.byG hbel [] rfl [0, 2, 3, 4] (by decide) ?_⟩
    exact eZ
   ·rintro k0 F Hx ⟨i, hm0, hal, rfl, rfl⟩ J0 hJ0
    have g'5 := (jn @ck (jn @cZ g'4))
    refine aa g'5 ?_
    refine al (fun h3 => ?_) (fun h3 => ?_)
    ·have h3d := bsT h3
     have q4 := dh (k := .i64) (xs := aJ f c.toNat) (j := i) (by omega)
     have g'6 := (jn @h3 (jn @h3d (jn @q4 g'5)))
     refine aa g'6 ?_
     refine aB (by kernel_rfl) (bad_c _ W Hh _ xs (tX0 (x0, y0, x1, y1, f, c)) (tY0 (x0, y0, x1, y1, f, c)) (tX1 W (x0, y0, x1, y1, f, c)) (tY1 Hh (x0, y0, x1, y1, f, c)) (gi (aJ f c.toNat) i) _ sc g ⟨_, _, _, rfl, by first | exact hb0pp _ | exact hbpp⟩ ⟨_, _, _, rfl, by first | exact hb0q _ | exact hbq⟩ hV hg hsB) ?_
     refine aa g'6 ?_
     refine ak (fun h5 => ?_) (fun h5 => ?_)
     ·have h5d := bsT h5
      have hbi := h5d
      have g'7 := (jn @h5 (jn @h5d g'6))
      refine aa g'7 ?_
      have hv1 : (aJ f c.toNat).length - i - 1 = (aJ f c.toNat).length - (i + 1) := by omega
      refine hJ0 _ _ ⟨k0 - 1, by omega, _, _, _, ⟨i + 1, by omega, fun j hj => by
            rcases Nat.lt_or_ge j i with h | h
            ·exact hal j h
            ·rw [show j = i by omega]; exact hbi, rfl, rfl⟩, Abs.byG hbel [] rfl [0, 1, 2, 3] (by decide) ?_⟩
      exact aD @hv1
     ·have h5d := bsT h5
      have hpi : tP W Hh xs (x0, y0, x1, y1, f, c) sc g i = false := h5d
      have hiN : i < (mkB (x0, y0, x1, y1, f, c)).length := by show i < (aJ f c.toNat).length; omega
      have hfinI := tI_i hiN hal hpi
      have hfinO := tOk_y2 hnx hny hiN hfinI
      have g'8 := (jn @h5 (jn @h5d g'6))
      refine aa g'8 ?_
      refine ak (fun h6 => ?_) (fun h6 => ?_)
      ·have h6d := bsT h6
       have h6n := bnT h6
       omega
      ·have h6d := bsT h6
       have h6n := bnT h6
       have g'9 := (jn @h6 (jn @h6n (jn @bg (jn @be g'8))))
       refine aa g'9 ?_
       refine go_loop try_mixed (by kernel_rfl) (fun k F Hx => ∃ j : Nat, i + k = j ∧ i < j ∧ j ≤ (aJ f c.toNat).length ∧ (∀ q : Nat, j ≤ q → q < (mkB (x0, y0, x1, y1, f, c)).length → tP W Hh xs (x0, y0, x1, y1, f, c) sc g q = true) ∧ F = [(2, .sl (some (bq, 0)) sc.length cq), (3, .int .i64 g), (4, .ptr (some (H.length, 0))), (8, .ptr (some (H.length + 1, 0))), (10, .ptr (some (H.length + 2, 0))), (11, .sl (some (H.length + 3, i)) (j - i) none)] ∧ Hx = H ++ [.cells true 0 [.int .i64 W, .int .i64 Hh, .sl (some (bpp, 0)) xs.length cpp], .cells true 0 [.int .i64 0, .int .i64 0, .int .i64 0, .int .i64 0, .int .i64 0, .int .i64 0], .cells true 0 [.int .i64 (tX0 (x0, y0, x1, y1, f, c)), .int .i64 (tY0 (x0, y0, x1, y1, f, c)), .int .i64 (tX1 W (x0, y0, x1, y1, f, c)), .int .i64 (tY1 Hh (x0, y0, x1, y1, f, c))], .cells true 1 (ints .i64 (aJ f c.toNat))]) ((aJ f c.toNat).length - i) ?_ ?_
       ·refine ⟨_, _, _, ⟨(aJ f c.toNat).length, by omega, by omega, Nat.le_refl _, (fun q h1 h2 => by have h2' : q < (aJ f c.toNat).length := h2; omega), rfl, rfl⟩, Abs.byG hbel [] rfl [0, 1, 2, 3] (by decide) ?_⟩
        exact eZ
       ·rintro k1 F Hx ⟨j, hm1, hij, hjn, hbk, rfl, rfl⟩ J1 hJ1
        have hj1 : ((j - i : Nat) : Int) - 1 = ((j - 1 - i : Nat) : Int) := by omega
        have hj2 : i + (j - 1 - i) = j - 1 := by omega
        have q7 := dh (k := .i64) (xs := aJ f c.toNat) (j := j - 1) (by omega)
        have g'10 := (jn @hj1 (jn @hj2 (jn @q7 g'9)))
        refine aa g'10 ?_
        refine aB (by kernel_rfl) (bad_c _ W Hh _ xs (tX0 (x0, y0, x1, y1, f, c)) (tY0 (x0, y0, x1, y1, f, c)) (tX1 W (x0, y0, x1, y1, f, c)) (tY1 Hh (x0, y0, x1, y1, f, c)) (gi (aJ f c.toNat) (j - 1)) _ sc g ⟨_, _, _, rfl, by first | exact hb0pp _ | exact hbpp⟩ ⟨_, _, _, rfl, by first | exact hb0q _ | exact hbq⟩ hV hg hsB) ?_
        refine aa g'10 ?_
        refine ak (fun h8 => ?_) (fun h8 => ?_)
        ·have h8d := bsT h8
         have hbj := h8d
         have hne : ¬ j - 1 = i := fun e => by
          have q := hbj
          rw [e] at q
          exact absurd (q.symm.trans hpi) (by decide)
         have g'11 := (jn @h8 (jn @h8d g'10))
         refine aa g'11 ?_
         refine hJ1 _ _ ⟨k1 - 1, by omega, _, _, _, ⟨j - 1, by omega, by omega, by omega, fun q h1 h2 => by
               rcases Nat.lt_or_ge q j with h | h
               ·rw [show q = j - 1 by omega]; exact hbj
               ·exact hbk q h h2, rfl, rfl⟩, Abs.byG hbel [] rfl [0, 1, 2, 3] (by decide) ?_⟩
         exact eZ
        ·have h8d := bsT h8
         have hfinJ := tJ_j (W := W) (Hh := Hh) (xs := xs) (b := (x0, y0, x1, y1, f, c)) (s := sc) (g := g) (j := j) (by omega) h8d (by show j ≤ (aJ f c.toNat).length; omega) hbk
         have q9 := dh (k := .i64) (xs := aJ f c.toNat) (j := i) (by omega)
         have g'12 := (jn @h8 (jn @h8d (jn @q9 g'10)))
         refine aa g'12 ?_
         exact hQ _ _ (ae (.inl rfl) hbel (x := .tup [.agg [.int .i64 (tX0 (x0, y0, x1, y1, f, c)), .int .i64 (tY0 (x0, y0, x1, y1, f, c)), .int .i64 (tX1 W (x0, y0, x1, y1, f, c)), .int .i64 (tY1 Hh (x0, y0, x1, y1, f, c)), .int .i64 (gi (aJ f c.toNat) i), .int .i64 ((j - i : Nat) : Int)], .bool true]) (ai Tryz.results75) rfl ⟨by first | (rw [hfinO]; done) | (rw [hfinO]; rfl) | (unfold tB; rw [hfinO, hfinI, hfinJ]; rfl) | skip, rfl⟩)
    ·have h3d := bsT h3
     have hfinO := tOk_n (W := W) (Hh := Hh) (xs := xs) (b := (x0, y0, x1, y1, f, c)) (s := sc) (g := g) (i := i) (by show i = (aJ f c.toNat).length; omega) hal
     have g'13 := (jn @h3 (jn @h3d g'5))
     refine aa g'13 ?_
     refine ak (fun h10 => ?_) (fun h10 => ?_)
     ·have h10d := bsT h10
      have h10n := bnT h10
      have g'14 := (jn @h10 (jn @h10n (jn @bg (jn @be g'13))))
      refine aa g'14 ?_
      exact hQ _ _ (ae (.inl rfl) hbel (x := .tup [.agg [.int .i64 0, .int .i64 0, .int .i64 0, .int .i64 0, .int .i64 0, .int .i64 0], .bool false]) (ai Tryz.results75) rfl ⟨by first | (rw [hfinO]; done) | (rw [hfinO]; rfl) | (unfold tB; rw [hfinO, hfinI, hfinJ]; rfl) | skip, rfl⟩)
     ·have h10d := bsT h10
      have h10n := bnT h10
      omega
 ·have h1d := bsT h1
  have hfinO := tOk_x (W := W) (Hh := Hh) (xs := xs) (b := (x0, y0, x1, y1, f, c)) (s := sc) (g := g) h1d
  have g'15 := (jn @h1 (jn @h1d g'1))
  refine aa g'15 ?_
  exact hQ _ _ (ae (.inl rfl) hbel (x := .tup [.agg [.int .i64 0, .int .i64 0, .int .i64 0, .int .i64 0, .int .i64 0, .int .i64 0], .bool false]) (ai Tryz.results75) rfl ⟨by first | (rw [hfinO]; done) | (rw [hfinO]; rfl) | (unfold tB; rw [hfinO, hfinI, hfinJ]; rfl) | skip, rfl⟩)
theorem trim_t (H : ac) (W Hh : Int) (pp : AV) (xs : List Int) (b : T6) (q : AV) (sc : List (Int × Int)) (g : Int) (hpp : Sl H 1 pp xs.length (ints .u8 xs)) (hq : Sl H 2 q sc.length (prs sc)) (hV : cl W Hh xs = true) (hb : bJ b = true) (hsB : cw sc = true) (hg : 1 ≤ g ∧ g ≤ 32) :
  ACalls Tryz.prog 75 [.agg [.int .i64 W, .int .i64 Hh, pp], .agg [.int .i64 b.1, .int .i64 b.2.1, .int .i64 b.2.2.1, .int .i64 b.2.2.2.1, .int .i64 b.2.2.2.2.1, .int .i64 b.2.2.2.2.2], q, .int .i64 g] H (fun v H' => v = .tup [.agg [.int .i64 (mkV (tOk W Hh xs b sc g) (tB W Hh xs b sc g).1), .int .i64 (mkV (tOk W Hh xs b sc g) (tB W Hh xs b sc g).2.1), .int .i64 (mkV (tOk W Hh xs b sc g) (tB W Hh xs b sc g).2.2.1), .int .i64 (mkV (tOk W Hh xs b sc g) (tB W Hh xs b sc g).2.2.2.1), .int .i64 (mkV (tOk W Hh xs b sc g) (tB W Hh xs b sc g).2.2.2.2.1), .int .i64 (mkV (tOk W Hh xs b sc g) (tB W Hh xs b sc g).2.2.2.2.2)], .bool (tOk W Hh xs b sc g)] ∧ H' = H) :=
 trim_c H W Hh pp xs b.1 b.2.1 b.2.2.1 b.2.2.2.1 b.2.2.2.2.1 b.2.2.2.2.2 q sc g hpp hq hV hb hsB hg
open Go.RowKit
theorem mkV_f (n : Int) : mkV false n = 0 := rfl
set_option maxRecDepth 100000 in
theorem iw (H : ac) (s : AV) (l : List T6) (hs : Sl H 6 s l.length (r6 l)) (hl : l.length ≤ 1000000) (h0 : 0 < l.length) : ACalls Tryz.prog 31 [s] H (fun v H' => v = .sl (some (H.length, 0)) l.length none ∧ H' = H ++ [.cells true 6 (r6 l)]) := by
 obtain ⟨b, own, cap, rfl, hb⟩ := hs
 have hbl := getElem?_lt hb
 have hb0 := fun l => aq (l := l) hb
 generalize hm : l.length = m at *
 refine AcT true Tryz.func31 ?_; intro hbel Q hQ
 have htk : List.take (m * 6) (r6 l) = r6 l := List.take_of_length_le (by rw [bM]; omega)
 have hm0 : (m == 0) = false := beq_eq_false_iff_ne.2 (by omega)
 have hm1 : (m != 0) = true := bne_iff_ne.2 (by omega)
 have hln : (r6 l).length = m * 6 := by rw [bM, hm]
 simp -implicitDefEqProofs (disch := omega) only [hb, hb0, Option.isNone_some, hm0, h0, htk, gr, hm1, dw, hln, simprocAttr, aF, aG, Function.comp_apply, one1, lenV, ap, az, aA, aop, AV.ofValue, AV.ofCell, AV.cells, AV.flat, AV.one, arep, aP, av, aE]
 repeat refine And.intro (by omega) ?_
 refine hQ _ _ (end_by (.inl rfl) hbel (x1 := .sl (some (H.length + 1, 0)) m none) (.sl (some (H.length, 0)) m none) (ai Tryz.results31) [1] (by decide) ⟨rfl, rfl⟩ ?_)
 exact absTf @bA
theorem vol_c (H : ac) (x0 : Int) (y0 : Int) (x1 : Int) (y1 : Int) (f : Int) (c : Int) : ACalls Tryz.prog 55 [.agg [.int .i64 x0, .int .i64 y0, .int .i64 x1, .int .i64 y1, .int .i64 f, .int .i64 c]] H (fun v H' => v = .int .i64 (c6 (x0, y0, x1, y1, f, c)) ∧ H' = H) := by
 refine AcT true Tryz.func55 ?_; intro hbel Q hQ
 refine aQ ?_
 refine af (by kernel_rfl) (eE _ x0 y0 x1 y1 f c) ?_
 refine aQ ?_
 refine ak (fun h1 => ?_) (fun h1 => ?_)
 ·have h1d := bsT h1
  have hfinV : c6 (x0, y0, x1, y1, f, c) = 0 := if_neg (fun k => absurd ((show bxB x0 y0 x1 y1 f c = true from k).symm.trans h1d) (by decide))
  have g'1 := (jn @h1 @h1d)
  refine aa g'1 ?_
  exact hQ _ _ (ae (.inl rfl) hbel (x := .int .i64 0) (ai Tryz.results55) rfl ⟨by first | (rw [hfinV]; done) | (rw [hfinV]; rfl), rfl⟩)
 ·have h1d := bsT h1
  have hbb := bO.1 h1d
  have haa := bm.1 hbb.2.2
  have m1 := bE (a := x1 - x0 + 1) (b := y1 - y0 + 1) (A := 2097153) (B := 2097153) (by omega) (by omega)
  have m2 := bE (a := (x1 - x0 + 1) * (y1 - y0 + 1)) (b := c) (A := 4398050705409) (B := 256) (by omega) (by omega)
  have hfinV : c6 (x0, y0, x1, y1, f, c) = (x1 - x0 + 1) * (y1 - y0 + 1) * c := if_pos h1d
  have g'2 := (jn @h1 @h1d)
  refine aa g'2 ?_
  exact hQ _ _ (ae (.inl rfl) hbel (x := .int .i64 ((((x1 - x0) + 1) * ((y1 - y0) + 1)) * c)) (ai Tryz.results55) rfl ⟨by first | (rw [hfinV]; done) | (rw [hfinV]; rfl), rfl⟩)
theorem spl1_c (H : ac) (n : Int) (u : Int) (hn : 0 ≤ n ∧ n ≤ 4194304) (hu : 0 ≤ u ∧ u ≤ 8) : ACalls Tryz.prog 118 [.int .i64 n, .int .i64 u] H (fun v H' => v = .int .i64 (c9 n u) ∧ H' = H) := by
 have m1 := bE (a := n) (b := u) (A := 4194304) (B := 8) (by omega) (by omega)
 refine AcT true Tryz.func118 ?_; intro hbel Q hQ
 refine aQ ?_
 refine ak (fun h1 => ?_) (fun h1 => ?_)
 ·have h1d := bsT h1
  have g'3 := (jn @h1 (jn @h1d (jn @bg @be)))
  refine aa g'3 ?_
  exact hQ _ _ (au (.inl rfl) hbel (x := .int .i64 0) (ai Tryz.results118) rfl ⟨by first | (unfold c9; rw [if_pos (by omega)]; done) | (unfold c9; rw [if_neg (by omega)]; done) | (unfold c9; rw [if_pos (by omega)]; rfl) | (unfold c9; rw [if_neg (by omega)]; rfl), rfl⟩)
 ·have h1d := bsT h1
  have g'4 := (jn @h1 (jn @h1d (jn @bg @be)))
  refine aa g'4 ?_
  exact hQ _ _ (au (.inl rfl) hbel (x := .int .i64 (n * u)) (ai Tryz.results118) rfl ⟨by first | (unfold c9; rw [if_pos (by omega)]; done) | (unfold c9; rw [if_neg (by omega)]; done) | (unfold c9; rw [if_pos (by omega)]; rfl) | (unfold c9; rw [if_neg (by omega)]; rfl), rfl⟩)
theorem split_c (H : ac) (x0 : Int) (y0 : Int) (x1 : Int) (y1 : Int) (f : Int) (c : Int) (hb : bxB x0 y0 x1 y1 f c = true) : ACalls Tryz.prog 76 [.agg [.int .i64 x0, .int .i64 y0, .int .i64 x1, .int .i64 y1, .int .i64 f, .int .i64 c]] H (fun v H' => v = .tup [.agg [.int .i64 (mkV (cW (x0, y0, x1, y1, f, c)) ((dx (x0, y0, x1, y1, f, c)).1)), .int .i64 (mkV (cW (x0, y0, x1, y1, f, c)) ((dx (x0, y0, x1, y1, f, c)).2.1)), .int .i64 (mkV (cW (x0, y0, x1, y1, f, c)) ((dx (x0, y0, x1, y1, f, c)).2.2.1)), .int .i64 (mkV (cW (x0, y0, x1, y1, f, c)) ((dx (x0, y0, x1, y1, f, c)).2.2.2.1)), .int .i64 (mkV (cW (x0, y0, x1, y1, f, c)) ((dx (x0, y0, x1, y1, f, c)).2.2.2.2.1)), .int .i64 (mkV (cW (x0, y0, x1, y1, f, c)) ((dx (x0, y0, x1, y1, f, c)).2.2.2.2.2))], .agg [.int .i64 (mkV (cW (x0, y0, x1, y1, f, c)) ((dy (x0, y0, x1, y1, f, c)).1)), .int .i64 (mkV (cW (x0, y0, x1, y1, f, c)) ((dy (x0, y0, x1, y1, f, c)).2.1)), .int .i64 (mkV (cW (x0, y0, x1, y1, f, c)) ((dy (x0, y0, x1, y1, f, c)).2.2.1)), .int .i64 (mkV (cW (x0, y0, x1, y1, f, c)) ((dy (x0, y0, x1, y1, f, c)).2.2.2.1)), .int .i64 (mkV (cW (x0, y0, x1, y1, f, c)) ((dy (x0, y0, x1, y1, f, c)).2.2.2.2.1)), .int .i64 (mkV (cW (x0, y0, x1, y1, f, c)) ((dy (x0, y0, x1, y1, f, c)).2.2.2.2.2))], .bool (cW (x0, y0, x1, y1, f, c))] ∧ H' = H) := by
 have hbb := bO.1 hb
 have haa := bm.1 hbb.2.2
 have et1 : Int.tdiv (x1 - x0 + 1) 2 = (x1 - x0 + 1) / 2 := Int.tdiv_eq_ediv_of_nonneg (by omega)
 have et2 : Int.tdiv (y1 - y0 + 1) 2 = (y1 - y0 + 1) / 2 := Int.tdiv_eq_ediv_of_nonneg (by omega)
 have et3 : Int.tdiv c 2 = c / 2 := Int.tdiv_eq_ediv_of_nonneg (by omega)
 have et4 : Int.tmod (f + c / 2) 256 = (f + c / 2) % 256 := Int.tmod_eq_emod_of_nonneg (by omega)
 (refine bF Tryz.func76 _ rfl (Nat.le_of_ble_eq_true (by kernel_rfl)) rfl ?_; intro hbel Q hQ hQ' c hc; unfold Tryz.f76 at hc; simp only [Option.some.injEq] at hc; subst hc; clear hQ')
 refine aN fun Q1 hn1 hr1 he1 => ?_
 have hQ1 := fun F H' h => hr1 F H' (hQ F H' h)
 refine aI true try_mixed (by kernel_rfl) ?_
 have g'5 := (jn @et1 (jn @et2 (jn @et3 @et4)))
 refine aa g'5 ?_
 refine hn1 _ _ ?_
 refine aN fun Q2 hn2 hr2 he2 => ?_
 have hQ2 := fun F H' h => hr2 F H' (hQ F H' h)
 refine aI true try_mixed (by kernel_rfl) ?_
 refine aa g'5 ?_
 refine af (by kernel_rfl) (vol_c _ x0 y0 x1 y1 f c) ?_
 refine aa g'5 ?_
 refine ak (fun h1 => ?_) (fun h1 => ?_)
 ·have h1d := bsT h1
  have hfinV : cW (x0, y0, x1, y1, f, c) = false := by unfold cW; rw [decide_eq_true h1d]; rfl
  have g'6 := (jn @h1 (jn @h1d g'5))
  refine aa g'6 ?_
  exact hQ2 _ _ (ae (.inl rfl) hbel (x := .tup [.agg [.int .i64 0, .int .i64 0, .int .i64 0, .int .i64 0, .int .i64 0, .int .i64 0], .agg [.int .i64 0, .int .i64 0, .int .i64 0, .int .i64 0, .int .i64 0, .int .i64 0], .bool false]) (ai Tryz.results76) rfl ⟨by first | (rw [hfinV]; done) | (rw [hfinV]; rfl) | (rw [hfinV, hfinX, hfinY]; rfl), rfl⟩)
 ·have h1d := bsT h1
  have hfinV : cW (x0, y0, x1, y1, f, c) = true := by unfold cW; rw [decide_eq_false (by omega)]; rfl
  have g'7 := (jn @h1 (jn @h1d g'5))
  refine aa g'7 ?_
  refine hn2 _ _ ?_
  refine aN fun Q3 hn3 hr3 he3 => ?_
  have hQ3 := fun F H' h => hr3 F H' (hQ F H' h)
  refine aI true try_mixed (by kernel_rfl) ?_
  refine aa g'7 ?_
  refine hn3 _ _ ?_
  refine aN fun Q4 hn4 hr4 he4 => ?_
  have hQ4 := fun F H' h => hr4 F H' (hQ F H' h)
  refine aI true try_mixed (by kernel_rfl) ?_
  refine aa g'7 ?_
  refine hn4 _ _ ?_
  refine aN fun Q5 hn5 hr5 he5 => ?_
  have hQ5 := fun F H' h => hr5 F H' (hQ F H' h)
  refine aI true try_mixed (by kernel_rfl) ?_
  refine aa g'7 ?_
  refine aB (by kernel_rfl) (spl1_c _ ((x1 - x0) + 1) 1 (by omega) (by omega)) ?_
  refine aa g'7 ?_
  refine aB (by kernel_rfl) (spl1_c _ ((y1 - y0) + 1) 1 (by omega) (by omega)) ?_
  refine aa g'7 ?_
  refine aB (by kernel_rfl) (spl1_c _ c 8 (by omega) (by omega)) ?_
  refine aa g'7 ?_
  refine hn5 _ _ ?_
  refine cd true try_mixed [[0, 1, 2, 3, 4, 5], [0, 2, 3, 4, 1, 5], [0, 1, 3, 2, 4, 5], [0, 3, 2, 4, 1, 5]] (by kernel_rfl) (fun F2 H2 => F2 = [(1, .ptr (some (H.length, 0))), (2, .ptr (some (H.length + 1, 0))), (3, .ptr (some (H.length + 2, 0))), (4, .bool false), (6, .int .i64 ((x1 - x0) + 1)), (7, .int .i64 ((y1 - y0) + 1)), (8, .int .i64 (c9 ((x1 - x0) + 1) 1)), (9, .int .i64 (c9 ((y1 - y0) + 1) 1)), (10, .int .i64 (c9 c 8)), (11, .ptr (some (H.length + 3, 0))), (12, .ptr (some (H.length + 4, 0)))] ∧ H2 = H ++ [.cells true 0 [.int .i64 x0, .int .i64 y0, .int .i64 x1, .int .i64 y1, .int .i64 f, .int .i64 c], .cells true 0 [.int .i64 0, .int .i64 0, .int .i64 0, .int .i64 0, .int .i64 0, .int .i64 0], .cells true 0 [.int .i64 0, .int .i64 0, .int .i64 0, .int .i64 0, .int .i64 0, .int .i64 0], .cells true 0 [.int .i64 x0, .int .i64 y0, .int .i64 x1, .int .i64 y1, .int .i64 f, .int .i64 c], .cells true 0 [.int .i64 x0, .int .i64 y0, .int .i64 x1, .int .i64 y1, .int .i64 f, .int .i64 c]]) ?_ ?_
  ·refine aC ?_ (aC ?_ (aC ?_ (aC ?_ (ce)))) <;> intro J hJ
   ·skip
    refine aw g'7 ?_
    refine aS (hJ _ _ ⟨_, _, _, ⟨rfl, rfl⟩, Abs.byG hbel [] rfl [0, 1, 2, 3, 4] (by decide) ?_⟩)
    exact aW
   ·skip
    refine aw g'7 ?_
    refine aS (hJ _ _ ⟨_, _, _, ⟨rfl, rfl⟩, Abs.byG hbel [] rfl [0, 1, 2, 3, 4] (by decide) ?_⟩)
    exact aW
   ·skip
    refine aw g'7 ?_
    refine aS (hJ _ _ ⟨_, _, _, ⟨rfl, rfl⟩, Abs.byG hbel [] rfl [0, 1, 2, 4, 3] (by decide) ?_⟩)
    exact aW
   ·skip
    refine aw g'7 ?_
    refine aS (hJ _ _ ⟨_, _, _, ⟨rfl, rfl⟩, Abs.byG hbel [] rfl [0, 1, 2, 4, 3] (by decide) ?_⟩)
    exact aW
  rintro F2 H2 ⟨rfl, rfl⟩
  refine aN fun Q6 hn6 hr6 he6 => ?_
  have hQ6 := fun F H' h => hr6 F H' (hQ F H' h)
  refine eP fun Q7 hn7 hr7 he7 hb7 => ?_
  have hQ7 := fun F H' h => hr7 F H' (hQ6 F H' h)
  refine aN fun Q8 hn8 hr8 he8 => ?_
  have hQ8 := fun F H' h => hr8 F H' (hQ7 F H' h)
  refine aI true try_mixed (by kernel_rfl) ?_
  refine aa g'7 ?_
  refine al (fun h2 => ?_) (fun h2 => ?_)
  ·have h2d := bsT h2
   have hc1 : fN (x0, y0, x1, y1, f, c) ≤ fw (x0, y0, x1, y1, f, c) := h2d
   have g'8 := (jn @h2 (jn @h2d g'7))
   refine aa g'8 ?_
   refine hn8 _ _ ?_
   refine f0 (decide ((c9 c 8) ≤ (c9 ((x1 - x0) + 1) 1))) (by rfl) (fun h3 => ?_) (fun h3 => ?_)
   ·have h3d := bsT h3
    have hfinX : dx (x0, y0, x1, y1, f, c) = (x0, y0, x0 + ((x1 - x0) + 1) / 2 - 1, y1, f, c) := if_pos ⟨hc1, h3d⟩
    have hfinY : dy (x0, y0, x1, y1, f, c) = (x0 + ((x1 - x0) + 1) / 2, y0, x1, y1, f, c) := if_pos ⟨hc1, h3d⟩
    refine aI true try_mixed (by kernel_rfl) ?_
    have g'9 := (jn @h3 (jn @h3d g'8))
    refine aa g'9 ?_
    refine hn7 _ _ ?_
    refine hn6 _ _ ?_
    refine cd true try_mixed [[0, 1, 2, 3, 4], [0, 2, 1, 3, 4]] (by kernel_rfl) (fun F2 H2 => F2 = [(2, .ptr (some (H.length, 0))), (3, .ptr (some (H.length + 1, 0))), (4, .bool true)] ∧ H2 = H ++ [.cells true 0 [.int .i64 x0, .int .i64 y0, .int .i64 ((x0 + (((x1 - x0) + 1) / 2)) - 1), .int .i64 y1, .int .i64 f, .int .i64 c], .cells true 0 [.int .i64 (x0 + (((x1 - x0) + 1) / 2)), .int .i64 y0, .int .i64 x1, .int .i64 y1, .int .i64 f, .int .i64 c]]) ?_ ?_
    ·refine aC ?_ (aC ?_ (ce)) <;> intro J hJ
     ·skip
      refine aw g'9 ?_
      refine aS (hJ _ _ ⟨_, _, _, ⟨rfl, rfl⟩, Abs.byG hbel [] rfl [1, 2] (by decide) ?_⟩)
      exact aW
     ·skip
      refine aw g'9 ?_
      refine aS (hJ _ _ ⟨_, _, _, ⟨rfl, rfl⟩, Abs.byG hbel [] rfl [1, 2] (by decide) ?_⟩)
      exact aW
    rintro F2 H2 ⟨rfl, rfl⟩
    refine aI true try_mixed (by kernel_rfl) ?_
    refine aa g'9 ?_
    exact hQ _ _ (ae (.inl rfl) hbel (x := .tup [.agg [.int .i64 x0, .int .i64 y0, .int .i64 ((x0 + (((x1 - x0) + 1) / 2)) - 1), .int .i64 y1, .int .i64 f, .int .i64 c], .agg [.int .i64 (x0 + (((x1 - x0) + 1) / 2)), .int .i64 y0, .int .i64 x1, .int .i64 y1, .int .i64 f, .int .i64 c], .bool true]) (ai Tryz.results76) rfl ⟨by first | (rw [hfinV]; done) | (rw [hfinV]; rfl) | (rw [hfinV, hfinX, hfinY]; rfl), rfl⟩)
   ·have h3d := bsT h3
    have hc2 : ¬ splC (x0, y0, x1, y1, f, c) ≤ fw (x0, y0, x1, y1, f, c) := by have q := h3d; exact Int.not_le.2 (by first | exact q | exact Int.not_le.1 q)
    have hn1 : ¬ (fN (x0, y0, x1, y1, f, c) ≤ fw (x0, y0, x1, y1, f, c) ∧ splC (x0, y0, x1, y1, f, c) ≤ fw (x0, y0, x1, y1, f, c)) := fun q => hc2 q.2
    refine aN fun Q9 hn9 hr9 he9 => ?_
    have hQ9 := fun F H' h => hr9 F H' (hQ7 F H' h)
    refine aI true try_mixed (by kernel_rfl) ?_
    have g'10 := (jn @h3 (jn @h3d g'8))
    refine aa g'10 ?_
    refine hn9 _ _ ?_
    refine f0 (decide ((c9 c 8) ≤ (c9 ((y1 - y0) + 1) 1))) (by rfl) (fun h4 => ?_) (fun h4 => ?_)
    ·have h4d := bsT h4
     exact (hc2 (Int.le_trans h4d hc1)).elim
    ·have h4d := bsT h4
     have hc3 : ¬ splC (x0, y0, x1, y1, f, c) ≤ fN (x0, y0, x1, y1, f, c) := by have q := h4d; exact Int.not_le.2 (by first | exact q | exact Int.not_le.1 q)
     have hfinX : dx (x0, y0, x1, y1, f, c) = (x0, y0, x1, y1, f, c / 2) := (if_neg hn1).trans (if_neg hc3)
     have hfinY : dy (x0, y0, x1, y1, f, c) = (x0, y0, x1, y1, (f + c / 2) % 256, c - c / 2) := (if_neg hn1).trans (if_neg hc3)
     refine aN fun Q10 hn10 hr10 he10 => ?_
     have hQ10 := fun F H' h => hr10 F H' (hQ7 F H' h)
     refine aI true try_mixed (by kernel_rfl) ?_
     have g'11 := (jn @h4 (jn @h4d g'10))
     refine aa g'11 ?_
     refine hn10 _ _ ?_
     refine aN fun Q11 hn11 hr11 he11 => ?_
     have hQ11 := fun F H' h => hr11 F H' (hQ7 F H' h)
     refine aI true try_mixed (by kernel_rfl) ?_
     refine aa g'11 ?_
     refine hn11 _ _ ?_
     refine jY true try_mixed [[0, 1, 2, 3, 4, 5, 6, 7, 8, 9, 10, 11, 12], [0, 1, 2, 3, 4, 5, 7, 9, 10, 6, 8, 11, 12]] (by kernel_rfl) (fun F2 H2 => F2 = [(2, .ptr (some (H.length, 0))), (3, .ptr (some (H.length + 1, 0))), (11, .ptr (some (H.length + 2, 0))), (12, .ptr (some (H.length + 3, 0)))] ∧ H2 = H ++ [.cells true 0 [.int .i64 0, .int .i64 0, .int .i64 0, .int .i64 0, .int .i64 0, .int .i64 0], .cells true 0 [.int .i64 0, .int .i64 0, .int .i64 0, .int .i64 0, .int .i64 0, .int .i64 0], .cells true 0 [.int .i64 x0, .int .i64 y0, .int .i64 x1, .int .i64 y1, .int .i64 f, .int .i64 (c / 2)], .cells true 0 [.int .i64 x0, .int .i64 y0, .int .i64 x1, .int .i64 y1, .int .i64 ((f + (c / 2)) % 256), .int .i64 (c - (c / 2))]]) ?_ ?_
     ·refine aC ?_ (aC ?_ (ce)) <;> intro J hJ
      ·skip
       refine aw g'11 ?_
       refine aS (hJ _ _ ⟨_, _, _, ⟨rfl, rfl⟩, Abs.byG hbel [] rfl [1, 2, 3, 4] (by decide) ?_⟩)
       exact aW
      ·skip
       refine aw g'11 ?_
       refine aS (hJ _ _ ⟨_, _, _, ⟨rfl, rfl⟩, Abs.byG hbel [] rfl [1, 2, 3, 4] (by decide) ?_⟩)
       exact aW
     rintro F2 H2 ⟨rfl, rfl⟩
     refine hn7 _ _ ?_
     refine hn6 _ _ ?_
     refine cd true try_mixed [[0, 1, 2, 3, 4], [0, 2, 1, 3, 4]] (by kernel_rfl) (fun F2 H2 => F2 = [(2, .ptr (some (H.length, 0))), (3, .ptr (some (H.length + 1, 0))), (4, .bool true)] ∧ H2 = H ++ [.cells true 0 [.int .i64 x0, .int .i64 y0, .int .i64 x1, .int .i64 y1, .int .i64 f, .int .i64 (c / 2)], .cells true 0 [.int .i64 x0, .int .i64 y0, .int .i64 x1, .int .i64 y1, .int .i64 ((f + (c / 2)) % 256), .int .i64 (c - (c / 2))]]) ?_ ?_
     ·refine aC ?_ (aC ?_ (ce)) <;> intro J hJ
      ·skip
       refine aw g'11 ?_
       refine aS (hJ _ _ ⟨_, _, _, ⟨rfl, rfl⟩, Abs.byG hbel [] rfl [0, 1] (by decide) ?_⟩)
       exact aW
      ·skip
       refine aw g'11 ?_
       refine aS (hJ _ _ ⟨_, _, _, ⟨rfl, rfl⟩, Abs.byG hbel [] rfl [0, 1] (by decide) ?_⟩)
       exact aW
     rintro F2 H2 ⟨rfl, rfl⟩
     refine aI true try_mixed (by kernel_rfl) ?_
     refine aa g'11 ?_
     exact hQ _ _ (ae (.inl rfl) hbel (x := .tup [.agg [.int .i64 x0, .int .i64 y0, .int .i64 x1, .int .i64 y1, .int .i64 f, .int .i64 (c / 2)], .agg [.int .i64 x0, .int .i64 y0, .int .i64 x1, .int .i64 y1, .int .i64 ((f + (c / 2)) % 256), .int .i64 (c - (c / 2))], .bool true]) (ai Tryz.results76) rfl ⟨by first | (rw [hfinV]; done) | (rw [hfinV]; rfl) | (rw [hfinV, hfinX, hfinY]; rfl), rfl⟩)
  ·have h2d := bsT h2
   have hc1 : ¬ fN (x0, y0, x1, y1, f, c) ≤ fw (x0, y0, x1, y1, f, c) := by have q := h2d; exact Int.not_le.2 (by first | exact q | exact Int.not_le.1 q)
   have hn1 : ¬ (fN (x0, y0, x1, y1, f, c) ≤ fw (x0, y0, x1, y1, f, c) ∧ splC (x0, y0, x1, y1, f, c) ≤ fw (x0, y0, x1, y1, f, c)) := fun q => hc1 q.1
   have g'12 := (jn @h2 (jn @h2d g'7))
   refine aa g'12 ?_
   refine hn8 _ _ ?_
   refine f0 false (by rfl) (fun h => by cases h) (fun h => ?_)
   refine aN fun Q12 hn12 hr12 he12 => ?_
   have hQ12 := fun F H' h => hr12 F H' (hQ7 F H' h)
   refine aI true try_mixed (by kernel_rfl) ?_
   refine aa g'12 ?_
   refine hn12 _ _ ?_
   refine f0 (decide ((c9 c 8) ≤ (c9 ((y1 - y0) + 1) 1))) (by rfl) (fun h5 => ?_) (fun h5 => ?_)
   ·have h5d := bsT h5
    have hfinX : dx (x0, y0, x1, y1, f, c) = (x0, y0, x1, y0 + ((y1 - y0) + 1) / 2 - 1, f, c) := (if_neg hn1).trans (if_pos h5d)
    have hfinY : dy (x0, y0, x1, y1, f, c) = (x0, y0 + ((y1 - y0) + 1) / 2, x1, y1, f, c) := (if_neg hn1).trans (if_pos h5d)
    refine aI true try_mixed (by kernel_rfl) ?_
    have g'13 := (jn @h5 (jn @h5d g'12))
    refine aa g'13 ?_
    refine hn7 _ _ ?_
    refine hn6 _ _ ?_
    refine cd true try_mixed [[0, 1, 2, 3, 4], [0, 2, 1, 3, 4]] (by kernel_rfl) (fun F2 H2 => F2 = [(2, .ptr (some (H.length, 0))), (3, .ptr (some (H.length + 1, 0))), (4, .bool true)] ∧ H2 = H ++ [.cells true 0 [.int .i64 x0, .int .i64 y0, .int .i64 x1, .int .i64 ((y0 + (((y1 - y0) + 1) / 2)) - 1), .int .i64 f, .int .i64 c], .cells true 0 [.int .i64 x0, .int .i64 (y0 + (((y1 - y0) + 1) / 2)), .int .i64 x1, .int .i64 y1, .int .i64 f, .int .i64 c]]) ?_ ?_
    ·refine aC ?_ (aC ?_ (ce)) <;> intro J hJ
     ·skip
      refine aw g'13 ?_
      refine aS (hJ _ _ ⟨_, _, _, ⟨rfl, rfl⟩, Abs.byG hbel [] rfl [1, 2] (by decide) ?_⟩)
      exact aW
     ·skip
      refine aw g'13 ?_
      refine aS (hJ _ _ ⟨_, _, _, ⟨rfl, rfl⟩, Abs.byG hbel [] rfl [1, 2] (by decide) ?_⟩)
      exact aW
    rintro F2 H2 ⟨rfl, rfl⟩
    refine aI true try_mixed (by kernel_rfl) ?_
    refine aa g'13 ?_
    exact hQ _ _ (ae (.inl rfl) hbel (x := .tup [.agg [.int .i64 x0, .int .i64 y0, .int .i64 x1, .int .i64 ((y0 + (((y1 - y0) + 1) / 2)) - 1), .int .i64 f, .int .i64 c], .agg [.int .i64 x0, .int .i64 (y0 + (((y1 - y0) + 1) / 2)), .int .i64 x1, .int .i64 y1, .int .i64 f, .int .i64 c], .bool true]) (ai Tryz.results76) rfl ⟨by first | (rw [hfinV]; done) | (rw [hfinV]; rfl) | (rw [hfinV, hfinX, hfinY]; rfl), rfl⟩)
   ·have h5d := bsT h5
    have hc3 : ¬ splC (x0, y0, x1, y1, f, c) ≤ fN (x0, y0, x1, y1, f, c) := by have q := h5d; exact Int.not_le.2 (by first | exact q | exact Int.not_le.1 q)
    have hfinX : dx (x0, y0, x1, y1, f, c) = (x0, y0, x1, y1, f, c / 2) := (if_neg hn1).trans (if_neg hc3)
    have hfinY : dy (x0, y0, x1, y1, f, c) = (x0, y0, x1, y1, (f + c / 2) % 256, c - c / 2) := (if_neg hn1).trans (if_neg hc3)
    refine aN fun Q13 hn13 hr13 he13 => ?_
    have hQ13 := fun F H' h => hr13 F H' (hQ7 F H' h)
    refine aI true try_mixed (by kernel_rfl) ?_
    have g'14 := (jn @h5 (jn @h5d g'12))
    refine aa g'14 ?_
    refine hn13 _ _ ?_
    refine aN fun Q14 hn14 hr14 he14 => ?_
    have hQ14 := fun F H' h => hr14 F H' (hQ7 F H' h)
    refine aI true try_mixed (by kernel_rfl) ?_
    refine aa g'14 ?_
    refine hn14 _ _ ?_
    refine jY true try_mixed [[0, 1, 2, 3, 4, 5, 6, 7, 8, 9, 10, 11, 12], [0, 1, 2, 3, 4, 5, 7, 9, 10, 6, 8, 11, 12]] (by kernel_rfl) (fun F2 H2 => F2 = [(2, .ptr (some (H.length, 0))), (3, .ptr (some (H.length + 1, 0))), (11, .ptr (some (H.length + 2, 0))), (12, .ptr (some (H.length + 3, 0)))] ∧ H2 = H ++ [.cells true 0 [.int .i64 0, .int .i64 0, .int .i64 0, .int .i64 0, .int .i64 0, .int .i64 0], .cells true 0 [.int .i64 0, .int .i64 0, .int .i64 0, .int .i64 0, .int .i64 0, .int .i64 0], .cells true 0 [.int .i64 x0, .int .i64 y0, .int .i64 x1, .int .i64 y1, .int .i64 f, .int .i64 (c / 2)], .cells true 0 [.int .i64 x0, .int .i64 y0, .int .i64 x1, .int .i64 y1, .int .i64 ((f + (c / 2)) % 256), .int .i64 (c - (c / 2))]]) ?_ ?_
    ·refine aC ?_ (aC ?_ (ce)) <;> intro J hJ
     ·skip
      refine aw g'14 ?_
      refine aS (hJ _ _ ⟨_, _, _, ⟨rfl, rfl⟩, Abs.byG hbel [] rfl [1, 2, 3, 4] (by decide) ?_⟩)
      exact aW
     ·skip
      refine aw g'14 ?_
      refine aS (hJ _ _ ⟨_, _, _, ⟨rfl, rfl⟩, Abs.byG hbel [] rfl [1, 2, 3, 4] (by decide) ?_⟩)
      exact aW
    rintro F2 H2 ⟨rfl, rfl⟩
    refine hn7 _ _ ?_
    refine hn6 _ _ ?_
    refine cd true try_mixed [[0, 1, 2, 3, 4], [0, 2, 1, 3, 4]] (by kernel_rfl) (fun F2 H2 => F2 = [(2, .ptr (some (H.length, 0))), (3, .ptr (some (H.length + 1, 0))), (4, .bool true)] ∧ H2 = H ++ [.cells true 0 [.int .i64 x0, .int .i64 y0, .int .i64 x1, .int .i64 y1, .int .i64 f, .int .i64 (c / 2)], .cells true 0 [.int .i64 x0, .int .i64 y0, .int .i64 x1, .int .i64 y1, .int .i64 ((f + (c / 2)) % 256), .int .i64 (c - (c / 2))]]) ?_ ?_
    ·refine aC ?_ (aC ?_ (ce)) <;> intro J hJ
     ·skip
      refine aw g'14 ?_
      refine aS (hJ _ _ ⟨_, _, _, ⟨rfl, rfl⟩, Abs.byG hbel [] rfl [0, 1] (by decide) ?_⟩)
      exact aW
     ·skip
      refine aw g'14 ?_
      refine aS (hJ _ _ ⟨_, _, _, ⟨rfl, rfl⟩, Abs.byG hbel [] rfl [0, 1] (by decide) ?_⟩)
      exact aW
    rintro F2 H2 ⟨rfl, rfl⟩
    refine aI true try_mixed (by kernel_rfl) ?_
    refine aa g'14 ?_
    exact hQ _ _ (ae (.inl rfl) hbel (x := .tup [.agg [.int .i64 x0, .int .i64 y0, .int .i64 x1, .int .i64 y1, .int .i64 f, .int .i64 (c / 2)], .agg [.int .i64 x0, .int .i64 y0, .int .i64 x1, .int .i64 y1, .int .i64 ((f + (c / 2)) % 256), .int .i64 (c - (c / 2))], .bool true]) (ai Tryz.results76) rfl ⟨by first | (rw [hfinV]; done) | (rw [hfinV]; rfl) | (rw [hfinV, hfinX, hfinY]; rfl), rfl⟩)
theorem split_t (H : ac) (b : T6) (hb : bJ b = true) (h : cW b = true) : ACalls Tryz.prog 76 [.agg [.int .i64 b.1, .int .i64 b.2.1, .int .i64 b.2.2.1, .int .i64 b.2.2.2.1, .int .i64 b.2.2.2.2.1, .int .i64 b.2.2.2.2.2]] H (fun v H' => v = .tup [.agg [.int .i64 (dx b).1, .int .i64 (dx b).2.1, .int .i64 (dx b).2.2.1, .int .i64 (dx b).2.2.2.1, .int .i64 (dx b).2.2.2.2.1, .int .i64 (dx b).2.2.2.2.2], .agg [.int .i64 (dy b).1, .int .i64 (dy b).2.1, .int .i64 (dy b).2.2.1, .int .i64 (dy b).2.2.2.1, .int .i64 (dy b).2.2.2.2.1, .int .i64 (dy b).2.2.2.2.2], .bool true] ∧ H' = H) := by
 have q := split_c H b.1 b.2.1 b.2.2.1 b.2.2.2.1 b.2.2.2.2.1 b.2.2.2.2.2 hb
 have e : cW (b.1, b.2.1, b.2.2.1, b.2.2.2.1, b.2.2.2.2.1, b.2.2.2.2.2) = true := h
 simp only [e, mkV_t] at q; exact q
theorem split_f (H : ac) (b : T6) (hb : bJ b = true) (h : cW b = false) : ACalls Tryz.prog 76 [.agg [.int .i64 b.1, .int .i64 b.2.1, .int .i64 b.2.2.1, .int .i64 b.2.2.2.1, .int .i64 b.2.2.2.2.1, .int .i64 b.2.2.2.2.2]] H (fun v H' => v = .tup [.agg [.int .i64 0, .int .i64 0, .int .i64 0, .int .i64 0, .int .i64 0, .int .i64 0], .agg [.int .i64 0, .int .i64 0, .int .i64 0, .int .i64 0, .int .i64 0, .int .i64 0], .bool false] ∧ H' = H) := by
 have q := split_c H b.1 b.2.1 b.2.2.1 b.2.2.2.1 b.2.2.2.2.1 b.2.2.2.2.2 hb
 have e : cW (b.1, b.2.1, b.2.2.1, b.2.2.2.1, b.2.2.2.2.1, b.2.2.2.2.2) = false := h
 simp only [e, mkV_f] at q; exact q
theorem cmp1_c (H : ac) (x0 : Int) (y0 : Int) (x1 : Int) (y1 : Int) (f : Int) (c : Int) : ACalls Tryz.prog 77 [.agg [.int .i64 x0, .int .i64 y0, .int .i64 x1, .int .i64 y1, .int .i64 f, .int .i64 c]] H (fun v H' => v = .bool (!(bxB x0 y0 x1 y1 f c)) ∧ H' = H) := by
 refine AcT true Tryz.func77 ?_; intro hbel Q hQ
 refine aQ ?_
 refine af (by kernel_rfl) (eE _ x0 y0 x1 y1 f c) ?_
 refine aQ ?_
 exact hQ _ _ (ae (.inl rfl) hbel (x := .bool (!(bxB x0 y0 x1 y1 f c))) (ai Tryz.results77) rfl ⟨rfl, rfl⟩)
open Go.RowKit
def ix (n : Int) : Bool := decide (n < -2097152) || decide (2097152 < n)
def mvO (x0 y0 x1 y1 a b c d : Int) : Bool := !([x0 + a, x1 + b, y0 + c, y1 + d].any offB)
def mvE (x0 y0 x1 y1 a b c d : Int) : Int := if mvO x0 y0 x1 y1 a b c d = true then 0 else 2
theorem lG {n : Int} (h : -64 ≤ n ∧ n ≤ 64) : ix n = false := by unfold ix; rw [decide_eq_false (by omega), decide_eq_false (by omega)]; rfl
theorem off2_4 {a b c d : Int} (h1 : -64 ≤ a ∧ a ≤ 64) (h2 : -64 ≤ b ∧ b ≤ 64) (h3 : -64 ≤ c ∧ c ≤ 64) (h4 : -64 ≤ d ∧ d ≤ 64) : [a, b, c, d].any ix = false := by
 simp only [List.any_cons, List.any_nil, lG h1, lG h2, lG h3, lG h4]; rfl
theorem drch_c (H : ac) (t : Int) (f : Int) (tu : Int) (le : Int) (sl : Int) (ra : Int) (h : Int) (hC : dt t f = true) (hB : cu tu le sl ra = true) (hh : 0 ≤ h ∧ h ≤ 255) : ACalls Tryz.prog 150 [.agg [.int .i64 t, .int .i64 f], .agg [.int .i64 tu, .int .i64 le, .int .i64 sl, .int .i64 ra], .int .i64 h] H (fun v H' => v = .tup [.agg [.int .i64 ((rqR f le sl h).1), .int .i64 ((rqR f le sl h).2.1), .int .i64 ((rqR f le sl h).2.2.1), .int .i64 ((rqR f le sl h).2.2.2)], .int .i64 0] ∧ H' = H) := by
 have hCi := hC
 simp only [dt, Bool.and_eq_true, bN] at hCi
 have hBi := hB
 simp only [cu, Bool.and_eq_true, bN] at hBi
 have hbt : btw h 0 255 = true := bN.2 hh
 have m1 : 0 ≤ mxI (f - le) 0 ∧ mxI (f - le) 0 ≤ 48 := by unfold mxI; split <;> omega
 have m2 : 0 ≤ mxI (f + le) 0 ∧ mxI (f + le) 0 ≤ 48 := by unfold mxI; split <;> omega
 have w1 := lz h m1.1
 have w2 := lz h m2.1
 have n1 := fD (a := cS h (mxI (f - le) 0)) (b := cS h (mxI (f + le) 0))
 have n2 := fD (a := cT h (mxI (f - le) 0)) (b := cT h (mxI (f + le) 0))
 have n3 := fE (a := cS h (mxI (f - le) 0)) (b := cS h (mxI (f + le) 0))
 have n4 := fE (a := cT h (mxI (f - le) 0)) (b := cT h (mxI (f + le) 0))
 have e1 : (if (cS h (mxI (f + le) 0)) < (cS h (mxI (f - le) 0)) then (cS h (mxI (f + le) 0)) else (cS h (mxI (f - le) 0))) = mnI (cS h (mxI (f - le) 0)) (cS h (mxI (f + le) 0)) := rfl
 have e2 : (if (cT h (mxI (f + le) 0)) < (cT h (mxI (f - le) 0)) then (cT h (mxI (f + le) 0)) else (cT h (mxI (f - le) 0))) = mnI (cT h (mxI (f - le) 0)) (cT h (mxI (f + le) 0)) := rfl
 have e3 : (if (cS h (mxI (f - le) 0)) < (cS h (mxI (f + le) 0)) then (cS h (mxI (f + le) 0)) else (cS h (mxI (f - le) 0))) = mxI (cS h (mxI (f - le) 0)) (cS h (mxI (f + le) 0)) := rfl
 have e4 : (if (cT h (mxI (f - le) 0)) < (cT h (mxI (f + le) 0)) then (cT h (mxI (f + le) 0)) else (cT h (mxI (f - le) 0))) = mxI (cT h (mxI (f - le) 0)) (cT h (mxI (f + le) 0)) := rfl
 (refine bF Tryz.func150 _ rfl (Nat.le_of_ble_eq_true (by kernel_rfl)) rfl ?_; intro hbel Q hQ hQ' c hc; unfold Tryz.f150 at hc; simp only [Option.some.injEq] at hc; subst hc; clear hQ')
 refine aN fun Q1 hn1 hr1 he1 => ?_
 have hQ1 := fun F H' h => hr1 F H' (hQ F H' h)
 refine aI true try_mixed (by kernel_rfl) ?_
 have g'1 := (jn @hC (jn @hB (jn @hbt (jn @e1 (jn @e2 (jn @e3 @e4))))))
 refine aa g'1 ?_
 refine hn1 _ _ ?_
 refine aN fun Q2 hn2 hr2 he2 => ?_
 have hQ2 := fun F H' h => hr2 F H' (hQ F H' h)
 refine aI true try_mixed (by kernel_rfl) ?_
 refine aa g'1 ?_
 refine af (by kernel_rfl) (i9 _ t f) ?_
 refine aa g'1 ?_
 refine af (by kernel_rfl) (ja _ tu le sl ra) ?_
 refine aa g'1 ?_
 refine hn2 _ _ ?_
 refine aN fun Q3 hn3 hr3 he3 => ?_
 have hQ3 := fun F H' h => hr3 F H' (hQ F H' h)
 refine aI true try_mixed (by kernel_rfl) ?_
 refine aa g'1 ?_
 refine af (by kernel_rfl) (dQ _ h 0 255) ?_
 refine aa g'1 ?_
 refine hn3 _ _ ?_
 refine aN fun Q4 hn4 hr4 he4 => ?_
 have hQ4 := fun F H' h => hr4 F H' (hQ F H' h)
 refine aI true try_mixed (by kernel_rfl) ?_
 refine aa g'1 ?_
 refine ak (fun h1 => ?_) (fun h1 => ?_)
 ·have h1d := bsT h1
  have hfinZ : rqR f le sl h = (0, 0, 0, 0) := if_pos h1d
  have g'2 := (jn @h1 (jn @h1d (jn @bg (jn @be g'1))))
  refine aa g'2 ?_
  exact hQ4 _ _ (ae (.inl rfl) hbel (x := .tup [.agg [.int .i64 0, .int .i64 0, .int .i64 0, .int .i64 0], .int .i64 0]) (ai Tryz.results150) rfl ⟨by first | (rw [hfinZ]; done) | (rw [hfinZ]; rfl), rfl⟩)
 ·have h1d := bsT h1
  have hfinZ : rqR f le sl h = (mnI (rqA f le h) (rqB f le h) - sl, mnI (rqC f le h) (rqD f le h) - sl, mxI (rqA f le h) (rqB f le h) + sl, mxI (rqC f le h) (rqD f le h) + sl) := if_neg h1d
  have g'3 := (jn @h1 (jn @h1d (jn @bg (jn @be g'1))))
  refine aa g'3 ?_
  refine hn4 _ _ ?_
  refine cd true try_mixed [[0, 1, 2, 3, 4, 5, 6, 7, 8, 9, 10, 11, 12, 13, 14, 15, 16, 17], [0, 1, 2, 3, 4, 5, 6, 7, 8, 9, 10, 11, 12, 13, 15, 14, 16, 17], [0, 1, 2, 3, 4, 5, 6, 7, 8, 9, 10, 11, 12, 15, 13, 14, 16, 17], [0, 1, 2, 3, 4, 5, 7, 8, 9, 10, 11, 12, 15, 6, 13, 14, 16, 17], [0, 1, 2, 3, 4, 5, 6, 7, 8, 9, 10, 11, 12, 14, 13, 15, 16, 17], [0, 1, 2, 3, 4, 5, 6, 7, 8, 9, 10, 11, 12, 14, 15, 13, 16, 17], [0, 1, 2, 3, 4, 5, 6, 7, 8, 9, 10, 11, 12, 15, 14, 13, 16, 17], [0, 1, 2, 3, 4, 5, 7, 8, 9, 10, 11, 12, 15, 6, 14, 13, 16, 17], [0, 1, 2, 3, 4, 5, 7, 8, 9, 10, 11, 12, 14, 6, 13, 15, 16, 17], [0, 1, 2, 3, 4, 5, 7, 8, 9, 10, 11, 12, 14, 6, 15, 13, 16, 17], [0, 1, 2, 3, 4, 5, 7, 8, 9, 10, 11, 12, 14, 15, 6, 13, 16, 17], [0, 1, 2, 3, 4, 5, 7, 8, 9, 10, 11, 12, 15, 14, 6, 13, 16, 17]] (by kernel_rfl) (fun F2 H2 => F2 = [(4, .ptr (some (H.length, 0))), (6, .ptr (some (H.length + 1, 0))), (7, .int .i64 0), (8, .ptr (some (H.length + 2, 0))), (9, .ptr (some (H.length + 3, 0)))] ∧ H2 = H ++ [.cells true 0 [.int .i64 tu, .int .i64 le, .int .i64 sl, .int .i64 ra], .cells true 0 [.int .i64 0, .int .i64 0, .int .i64 0, .int .i64 0], .cells true 0 [.int .i64 (cS h (mxI (f - le) 0)), .int .i64 (cT h (mxI (f - le) 0))], .cells true 0 [.int .i64 (cS h (mxI (f + le) 0)), .int .i64 (cT h (mxI (f + le) 0))]]) ?_ ?_
  ·refine aC ?_ (aC ?_ (aC ?_ (aC ?_ (aC ?_ (aC ?_ (aC ?_ (aC ?_ (aC ?_ (aC ?_ (aC ?_ (aC ?_ (ce)))))))))))) <;> intro J hJ
   ·skip
    refine aw g'3 ?_
    refine aB (by kernel_rfl) (bT _ h (f - le) (by omega)) ?_
    refine aw g'3 ?_
    refine aB (by kernel_rfl) (bT _ h (f + le) (by omega)) ?_
    refine aw g'3 ?_
    refine aS (hJ _ _ ⟨_, _, _, ⟨rfl, rfl⟩, Abs.byG hbel [] rfl [1, 2, 3, 4] (by decide) ?_⟩)
    exact aW
   ·skip
    refine aw g'3 ?_
    refine aB (by kernel_rfl) (bT _ h (f - le) (by omega)) ?_
    refine aw g'3 ?_
    refine aB (by kernel_rfl) (bT _ h (f + le) (by omega)) ?_
    refine aw g'3 ?_
    refine aS (hJ _ _ ⟨_, _, _, ⟨rfl, rfl⟩, Abs.byG hbel [] rfl [1, 2, 4, 3] (by decide) ?_⟩)
    exact aW
   ·skip
    refine aw g'3 ?_
    refine aB (by kernel_rfl) (bT _ h (f - le) (by omega)) ?_
    refine aw g'3 ?_
    refine aB (by kernel_rfl) (bT _ h (f + le) (by omega)) ?_
    refine aw g'3 ?_
    refine aS (hJ _ _ ⟨_, _, _, ⟨rfl, rfl⟩, Abs.byG hbel [] rfl [1, 2, 4, 3] (by decide) ?_⟩)
    exact aW
   ·skip
    refine aw g'3 ?_
    refine aB (by kernel_rfl) (bT _ h (f - le) (by omega)) ?_
    refine aw g'3 ?_
    refine aB (by kernel_rfl) (bT _ h (f + le) (by omega)) ?_
    refine aw g'3 ?_
    refine aS (hJ _ _ ⟨_, _, _, ⟨rfl, rfl⟩, Abs.byG hbel [] rfl [1, 2, 4, 3] (by decide) ?_⟩)
    exact aW
   ·skip
    refine aw g'3 ?_
    refine aB (by kernel_rfl) (bT _ h (f - le) (by omega)) ?_
    refine aw g'3 ?_
    refine aB (by kernel_rfl) (bT _ h (f + le) (by omega)) ?_
    refine aw g'3 ?_
    refine aS (hJ _ _ ⟨_, _, _, ⟨rfl, rfl⟩, Abs.byG hbel [] rfl [1, 2, 3, 4] (by decide) ?_⟩)
    exact aW
   ·skip
    refine aw g'3 ?_
    refine aB (by kernel_rfl) (bT _ h (f - le) (by omega)) ?_
    refine aw g'3 ?_
    refine aB (by kernel_rfl) (bT _ h (f + le) (by omega)) ?_
    refine aw g'3 ?_
    refine aS (hJ _ _ ⟨_, _, _, ⟨rfl, rfl⟩, Abs.byG hbel [] rfl [1, 2, 3, 4] (by decide) ?_⟩)
    exact aW
   ·skip
    refine aw g'3 ?_
    refine aB (by kernel_rfl) (bT _ h (f - le) (by omega)) ?_
    refine aw g'3 ?_
    refine aB (by kernel_rfl) (bT _ h (f + le) (by omega)) ?_
    refine aw g'3 ?_
    refine aS (hJ _ _ ⟨_, _, _, ⟨rfl, rfl⟩, Abs.byG hbel [] rfl [1, 2, 4, 3] (by decide) ?_⟩)
    exact aW
   ·skip
    refine aw g'3 ?_
    refine aB (by kernel_rfl) (bT _ h (f - le) (by omega)) ?_
    refine aw g'3 ?_
    refine aB (by kernel_rfl) (bT _ h (f + le) (by omega)) ?_
    refine aw g'3 ?_
    refine aS (hJ _ _ ⟨_, _, _, ⟨rfl, rfl⟩, Abs.byG hbel [] rfl [1, 2, 4, 3] (by decide) ?_⟩)
    exact aW
   ·skip
    refine aw g'3 ?_
    refine aB (by kernel_rfl) (bT _ h (f - le) (by omega)) ?_
    refine aw g'3 ?_
    refine aB (by kernel_rfl) (bT _ h (f + le) (by omega)) ?_
    refine aw g'3 ?_
    refine aS (hJ _ _ ⟨_, _, _, ⟨rfl, rfl⟩, Abs.byG hbel [] rfl [1, 2, 3, 4] (by decide) ?_⟩)
    exact aW
   ·skip
    refine aw g'3 ?_
    refine aB (by kernel_rfl) (bT _ h (f - le) (by omega)) ?_
    refine aw g'3 ?_
    refine aB (by kernel_rfl) (bT _ h (f + le) (by omega)) ?_
    refine aw g'3 ?_
    refine aS (hJ _ _ ⟨_, _, _, ⟨rfl, rfl⟩, Abs.byG hbel [] rfl [1, 2, 3, 4] (by decide) ?_⟩)
    exact aW
   ·skip
    refine aw g'3 ?_
    refine aB (by kernel_rfl) (bT _ h (f - le) (by omega)) ?_
    refine aw g'3 ?_
    refine aB (by kernel_rfl) (bT _ h (f + le) (by omega)) ?_
    refine aw g'3 ?_
    refine aS (hJ _ _ ⟨_, _, _, ⟨rfl, rfl⟩, Abs.byG hbel [] rfl [1, 2, 3, 4] (by decide) ?_⟩)
    exact aW
   ·skip
    refine aw g'3 ?_
    refine aB (by kernel_rfl) (bT _ h (f - le) (by omega)) ?_
    refine aw g'3 ?_
    refine aB (by kernel_rfl) (bT _ h (f + le) (by omega)) ?_
    refine aw g'3 ?_
    refine aS (hJ _ _ ⟨_, _, _, ⟨rfl, rfl⟩, Abs.byG hbel [] rfl [1, 2, 4, 3] (by decide) ?_⟩)
    exact aW
  rintro F2 H2 ⟨rfl, rfl⟩
  refine aI true try_mixed (by kernel_rfl) ?_
  refine aa g'3 ?_
  exact hQ _ _ (ae (.inl rfl) hbel (x := .tup [.agg [.int .i64 ((mnI (cS h (mxI (f - le) 0)) (cS h (mxI (f + le) 0))) - sl), .int .i64 ((mnI (cT h (mxI (f - le) 0)) (cT h (mxI (f + le) 0))) - sl), .int .i64 ((mxI (cS h (mxI (f - le) 0)) (cS h (mxI (f + le) 0))) + sl), .int .i64 ((mxI (cT h (mxI (f - le) 0)) (cT h (mxI (f + le) 0))) + sl)], .int .i64 0]) (ai Tryz.results150) rfl ⟨by first | (rw [hfinZ]; done) | (rw [hfinZ]; rfl), rfl⟩)
open Go.RowKit
theorem bmv1_c (H : ac) (n : Int) : ACalls Tryz.prog 188 [.int .i64 n] H (fun v H' => v = .bool (ix n) ∧ H' = H) := by
 refine AcT true Tryz.func188 ?_; intro hbel Q hQ
 refine aQ ?_
 refine al (fun h1 => ?_) (fun h1 => ?_)
 ·have h1d := bsT h1
  have g'1 := (jn @h1 @h1d)
  refine aa g'1 ?_
  exact hQ _ _ (au (.inl rfl) hbel (x := .bool (decide (2097152 < n))) (ai Tryz.results188) rfl ⟨by simp [ix, h1d], rfl⟩)
 ·have h1d := bsT h1
  have g'2 := (jn @h1 @h1d)
  refine aa g'2 ?_
  exact hQ _ _ (au (.inl rfl) hbel (x := .bool true) (ai Tryz.results188) rfl ⟨by simp [ix, h1d], rfl⟩)
theorem bxmv_c (H : ac) (x0 : Int) (y0 : Int) (x1 : Int) (y1 : Int) (f : Int) (c : Int) (p : Int) (q : Int) (r : Int) (s : Int) (hb : bxB x0 y0 x1 y1 f c = true) (hd1 : -64 ≤ p ∧ p ≤ q ∧ q ≤ 64) (hd2 : -64 ≤ r ∧ r ≤ s ∧ s ≤ 64) : ACalls Tryz.prog 149 [.agg [.int .i64 x0, .int .i64 y0, .int .i64 x1, .int .i64 y1, .int .i64 f, .int .i64 c], .int .i64 p, .int .i64 q, .int .i64 r, .int .i64 s] H (fun v H' => v = .tup [.agg [.int .i64 (mkV (mvO x0 y0 x1 y1 p q r s) (x0 + p)), .int .i64 (mkV (mvO x0 y0 x1 y1 p q r s) (y0 + r)), .int .i64 (mkV (mvO x0 y0 x1 y1 p q r s) (x1 + q)), .int .i64 (mkV (mvO x0 y0 x1 y1 p q r s) (y1 + s)), .int .i64 (mkV (mvO x0 y0 x1 y1 p q r s) f), .int .i64 (mkV (mvO x0 y0 x1 y1 p q r s) c)], .int .i64 (mvE x0 y0 x1 y1 p q r s)] ∧ H' = H) := by
 have hbb := bO.1 hb
 have ho2 := off2_4 (a := p) (b := q) (c := r) (d := s) (by omega) (by omega) (by omega) (by omega)
 refine AcT true Tryz.func149 ?_; intro hbel Q hQ
 have g'3 := (jn @hb @ho2)
 refine aa g'3 ?_
 refine af (by kernel_rfl) (eE _ x0 y0 x1 y1 f c) ?_
 refine aa g'3 ?_
 refine al (fun h1 => ?_) (fun h1 => ?_)
 ·have h1d := bsT h1
  have g'4 := (jn @h1 (jn @h1d g'3))
  refine aa g'4 ?_
  refine ak (fun h2 => ?_) (fun h2 => ?_)
  ·have h2d := bsT h2
   omega
  ·have h2d := bsT h2
   have g'5 := (jn @h2 (jn @h2d g'4))
   refine aa g'5 ?_
   refine af (by kernel_rfl) (has_int _ _ [p, q, r, s] ⟨_, _, _, by first | rfl | (rw [List.length_append]; done) | (rw [List.length_append]; rfl), by first | rfl | (rw [aj]; rfl) | (rw [ag]; rfl) | (rw [aj, ah]; rfl) | (rw [ag, ah]; rfl)⟩ (by first | omega | simp) _ [] (by kernel_rfl) rfl ix (fun j hj => bmv1_c _ _)) ?_
   refine aa g'5 ?_
   refine af (by kernel_rfl) (small_c _ _ [x0 + p, x1 + q, y0 + r, y1 + s] ⟨_, _, _, by first | rfl | (rw [List.length_append]; done) | (rw [List.length_append]; rfl), by first | rfl | (rw [aj]; rfl) | (rw [ag]; rfl) | (rw [aj, ah]; rfl) | (rw [ag, ah]; rfl)⟩ (by first | decide | omega | simp)) ?_
   refine aa g'5 ?_
   refine ak (fun h3 => ?_) (fun h3 => ?_)
   ·have h3d := bsT h3
    have hfinO : mvO x0 y0 x1 y1 p q r s = false := by unfold mvO; rw [h3d]; rfl
    have g'6 := (jn @h3 (jn @h3d g'5))
    refine aa g'6 ?_
    exact hQ _ _ (ae (.inl rfl) hbel (x := .tup [.agg [.int .i64 0, .int .i64 0, .int .i64 0, .int .i64 0, .int .i64 0, .int .i64 0], .int .i64 2]) (ai Tryz.results149) rfl ⟨by unfold mvE; rw [hfinO]; rfl, rfl⟩)
   ·have h3d := bsT h3
    have hfinO : mvO x0 y0 x1 y1 p q r s = true := by unfold mvO; rw [h3d]; rfl
    have g'7 := (jn @h3 (jn @h3d g'5))
    refine aa g'7 ?_
    exact hQ _ _ (ae (.inl rfl) hbel (x := .tup [.agg [.int .i64 (x0 + p), .int .i64 (y0 + r), .int .i64 (x1 + q), .int .i64 (y1 + s), .int .i64 f, .int .i64 c], .int .i64 0]) (ai Tryz.results149) rfl ⟨by unfold mvE; rw [hfinO]; rfl, rfl⟩)
 ·have h1d := bsT h1
  omega
open Go.RowKit
theorem parc_c (H : ac) (x0 : Int) (y0 : Int) (x1 : Int) (y1 : Int) (f : Int) (c : Int) : ACalls Tryz.prog 147 [.agg [.int .i64 x0, .int .i64 y0, .int .i64 x1, .int .i64 y1, .int .i64 f, .int .i64 c]] H (fun v H' => v = .agg [.int .i64 f, .int .i64 c] ∧ H' = H) := by
 refine AcT true Tryz.func147 ?_; intro hbel Q hQ
 refine aQ ?_
 exact hQ _ _ (ae (.inl rfl) hbel (x := .agg [.int .i64 f, .int .i64 c]) (ai Tryz.results147) rfl ⟨rfl, rfl⟩)
theorem ptrn_c (H : ac) (x0 : Int) (y0 : Int) (x1 : Int) (y1 : Int) (f : Int) (c : Int) (t : Int) (tu : Int) (ha : bD f c = true) (hu : 0 ≤ tu ∧ tu ≤ 256) : ACalls Tryz.prog 106 [.agg [.int .i64 x0, .int .i64 y0, .int .i64 x1, .int .i64 y1, .int .i64 f, .int .i64 c], .int .i64 t, .int .i64 tu] H (fun v H' => v = .agg [.int .i64 (grF (shF f c t) (cE c) tu), .int .i64 (grC (cE c) tu)] ∧ H' = H) := by
 have ka := bm.1 ha
 have hs2 : bD (shF f c t) (cE c) = true := jx (by omega)
 refine AcT true Tryz.func106 ?_; intro hbel Q hQ
 refine aQ ?_
 refine af (by kernel_rfl) (parc_c _ x0 y0 x1 y1 f c) ?_
 refine aQ ?_
 refine af (by kernel_rfl) (hshift_c _ f c t (by assumption)) ?_
 refine aQ ?_
 refine af (by kernel_rfl) (hgrow_c _ (shF f c t) (cE c) tu (by assumption) (by omega)) ?_
 refine aQ ?_
 exact hQ _ _ (ae (.inl rfl) hbel (x := .agg [.int .i64 (grF (shF f c t) (cE c) tu), .int .i64 (grC (cE c) tu)]) (ai Tryz.results106) rfl ⟨rfl, rfl⟩)
theorem preach_c (H : ac) (t : Int) (g : Int) (tu : Int) (le : Int) (sl : Int) (ra : Int) (bf : Int) (bc : Int) (hC : dt t g = true) (hB : cu tu le sl ra = true) (hA : bD bf bc = true) : ACalls Tryz.prog 108 [.agg [.int .i64 t, .int .i64 g], .agg [.int .i64 tu, .int .i64 le, .int .i64 sl, .int .i64 ra], .agg [.int .i64 bf, .int .i64 bc]] H (fun v H' => v = .agg [.int .i64 ((rcS g le sl (aJ bf bc.toNat) (aJ bf bc.toNat).length).1), .int .i64 ((rcS g le sl (aJ bf bc.toNat) (aJ bf bc.toNat).length).2.1), .int .i64 ((rcS g le sl (aJ bf bc.toNat) (aJ bf bc.toNat).length).2.2.1), .int .i64 ((rcS g le sl (aJ bf bc.toNat) (aJ bf bc.toNat).length).2.2.2)] ∧ H' = H) := by
 have hCi := hC
 simp only [dt, Bool.and_eq_true, bN] at hCi
 have hBi := hB
 simp only [cu, Bool.and_eq_true, bN] at hBi
 have ka := bm.1 hA
 have hln := c7 bf bc.toNat
 refine AcT true Tryz.func108 ?_; intro hbel Q hQ
 refine aQ ?_
 refine af (by kernel_rfl) (l0 _ bf bc hA) ?_
 refine aQ ?_
 refine go_loop try_mixed (by kernel_rfl) (fun k F Hx => ∃ i : Nat, i + k = (aJ bf bc.toNat).length ∧ F = [(3, .ptr (some (H.length, 0))), (4, .ptr (some (H.length + 1, 0))), (6, .ptr (some (H.length + 2, 0))), (7, .ptr (some (H.length + 3, 0))), (13, .sl (some (H.length + 4, 0)) ((aJ bf bc.toNat).length) none), (14, .int .i64 (((aJ bf bc.toNat).length : Nat) : Int)), (15, .int .i64 ((i : Nat) : Int))] ∧ Hx = H ++ [.cells true 0 [.int .i64 t, .int .i64 g], .cells true 0 [.int .i64 tu, .int .i64 le, .int .i64 sl, .int .i64 ra], .cells true 0 [.int .i64 0, .int .i64 0, .int .i64 0, .int .i64 0], .cells true 0 [.int .i64 ((rcS g le sl (aJ bf bc.toNat) i).1), .int .i64 ((rcS g le sl (aJ bf bc.toNat) i).2.1), .int .i64 ((rcS g le sl (aJ bf bc.toNat) i).2.2.1), .int .i64 ((rcS g le sl (aJ bf bc.toNat) i).2.2.2)], .cells true 1 (ints .i64 (aJ bf bc.toNat))]) ((aJ bf bc.toNat).length) ?_ ?_
 ·refine ⟨_, _, _, ⟨0, by omega, rfl, rfl⟩, Abs.byG hbel [] rfl [0, 1, 3, 4, 5] (by decide) ?_⟩
  exact aD @rcS.eq_1
 ·rintro k0 F Hx ⟨i, hm0, rfl, rfl⟩ J0 hJ0
  have g'1 := (jn @ck @cZ)
  refine aa g'1 ?_
  refine ak (fun h1 => ?_) (fun h1 => ?_)
  ·have h1d := bsT h1
   have hiL : i < (aJ bf bc.toNat).length := by omega
   have hgi := mrkL_bd (f := bf) (n := bc.toNat) _ (kH hiL)
   have q2 := dh (k := .i64) (xs := aJ bf bc.toNat) (j := i) (by omega)
   have g'2 := (jn @h1 (jn @h1d (jn @q2 g'1)))
   refine aa g'2 ?_
   refine af (by kernel_rfl) (drch_c _ t g tu le sl ra (gi (aJ bf bc.toNat) i) (by assumption) (by assumption) (by omega)) ?_
   refine aa g'2 ?_
   refine ak (fun h3 => ?_) (fun h3 => ?_)
   ·have h3d := bsT h3
    have h3n := bnT h3
    have hi0 : i = 0 := by have q := h3d; simpa using q
    have hs0 : (rcS g le sl (aJ bf bc.toNat) (i + 1)).1 = mnI ((rqR g le sl (gi (aJ bf bc.toNat) i)).1) ((rqR g le sl (gi (aJ bf bc.toNat) i)).1) := by rw [rcS]; simp only; rw [if_pos hi0]
    have hs1 : (rcS g le sl (aJ bf bc.toNat) (i + 1)).2.1 = mnI ((rqR g le sl (gi (aJ bf bc.toNat) i)).2.1) ((rqR g le sl (gi (aJ bf bc.toNat) i)).2.1) := by rw [rcS]; simp only; rw [if_pos hi0]
    have hs2 : (rcS g le sl (aJ bf bc.toNat) (i + 1)).2.2.1 = mxI ((rqR g le sl (gi (aJ bf bc.toNat) i)).2.2.1) ((rqR g le sl (gi (aJ bf bc.toNat) i)).2.2.1) := by rw [rcS]; simp only; rw [if_pos hi0]
    have hs3 : (rcS g le sl (aJ bf bc.toNat) (i + 1)).2.2.2 = mxI ((rqR g le sl (gi (aJ bf bc.toNat) i)).2.2.2) ((rqR g le sl (gi (aJ bf bc.toNat) i)).2.2.2) := by rw [rcS]; simp only; rw [if_pos hi0]
    have g'3 := (jn @h3 (jn @h3n (jn @bg (jn @be g'2))))
    refine aa g'3 ?_
    refine hJ0 _ _ ⟨k0 - 1, by omega, _, _, _, ⟨i + 1, by omega, rfl, rfl⟩, Abs.byG hbel [] rfl [0, 1, 2, 3, 4] (by decide) ?_⟩
    exact aD (jn @hs0 (jn @hs1 (jn @hs2 @hs3)))
   ·have h3d := bsT h3
    have h3n := bnT h3
    have hi0 : ¬ i = 0 := by have q := h3d; simpa using q
    have hs0 : (rcS g le sl (aJ bf bc.toNat) (i + 1)).1 = mnI ((rcS g le sl (aJ bf bc.toNat) i).1) ((rqR g le sl (gi (aJ bf bc.toNat) i)).1) := by rw [rcS]; simp only; rw [if_neg hi0]
    have hs1 : (rcS g le sl (aJ bf bc.toNat) (i + 1)).2.1 = mnI ((rcS g le sl (aJ bf bc.toNat) i).2.1) ((rqR g le sl (gi (aJ bf bc.toNat) i)).2.1) := by rw [rcS]; simp only; rw [if_neg hi0]
    have hs2 : (rcS g le sl (aJ bf bc.toNat) (i + 1)).2.2.1 = mxI ((rcS g le sl (aJ bf bc.toNat) i).2.2.1) ((rqR g le sl (gi (aJ bf bc.toNat) i)).2.2.1) := by rw [rcS]; simp only; rw [if_neg hi0]
    have hs3 : (rcS g le sl (aJ bf bc.toNat) (i + 1)).2.2.2 = mxI ((rcS g le sl (aJ bf bc.toNat) i).2.2.2) ((rqR g le sl (gi (aJ bf bc.toNat) i)).2.2.2) := by rw [rcS]; simp only; rw [if_neg hi0]
    have g'4 := (jn @h3 (jn @h3n (jn @bg (jn @be g'2))))
    refine aa g'4 ?_
    refine hJ0 _ _ ⟨k0 - 1, by omega, _, _, _, ⟨i + 1, by omega, rfl, rfl⟩, Abs.byG hbel [] rfl [0, 1, 2, 3, 4] (by decide) ?_⟩
    exact aD (jn @hs0 (jn @hs1 (jn @hs2 @hs3)))
  ·have h1d := bsT h1
   obtain rfl : i = (aJ bf bc.toNat).length := by omega
   have g'5 := (jn @h1 (jn @h1d g'1))
   refine aa g'5 ?_
   exact hQ _ _ (ae (.inl rfl) hbel (x := .agg [.int .i64 ((rcS g le sl (aJ bf bc.toNat) (aJ bf bc.toNat).length).1), .int .i64 ((rcS g le sl (aJ bf bc.toNat) (aJ bf bc.toNat).length).2.1), .int .i64 ((rcS g le sl (aJ bf bc.toNat) (aJ bf bc.toNat).length).2.2.1), .int .i64 ((rcS g le sl (aJ bf bc.toNat) (aJ bf bc.toNat).length).2.2.2)]) (ai Tryz.results108) rfl ⟨rfl, rfl⟩)
open Go.RowKit
theorem pval_c (H : ac) (x0 : Int) (y0 : Int) (x1 : Int) (y1 : Int) (f : Int) (c : Int) (t : Int) (g : Int) (tu : Int) (le : Int) (sl : Int) (ra : Int) : ACalls Tryz.prog 105 [.agg [.int .i64 x0, .int .i64 y0, .int .i64 x1, .int .i64 y1, .int .i64 f, .int .i64 c], .agg [.int .i64 t, .int .i64 g], .agg [.int .i64 tu, .int .i64 le, .int .i64 sl, .int .i64 ra]] H (fun v H' => v = .bool (bxB x0 y0 x1 y1 f c && dt t g && cu tu le sl ra) ∧ H' = H) := by
 refine AcT true Tryz.func105 ?_; intro hbel Q hQ
 refine aQ ?_
 refine af (by kernel_rfl) (eE _ x0 y0 x1 y1 f c) ?_
 refine aQ ?_
 refine al (fun h1 => ?_) (fun h1 => ?_)
 ·have h1d := bsT h1
  have g'1 := (jn @h1 @h1d)
  refine aa g'1 ?_
  refine af (by kernel_rfl) (i9 _ t g) ?_
  refine aa g'1 ?_
  refine al (fun h2 => ?_) (fun h2 => ?_)
  ·have h2d := bsT h2
   have g'2 := (jn @h2 (jn @h2d g'1))
   refine aa g'2 ?_
   refine af (by kernel_rfl) (ja _ tu le sl ra) ?_
   refine aa g'2 ?_
   exact hQ _ _ (ae (.inl rfl) hbel (x := .bool (cu tu le sl ra)) (ai Tryz.results105) rfl ⟨by simp [h1d, h2d], rfl⟩)
  ·have h2d := bsT h2
   have g'3 := (jn @h2 (jn @h2d g'1))
   refine aa g'3 ?_
   exact hQ _ _ (ae (.inl rfl) hbel (x := .bool false) (ai Tryz.results105) rfl ⟨by simp [h1d, h2d], rfl⟩)
 ·have h1d := bsT h1
  have g'4 := (jn @h1 @h1d)
  refine aa g'4 ?_
  exact hQ _ _ (ae (.inl rfl) hbel (x := .bool false) (ai Tryz.results105) rfl ⟨by simp [h1d], rfl⟩)
theorem pmvd_c (H : ac) (x0 : Int) (y0 : Int) (x1 : Int) (y1 : Int) (f : Int) (c : Int) (nf : Int) (nc : Int) (p : Int) (r : Int) (q : Int) (s : Int) (hb : bxB x0 y0 x1 y1 f c = true) (ha : bD nf nc = true) (hd1 : -64 ≤ p ∧ p ≤ q ∧ q ≤ 64) (hd2 : -64 ≤ r ∧ r ≤ s ∧ s ≤ 64) : ACalls Tryz.prog 107 [.agg [.int .i64 x0, .int .i64 y0, .int .i64 x1, .int .i64 y1, .int .i64 f, .int .i64 c], .agg [.int .i64 nf, .int .i64 nc], .agg [.int .i64 p, .int .i64 r, .int .i64 q, .int .i64 s]] H (fun v H' => v = .tup [.agg [.int .i64 (mkV (mvO x0 y0 x1 y1 p q r s) (x0 + p)), .int .i64 (mkV (mvO x0 y0 x1 y1 p q r s) (y0 + r)), .int .i64 (mkV (mvO x0 y0 x1 y1 p q r s) (x1 + q)), .int .i64 (mkV (mvO x0 y0 x1 y1 p q r s) (y1 + s)), .int .i64 (mkV (mvO x0 y0 x1 y1 p q r s) nf), .int .i64 (mkV (mvO x0 y0 x1 y1 p q r s) nc)], .int .i64 (mvE x0 y0 x1 y1 p q r s)] ∧ H' = H) := by
 have hbb := bO.1 hb
 have hb2 : bxB x0 y0 x1 y1 nf nc = true := bO.2 ⟨hbb.1, hbb.2.1, ha⟩
 (refine bF Tryz.func107 _ rfl (Nat.le_of_ble_eq_true (by kernel_rfl)) rfl ?_; intro hbel Q hQ hQ' c hc; unfold Tryz.f107 at hc; simp only [Option.some.injEq] at hc; subst hc; clear hQ')
 refine aN fun Q1 hn1 hr1 he1 => ?_
 have hQ1 := fun F H' h => hr1 F H' (hQ F H' h)
 refine aI true try_mixed (by kernel_rfl) ?_
 refine aQ ?_
 refine hn1 _ _ ?_
 refine cd true try_mixed [[0, 1, 2, 3, 4, 5, 6, 7], [0, 1, 2, 4, 5, 3, 6, 7]] (by kernel_rfl) (fun F2 H2 => F2 = [(3, .ptr (some (H.length, 0))), (5, .ptr (some (H.length + 1, 0))), (6, .ptr (some (H.length + 2, 0))), (7, .int .i64 0)] ∧ H2 = H ++ [.cells true 0 [.int .i64 x0, .int .i64 y0, .int .i64 x1, .int .i64 y1, .int .i64 nf, .int .i64 nc], .cells true 0 [.int .i64 p, .int .i64 r, .int .i64 q, .int .i64 s], .cells true 0 [.int .i64 0, .int .i64 0, .int .i64 0, .int .i64 0, .int .i64 0, .int .i64 0]]) ?_ ?_
 ·refine aC ?_ (aC ?_ (ce)) <;> intro J hJ
  ·skip
   refine runD ?_
   refine aS (hJ _ _ ⟨_, _, _, ⟨rfl, rfl⟩, Abs.byG hbel [] rfl [0, 2, 3] (by decide) ?_⟩)
   exact aW
  ·skip
   refine runD ?_
   refine aS (hJ _ _ ⟨_, _, _, ⟨rfl, rfl⟩, Abs.byG hbel [] rfl [0, 2, 3] (by decide) ?_⟩)
   exact aW
 rintro F2 H2 ⟨rfl, rfl⟩
 refine aI true try_mixed (by kernel_rfl) ?_
 refine aQ ?_
 refine af (by kernel_rfl) (bxmv_c _ x0 y0 x1 y1 nf nc p q r s (by assumption) (by omega) (by omega)) ?_
 refine aQ ?_
 exact hQ _ _ (ae (.inl rfl) hbel (x := .tup [.agg [.int .i64 (mkV (mvO x0 y0 x1 y1 p q r s) (x0 + p)), .int .i64 (mkV (mvO x0 y0 x1 y1 p q r s) (y0 + r)), .int .i64 (mkV (mvO x0 y0 x1 y1 p q r s) (x1 + q)), .int .i64 (mkV (mvO x0 y0 x1 y1 p q r s) (y1 + s)), .int .i64 (mkV (mvO x0 y0 x1 y1 p q r s) nf), .int .i64 (mkV (mvO x0 y0 x1 y1 p q r s) nc)], .int .i64 (mvE x0 y0 x1 y1 p q r s)]) (ai Tryz.results107) rfl ⟨rfl, rfl⟩)
theorem preachq_c (H : ac) (t g tu le sl ra f c : Int) (hC : dt t g = true) (hB : cu tu le sl ra = true) (ha : bD f c = true) (hu : 0 ≤ tu ∧ tu ≤ 8) {x0 y0 x1 y1 : Int} : ACalls Tryz.prog 108 [.agg [.int .i64 t, .int .i64 g], .agg [.int .i64 tu, .int .i64 le, .int .i64 sl, .int .i64 ra], .agg [.int .i64 (grF (shF f c t) (cE c) tu), .int .i64 (grC (cE c) tu)]] H (fun v H' => v = .agg [.int .i64 (imR (x0, y0, x1, y1, f, c) t g tu le sl).1, .int .i64 (imR (x0, y0, x1, y1, f, c) t g tu le sl).2.1, .int .i64 (imR (x0, y0, x1, y1, f, c) t g tu le sl).2.2.1, .int .i64 (imR (x0, y0, x1, y1, f, c) t g tu le sl).2.2.2] ∧ H' = H) :=
 preach_c H t g tu le sl ra _ _ hC hB (by have k := bm.1 ha; refine jx ?_; unfold cE; split <;> omega)
theorem image_c (H : ac) (x0 : Int) (y0 : Int) (x1 : Int) (y1 : Int) (f : Int) (c : Int) (t : Int) (g : Int) (tu : Int) (le : Int) (sl : Int) (ra : Int) (hb : bxB x0 y0 x1 y1 f c = true) (hC : dt t g = true) (hB : cu tu le sl ra = true) : ACalls Tryz.prog 68 [.agg [.int .i64 x0, .int .i64 y0, .int .i64 x1, .int .i64 y1, .int .i64 f, .int .i64 c], .agg [.int .i64 t, .int .i64 g], .agg [.int .i64 tu, .int .i64 le, .int .i64 sl, .int .i64 ra]] H (fun v H' => v = .tup [.agg [.int .i64 (mkV (mvO x0 y0 x1 y1 (imR (x0, y0, x1, y1, f, c) t g tu le sl).1 (imR (x0, y0, x1, y1, f, c) t g tu le sl).2.2.1 (imR (x0, y0, x1, y1, f, c) t g tu le sl).2.1 (imR (x0, y0, x1, y1, f, c) t g tu le sl).2.2.2) (x0 + (imR (x0, y0, x1, y1, f, c) t g tu le sl).1)), .int .i64 (mkV (mvO x0 y0 x1 y1 (imR (x0, y0, x1, y1, f, c) t g tu le sl).1 (imR (x0, y0, x1, y1, f, c) t g tu le sl).2.2.1 (imR (x0, y0, x1, y1, f, c) t g tu le sl).2.1 (imR (x0, y0, x1, y1, f, c) t g tu le sl).2.2.2) (y0 + (imR (x0, y0, x1, y1, f, c) t g tu le sl).2.1)), .int .i64 (mkV (mvO x0 y0 x1 y1 (imR (x0, y0, x1, y1, f, c) t g tu le sl).1 (imR (x0, y0, x1, y1, f, c) t g tu le sl).2.2.1 (imR (x0, y0, x1, y1, f, c) t g tu le sl).2.1 (imR (x0, y0, x1, y1, f, c) t g tu le sl).2.2.2) (x1 + (imR (x0, y0, x1, y1, f, c) t g tu le sl).2.2.1)), .int .i64 (mkV (mvO x0 y0 x1 y1 (imR (x0, y0, x1, y1, f, c) t g tu le sl).1 (imR (x0, y0, x1, y1, f, c) t g tu le sl).2.2.1 (imR (x0, y0, x1, y1, f, c) t g tu le sl).2.1 (imR (x0, y0, x1, y1, f, c) t g tu le sl).2.2.2) (y1 + (imR (x0, y0, x1, y1, f, c) t g tu le sl).2.2.2)), .int .i64 (mkV (mvO x0 y0 x1 y1 (imR (x0, y0, x1, y1, f, c) t g tu le sl).1 (imR (x0, y0, x1, y1, f, c) t g tu le sl).2.2.1 (imR (x0, y0, x1, y1, f, c) t g tu le sl).2.1 (imR (x0, y0, x1, y1, f, c) t g tu le sl).2.2.2) (grF (shF f c t) (cE c) tu)), .int .i64 (mkV (mvO x0 y0 x1 y1 (imR (x0, y0, x1, y1, f, c) t g tu le sl).1 (imR (x0, y0, x1, y1, f, c) t g tu le sl).2.2.1 (imR (x0, y0, x1, y1, f, c) t g tu le sl).2.1 (imR (x0, y0, x1, y1, f, c) t g tu le sl).2.2.2) (grC (cE c) tu))], .int .i64 (mvE x0 y0 x1 y1 (imR (x0, y0, x1, y1, f, c) t g tu le sl).1 (imR (x0, y0, x1, y1, f, c) t g tu le sl).2.2.1 (imR (x0, y0, x1, y1, f, c) t g tu le sl).2.1 (imR (x0, y0, x1, y1, f, c) t g tu le sl).2.2.2)] ∧ H' = H) := by
 have hCi := hC
 simp only [dt, Bool.and_eq_true, bN] at hCi
 have hBi := hB
 simp only [cu, Bool.and_eq_true, bN] at hBi
 have hbb := bO.1 hb
 have hab := hbb.2.2
 have ka := bm.1 hab
 have hs2 : bD (shF f c t) (cE c) = true := jx (by omega)
 have htu : 0 ≤ tu ∧ tu ≤ 8 := by omega
 have hg2 : bD (grF (shF f c t) (cE c) tu) (grC (cE c) tu) = true := jx (by unfold cE; split <;> omega)
 have hbd : (-64 ≤ (imR (x0, y0, x1, y1, f, c) t g tu le sl).1 ∧ (imR (x0, y0, x1, y1, f, c) t g tu le sl).1 ≤ (imR (x0, y0, x1, y1, f, c) t g tu le sl).2.2.1 ∧ (imR (x0, y0, x1, y1, f, c) t g tu le sl).2.2.1 ≤ 64) ∧ -64 ≤ (imR (x0, y0, x1, y1, f, c) t g tu le sl).2.1 ∧ (imR (x0, y0, x1, y1, f, c) t g tu le sl).2.1 ≤ (imR (x0, y0, x1, y1, f, c) t g tu le sl).2.2.2 ∧ (imR (x0, y0, x1, y1, f, c) t g tu le sl).2.2.2 ≤ 64 := rcS_bd (by omega) (by omega) (by omega) _
 (refine bF Tryz.func68 _ rfl (Nat.le_of_ble_eq_true (by kernel_rfl)) rfl ?_; intro hbel Q hQ hQ' c hc; unfold Tryz.f68 at hc; simp only [Option.some.injEq] at hc; subst hc; clear hQ')
 refine aN fun Q2 hn2 hr2 he2 => ?_
 have hQ2 := fun F H' h => hr2 F H' (hQ F H' h)
 refine aI true try_mixed (by kernel_rfl) ?_
 have g'5 := (jn @hb (jn @hC @hB))
 refine aa g'5 ?_
 refine hn2 _ _ ?_
 refine aN fun Q3 hn3 hr3 he3 => ?_
 have hQ3 := fun F H' h => hr3 F H' (hQ F H' h)
 refine aI true try_mixed (by kernel_rfl) ?_
 refine aa g'5 ?_
 refine af (by kernel_rfl) (pval_c _ x0 y0 x1 y1 f c t g tu le sl ra) ?_
 refine aa g'5 ?_
 refine hn3 _ _ ?_
 refine aN fun Q4 hn4 hr4 he4 => ?_
 have hQ4 := fun F H' h => hr4 F H' (hQ F H' h)
 refine aI true try_mixed (by kernel_rfl) ?_
 refine aa g'5 ?_
 refine af (by kernel_rfl) (ptrn_c _ x0 y0 x1 y1 f c t tu (by assumption) (by omega)) ?_
 refine aa g'5 ?_
 refine hn4 _ _ ?_
 refine cd true try_mixed [[0, 1, 2, 3, 4, 5, 6, 7, 8, 9, 10]] (by kernel_rfl) (fun F2 H2 => F2 = [(6, .ptr (some (H.length, 0))), (7, .int .i64 (mvE x0 y0 x1 y1 ((imR (x0, y0, x1, y1, f, c) t g tu le sl).1) ((imR (x0, y0, x1, y1, f, c) t g tu le sl).2.2.1) ((imR (x0, y0, x1, y1, f, c) t g tu le sl).2.1) ((imR (x0, y0, x1, y1, f, c) t g tu le sl).2.2.2)))] ∧ H2 = H ++ [.cells true 0 [.int .i64 (mkV (mvO x0 y0 x1 y1 ((imR (x0, y0, x1, y1, f, c) t g tu le sl).1) ((imR (x0, y0, x1, y1, f, c) t g tu le sl).2.2.1) ((imR (x0, y0, x1, y1, f, c) t g tu le sl).2.1) ((imR (x0, y0, x1, y1, f, c) t g tu le sl).2.2.2)) (x0 + ((imR (x0, y0, x1, y1, f, c) t g tu le sl).1))), .int .i64 (mkV (mvO x0 y0 x1 y1 ((imR (x0, y0, x1, y1, f, c) t g tu le sl).1) ((imR (x0, y0, x1, y1, f, c) t g tu le sl).2.2.1) ((imR (x0, y0, x1, y1, f, c) t g tu le sl).2.1) ((imR (x0, y0, x1, y1, f, c) t g tu le sl).2.2.2)) (y0 + ((imR (x0, y0, x1, y1, f, c) t g tu le sl).2.1))), .int .i64 (mkV (mvO x0 y0 x1 y1 ((imR (x0, y0, x1, y1, f, c) t g tu le sl).1) ((imR (x0, y0, x1, y1, f, c) t g tu le sl).2.2.1) ((imR (x0, y0, x1, y1, f, c) t g tu le sl).2.1) ((imR (x0, y0, x1, y1, f, c) t g tu le sl).2.2.2)) (x1 + ((imR (x0, y0, x1, y1, f, c) t g tu le sl).2.2.1))), .int .i64 (mkV (mvO x0 y0 x1 y1 ((imR (x0, y0, x1, y1, f, c) t g tu le sl).1) ((imR (x0, y0, x1, y1, f, c) t g tu le sl).2.2.1) ((imR (x0, y0, x1, y1, f, c) t g tu le sl).2.1) ((imR (x0, y0, x1, y1, f, c) t g tu le sl).2.2.2)) (y1 + ((imR (x0, y0, x1, y1, f, c) t g tu le sl).2.2.2))), .int .i64 (mkV (mvO x0 y0 x1 y1 ((imR (x0, y0, x1, y1, f, c) t g tu le sl).1) ((imR (x0, y0, x1, y1, f, c) t g tu le sl).2.2.1) ((imR (x0, y0, x1, y1, f, c) t g tu le sl).2.1) ((imR (x0, y0, x1, y1, f, c) t g tu le sl).2.2.2)) (grF (shF f c t) (cE c) tu)), .int .i64 (mkV (mvO x0 y0 x1 y1 ((imR (x0, y0, x1, y1, f, c) t g tu le sl).1) ((imR (x0, y0, x1, y1, f, c) t g tu le sl).2.2.1) ((imR (x0, y0, x1, y1, f, c) t g tu le sl).2.1) ((imR (x0, y0, x1, y1, f, c) t g tu le sl).2.2.2)) (grC (cE c) tu))]]) ?_ ?_
 ·refine aC ?_ (ce) <;> intro J hJ
  ·skip
   refine aw g'5 ?_
   refine aB (by kernel_rfl) (preachq_c (x0 := x0) (y0 := y0) (x1 := x1) (y1 := y1) _ t g tu le sl ra f c hC hB hab htu) ?_
   refine aw g'5 ?_
   refine aB (by kernel_rfl) (pmvd_c _ x0 y0 x1 y1 f c (grF (shF f c t) (cE c) tu) (grC (cE c) tu) ((imR (x0, y0, x1, y1, f, c) t g tu le sl).1) ((imR (x0, y0, x1, y1, f, c) t g tu le sl).2.1) ((imR (x0, y0, x1, y1, f, c) t g tu le sl).2.2.1) ((imR (x0, y0, x1, y1, f, c) t g tu le sl).2.2.2) (by assumption) (by assumption) (by omega) (by omega)) ?_
   refine aw g'5 ?_
   refine aS (hJ _ _ ⟨_, _, _, ⟨rfl, rfl⟩, Abs.byG hbel [] rfl [3] (by decide) ?_⟩)
   exact aW
 rintro F2 H2 ⟨rfl, rfl⟩
 refine aI true try_mixed (by kernel_rfl) ?_
 refine aa g'5 ?_
 exact hQ _ _ (ae (.inl rfl) hbel (x := .tup [.agg [.int .i64 (mkV (mvO x0 y0 x1 y1 ((imR (x0, y0, x1, y1, f, c) t g tu le sl).1) ((imR (x0, y0, x1, y1, f, c) t g tu le sl).2.2.1) ((imR (x0, y0, x1, y1, f, c) t g tu le sl).2.1) ((imR (x0, y0, x1, y1, f, c) t g tu le sl).2.2.2)) (x0 + ((imR (x0, y0, x1, y1, f, c) t g tu le sl).1))), .int .i64 (mkV (mvO x0 y0 x1 y1 ((imR (x0, y0, x1, y1, f, c) t g tu le sl).1) ((imR (x0, y0, x1, y1, f, c) t g tu le sl).2.2.1) ((imR (x0, y0, x1, y1, f, c) t g tu le sl).2.1) ((imR (x0, y0, x1, y1, f, c) t g tu le sl).2.2.2)) (y0 + ((imR (x0, y0, x1, y1, f, c) t g tu le sl).2.1))), .int .i64 (mkV (mvO x0 y0 x1 y1 ((imR (x0, y0, x1, y1, f, c) t g tu le sl).1) ((imR (x0, y0, x1, y1, f, c) t g tu le sl).2.2.1) ((imR (x0, y0, x1, y1, f, c) t g tu le sl).2.1) ((imR (x0, y0, x1, y1, f, c) t g tu le sl).2.2.2)) (x1 + ((imR (x0, y0, x1, y1, f, c) t g tu le sl).2.2.1))), .int .i64 (mkV (mvO x0 y0 x1 y1 ((imR (x0, y0, x1, y1, f, c) t g tu le sl).1) ((imR (x0, y0, x1, y1, f, c) t g tu le sl).2.2.1) ((imR (x0, y0, x1, y1, f, c) t g tu le sl).2.1) ((imR (x0, y0, x1, y1, f, c) t g tu le sl).2.2.2)) (y1 + ((imR (x0, y0, x1, y1, f, c) t g tu le sl).2.2.2))), .int .i64 (mkV (mvO x0 y0 x1 y1 ((imR (x0, y0, x1, y1, f, c) t g tu le sl).1) ((imR (x0, y0, x1, y1, f, c) t g tu le sl).2.2.1) ((imR (x0, y0, x1, y1, f, c) t g tu le sl).2.1) ((imR (x0, y0, x1, y1, f, c) t g tu le sl).2.2.2)) (grF (shF f c t) (cE c) tu)), .int .i64 (mkV (mvO x0 y0 x1 y1 ((imR (x0, y0, x1, y1, f, c) t g tu le sl).1) ((imR (x0, y0, x1, y1, f, c) t g tu le sl).2.2.1) ((imR (x0, y0, x1, y1, f, c) t g tu le sl).2.1) ((imR (x0, y0, x1, y1, f, c) t g tu le sl).2.2.2)) (grC (cE c) tu))], .int .i64 (mvE x0 y0 x1 y1 ((imR (x0, y0, x1, y1, f, c) t g tu le sl).1) ((imR (x0, y0, x1, y1, f, c) t g tu le sl).2.2.1) ((imR (x0, y0, x1, y1, f, c) t g tu le sl).2.1) ((imR (x0, y0, x1, y1, f, c) t g tu le sl).2.2.2))]) (ai Tryz.results68) rfl ⟨rfl, rfl⟩)
theorem image_t (H : ac) (b : T6) (t g tu le sl ra : Int) (hb : bJ b = true) (hC : dt t g = true) (hB : cu tu le sl ra = true) : ACalls Tryz.prog 68 [.agg [.int .i64 b.1, .int .i64 b.2.1, .int .i64 b.2.2.1, .int .i64 b.2.2.2.1, .int .i64 b.2.2.2.2.1, .int .i64 b.2.2.2.2.2], .agg [.int .i64 t, .int .i64 g], .agg [.int .i64 tu, .int .i64 le, .int .i64 sl, .int .i64 ra]] H (fun v H' => v = .tup [.agg [.int .i64 (mkV (imO b t g tu le sl) (imB b t g tu le sl).1), .int .i64 (mkV (imO b t g tu le sl) (imB b t g tu le sl).2.1), .int .i64 (mkV (imO b t g tu le sl) (imB b t g tu le sl).2.2.1), .int .i64 (mkV (imO b t g tu le sl) (imB b t g tu le sl).2.2.2.1), .int .i64 (mkV (imO b t g tu le sl) (imB b t g tu le sl).2.2.2.2.1), .int .i64 (mkV (imO b t g tu le sl) (imB b t g tu le sl).2.2.2.2.2)], .int .i64 (imE b t g tu le sl)] ∧ H' = H) :=
 image_c H b.1 b.2.1 b.2.2.1 b.2.2.2.1 b.2.2.2.2.1 b.2.2.2.2.2 t g tu le sl ra hb hC hB
open Go.RowKit
def stF (b : Bool) (g : Int) : Int := if b = true then 0 else g
theorem stF_cmd {t g : Int} (b : Bool) (h : dt t g = true) : dt t (stF b g) = true := by
 cases b
 ·exact h
 ·show dt t 0 = true
  unfold dt at h ⊢
  rw [Bool.and_eq_true] at h ⊢
  exact ⟨h.1, by decide⟩
theorem image_y (H : ac) (b : T6) (t g tu le sl ra : Int) (hb : bJ b = true) (hC : dt t g = true) (hB : cu tu le sl ra = true) (h : imO b t g tu le sl = true) : ACalls Tryz.prog 68 [.agg [.int .i64 b.1, .int .i64 b.2.1, .int .i64 b.2.2.1, .int .i64 b.2.2.2.1, .int .i64 b.2.2.2.2.1, .int .i64 b.2.2.2.2.2], .agg [.int .i64 t, .int .i64 g], .agg [.int .i64 tu, .int .i64 le, .int .i64 sl, .int .i64 ra]] H (fun v H' => v = .tup [.agg [.int .i64 (imB b t g tu le sl).1, .int .i64 (imB b t g tu le sl).2.1, .int .i64 (imB b t g tu le sl).2.2.1, .int .i64 (imB b t g tu le sl).2.2.2.1, .int .i64 (imB b t g tu le sl).2.2.2.2.1, .int .i64 (imB b t g tu le sl).2.2.2.2.2], .int .i64 0] ∧ H' = H) := by
 have k := image_t H b t g tu le sl ra hb hC hB
 unfold imE mkV at k
 simp only [h, if_true] at k
 exact k
theorem imA_at {l : List T6} {t f tu le sl : Int} (h : imA l t f tu le sl = true) {j : Nat} (hj : j < l.length) : imO (g6 l j) t f tu le sl = true := List.all_eq_true.1 h _ (cU hj)
theorem boxes_y (H : ac) (s : AV) (l : List T6) (t : Int) (g : Int) (tu : Int) (le : Int) (sl : Int) (ra : Int) (still : Bool) (hs : Sl H 6 s l.length (r6 l)) (hS : bX l = true) (hC : dt t g = true) (hB : cu tu le sl ra = true) (hA : imA l t (stF still g) tu le sl = true) : ACalls Tryz.prog 44 [s, .agg [.int .i64 t, .int .i64 g], .agg [.int .i64 tu, .int .i64 le, .int .i64 sl, .int .i64 ra], .bool still] H (fun v H' => v = .tup [.sl (some (H.length, 0)) ((imS l t (stF still g) tu le sl l.length).length) (bb (imS l t (stF still g) tu le sl l.length).length), .int .i64 0] ∧ H' = H ++ [.cells (aX (imS l t (stF still g) tu le sl l.length).length) 6 (r6 (imS l t (stF still g) tu le sl l.length))]) := by
 obtain ⟨bs, os, cs, rfl, hbs⟩ := hs
 have hbls := getElem?_lt hbs
 have hb0s := fun l => aq (l := l) hbs
 have hSS := bY.1 hS
 have hl16 := hSS.1
 have hC2 := stF_cmd still hC
 refine AcT true Tryz.func44 ?_; intro hbel Q hQ
 have g'1 := (jn @hbs (jn @hb0s (jn @hC @hB)))
 refine aa g'1 ?_
 refine al (fun h1 => ?_) (fun h1 => ?_)
 ·have h1d := bsT h1
  have g'2 := (jn @h1 (jn @h1d g'1))
  refine aa g'2 ?_
  refine af (by kernel_rfl) (i9 _ t g) ?_
  refine aa g'2 ?_
  refine af (by kernel_rfl) (ja _ tu le sl ra) ?_
  refine aa g'2 ?_
  refine go_loop try_mixed (by kernel_rfl) (fun k F Hx => ∃ i : Nat, i + k = l.length ∧ F = [(0, .sl (some (bs, 0)) l.length cs), (3, .bool still), (5, .ptr (some (H.length, 0))), (6, .ptr (some (H.length + 1, 0))), (30, .sl (some (bs, 0)) l.length cs), (31, .int .i64 ((l.length : Nat) : Int)), (32, .int .i64 ((i : Nat) : Int))] ∧ Hx = H ++ [.cells true 0 [.int .i64 t, .int .i64 g], .cells true 0 [.int .i64 tu, .int .i64 le, .int .i64 sl, .int .i64 ra]]) (l.length) ?_ ?_
  ·refine ⟨_, _, _, ⟨0, by omega, rfl, rfl⟩, Abs.byG hbel [] rfl [0, 1] (by decide) ?_⟩
   exact aW
  ·rintro k0 F Hx ⟨i, hm0, rfl, rfl⟩ J0 hJ0
   refine aa g'2 ?_
   refine ak (fun h2 => ?_) (fun h2 => ?_)
   ·have h2d := bsT h2
    have hlt : i < l.length := by omega
    have q3 := cD (l := l) (j := i) (by omega)
    have g'3 := (jn @h2 (jn @h2d (jn @bM (jn @q3 g'2))))
    refine aa g'3 ?_
    refine af (by kernel_rfl) (eE _ (g61 l i) (g62 l i) (g63 l i) (g64 l i) (g65 l i) (g66 l i)) ?_
    refine aa g'3 ?_
    refine ak (fun h4 => ?_) (fun h4 => ?_)
    ·have h4d := bsT h4
     exact absurd ((show bJ (g6 l i) = true from hSS.2 _ (cU hlt)).symm.trans h4d) (by decide)
    ·have h4d := bsT h4
     have g'4 := (jn @h4 (jn @h4d g'3))
     refine aa g'4 ?_
     refine hJ0 _ _ ⟨k0 - 1, by omega, _, _, _, ⟨i + 1, by omega, rfl, rfl⟩, Abs.byG hbel [] rfl [0, 1] (by decide) ?_⟩
     exact aW
   ·have h2d := bsT h2
    obtain rfl : i = l.length := by omega
    have g'5 := (jn @h2 (jn @h2d g'2))
    refine aa g'5 ?_
    refine ak (fun h5 => ?_) (fun h5 => ?_)
    ·have h5d := bsT h5
     have hst0 : stF still g = 0 := by unfold stF; rw [h5d]; rfl
     rw [hst0] at hA hC2
     have g'6 := (jn @h5 (jn @h5d g'5))
     refine aa g'6 ?_
     refine go_loop try_mixed (by kernel_rfl) (fun k F Hx => ∃ i : Nat, i + k = l.length ∧ F = [(5, .ptr (some (H.length, 0))), (6, .ptr (some (H.length + 1, 0))), (12, .sl (some (H.length + 2, 0)) ((imS l t 0 tu le sl i).length) (bb (imS l t 0 tu le sl i).length)), (42, .sl (some (bs, 0)) l.length cs), (43, .int .i64 ((l.length : Nat) : Int)), (44, .int .i64 ((i : Nat) : Int))] ∧ Hx = H ++ [.cells true 0 [.int .i64 t, .int .i64 0], .cells true 0 [.int .i64 tu, .int .i64 le, .int .i64 sl, .int .i64 ra], .cells (aX (imS l t 0 tu le sl i).length) 6 (r6 (imS l t 0 tu le sl i))]) (l.length) ?_ ?_
     ·refine ⟨_, _, _, ⟨0, by omega, rfl, rfl⟩, Abs.byG hbel [.cells false 6 []] rfl [0, 1, 2] (by decide) ?_⟩
      exact aD (jn @imS.eq_1 (jn @bx (jn @bk (jn @bW @bA))))
     ·rintro k1 F Hx ⟨i, hm1, rfl, rfl⟩ J1 hJ1
      have hil0 := fo (l := l) (t := t) (f := 0) (tu := tu) (le := le) (sl := sl) i
      have g'7 := (jn @bM (jn @dw g'6))
      refine aa g'7 ?_
      refine ak (fun h6 => ?_) (fun h6 => ?_)
      ·have h6d := bsT h6
       have hlt : i < l.length := by omega
       have hbv : bJ (g6 l i) = true := hSS.2 _ (cU hlt)
       have hil := fo (l := l) (t := t) (f := 0) (tu := tu) (le := le) (sl := sl) i
       have q7 := cD (l := l) (j := i) (by omega)
       have g'8 := (jn @h6 (jn @h6d (jn @q7 g'7)))
       refine aa g'8 ?_
       rcases Bool.eq_false_or_eq_true (imO (g6 l i) t 0 tu le sl) with h8 | h8
       ·have h8d := h8
        refine af (by kernel_rfl) (image_y _ (g6 l i) t 0 tu le sl ra (by assumption) (by assumption) (by assumption) (by assumption)) ?_
        have g'9 := (jn @h8 (jn @h8d (jn @bp (jn @dU g'8))))
        refine aa g'9 ?_
        refine hJ1 _ _ ⟨k1 - 1, by omega, _, _, _, ⟨i + 1, by omega, rfl, rfl⟩, Abs.byG hbel [] rfl [0, 1, 6] (by decide) ?_⟩
        exact aD (jn @imS.eq_2 (jn @bx (jn @bk (jn @bW @bA))))
       ·have h8d := h8
        exact absurd ((imA_at hA hlt).symm.trans h8d) (by decide)
      ·have h6d := bsT h6
       obtain rfl : i = l.length := by omega
       have g'10 := (jn @h6 (jn @h6d g'7))
       refine aa g'10 ?_
       refine hQ _ _ (aY (.inl rfl) hbel (x1 := .tup [.sl (some (H.length + 2, 0)) ((imS l t 0 tu le sl l.length).length) (bb (imS l t 0 tu le sl l.length).length), .int .i64 0]) (l2 := [.cells (aX (imS l t 0 tu le sl l.length).length) 6 (r6 (imS l t 0 tu le sl l.length))]) (.tup [.sl (some (H.length, 0)) ((imS l t 0 tu le sl l.length).length) (bb (imS l t 0 tu le sl l.length).length), .int .i64 0]) (ai Tryz.results44) [] rfl [2] (by decide) ⟨by first | rfl | (rw [hst0]; done) | (rw [hst0]; rfl), by first | rfl | (rw [hst0]; done) | (rw [hst0]; rfl)⟩ ?_)
       exact aV @bA
    ·have h5d := bsT h5
     have hst0 : stF still g = g := by unfold stF; rw [h5d]; rfl
     rw [hst0] at hA hC2
     have g'11 := (jn @h5 (jn @h5d g'5))
     refine aa g'11 ?_
     refine go_loop try_mixed (by kernel_rfl) (fun k F Hx => ∃ i : Nat, i + k = l.length ∧ F = [(5, .ptr (some (H.length, 0))), (6, .ptr (some (H.length + 1, 0))), (12, .sl (some (H.length + 2, 0)) ((imS l t g tu le sl i).length) (bb (imS l t g tu le sl i).length)), (42, .sl (some (bs, 0)) l.length cs), (43, .int .i64 ((l.length : Nat) : Int)), (44, .int .i64 ((i : Nat) : Int))] ∧ Hx = H ++ [.cells true 0 [.int .i64 t, .int .i64 g], .cells true 0 [.int .i64 tu, .int .i64 le, .int .i64 sl, .int .i64 ra], .cells (aX (imS l t g tu le sl i).length) 6 (r6 (imS l t g tu le sl i))]) (l.length) ?_ ?_
     ·refine ⟨_, _, _, ⟨0, by omega, rfl, rfl⟩, Abs.byG hbel [.cells false 6 []] rfl [0, 1, 2] (by decide) ?_⟩
      exact aD (jn @imS.eq_1 (jn @bx (jn @bk (jn @bW @bA))))
     ·rintro k2 F Hx ⟨i, hm2, rfl, rfl⟩ J2 hJ2
      have hil0 := fo (l := l) (t := t) (f := g) (tu := tu) (le := le) (sl := sl) i
      have g'12 := (jn @bM (jn @dw g'11))
      refine aa g'12 ?_
      refine ak (fun h9 => ?_) (fun h9 => ?_)
      ·have h9d := bsT h9
       have hlt : i < l.length := by omega
       have hbv : bJ (g6 l i) = true := hSS.2 _ (cU hlt)
       have hil := fo (l := l) (t := t) (f := g) (tu := tu) (le := le) (sl := sl) i
       have q10 := cD (l := l) (j := i) (by omega)
       have g'13 := (jn @h9 (jn @h9d (jn @q10 g'12)))
       refine aa g'13 ?_
       rcases Bool.eq_false_or_eq_true (imO (g6 l i) t g tu le sl) with h11 | h11
       ·have h11d := h11
        refine af (by kernel_rfl) (image_y _ (g6 l i) t g tu le sl ra (by assumption) (by assumption) (by assumption) (by assumption)) ?_
        have g'14 := (jn @h11 (jn @h11d (jn @bp (jn @dU g'13))))
        refine aa g'14 ?_
        refine hJ2 _ _ ⟨k2 - 1, by omega, _, _, _, ⟨i + 1, by omega, rfl, rfl⟩, Abs.byG hbel [] rfl [0, 1, 6] (by decide) ?_⟩
        exact aD (jn @imS.eq_2 (jn @bx (jn @bk (jn @bW @bA))))
       ·have h11d := h11
        exact absurd ((imA_at hA hlt).symm.trans h11d) (by decide)
      ·have h9d := bsT h9
       obtain rfl : i = l.length := by omega
       have g'15 := (jn @h9 (jn @h9d g'12))
       refine aa g'15 ?_
       refine hQ _ _ (aY (.inl rfl) hbel (x1 := .tup [.sl (some (H.length + 2, 0)) ((imS l t g tu le sl l.length).length) (bb (imS l t g tu le sl l.length).length), .int .i64 0]) (l2 := [.cells (aX (imS l t g tu le sl l.length).length) 6 (r6 (imS l t g tu le sl l.length))]) (.tup [.sl (some (H.length, 0)) ((imS l t g tu le sl l.length).length) (bb (imS l t g tu le sl l.length).length), .int .i64 0]) (ai Tryz.results44) [] rfl [2] (by decide) ⟨by first | rfl | (rw [hst0]; done) | (rw [hst0]; rfl), by first | rfl | (rw [hst0]; done) | (rw [hst0]; rfl)⟩ ?_)
       exact aV @bA
 ·have h1d := bsT h1
  omega
end Go.Proofs.YtidlfjajjieepaaGreat
