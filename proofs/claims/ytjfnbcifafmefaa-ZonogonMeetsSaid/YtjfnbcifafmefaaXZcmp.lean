/- The comparers of chapter 7 walked by hand, for the sorted shelf. Conditions: as each theorem states. -/
import Derived.Test.YtjfnbcifafmefaaXSortP
import Derived.Test.YtjfnbcifafmefaaMcan
namespace Go.Proofs.Ytjfnbcifafmefaa
set_option linter.unusedSimpArgs false
set_option linter.unusedVariables false
open Go.RowKit Go.Sort
/-- cmp.Compare -/
def cmpI (x y : Int) : Int := if x < y then -1 else if y < x then 1 else 0
/-- Coordinates of at most M. -/
def Bd (M : Int) (p : Pt) : Prop := -M ≤ p.1 ∧ p.1 ≤ M ∧ -M ≤ p.2 ∧ p.2 ≤ M
theorem mul_bd {a b A B : Int} (h1 : -A ≤ a ∧ a ≤ A) (h2 : -B ≤ b ∧ b ≤ B) : -(A * B) ≤ a * b ∧ a * b ≤ A * B := by
  have e1 := Int.mul_nonneg (a := A - a) (b := B + b) (by omega) (by omega)
  have e2 := Int.mul_nonneg (a := A + a) (b := B - b) (by omega) (by omega)
  have e3 := Int.mul_nonneg (a := A - a) (b := B - b) (by omega) (by omega)
  have e4 := Int.mul_nonneg (a := A + a) (b := B + b) (by omega) (by omega)
  simp only [Int.sub_mul, Int.add_mul, Int.mul_sub, Int.mul_add] at e1 e2 e3 e4
  omega
theorem crs_bd {a b : Pt} {A B : Int} (h1 : Bd A a) (h2 : Bd B b) : (-(A * B) ≤ a.1 * b.2 ∧ a.1 * b.2 ≤ A * B) ∧ (-(A * B) ≤ a.2 * b.1 ∧ a.2 * b.1 ≤ A * B) :=
  ⟨mul_bd ⟨h1.1, h1.2.1⟩ ⟨h2.2.2.1, h2.2.2.2⟩, mul_bd ⟨h1.2.2.1, h1.2.2.2⟩ ⟨h2.1, h2.2.1⟩⟩
theorem isNaN_h (x : Int) (W : World) : Calls Try.prog 77 #[.int .i64 x] W fun e w' => e = .returned (.bool false) ∧ w' = W := by
  go_enter Try.func77, Try.ntmps77
  go_wp2
  go_ret
  exact ⟨by simp, rfl⟩
theorem compare_h (x y : Int) (W : World) : Calls Try.prog 67 #[.int .i64 x, .int .i64 y] W fun e w' => e = .returned (.int .i64 (cmpI x y)) ∧ w' = W := by
  have hcon := isNaN_h
  go_enter Try.func67, Try.ntmps67
  go_wp2_with (go_at_call 77; refine (hcon _ _).mono ?_; rintro e w' ⟨rfl, rfl⟩)
  · go_ret
    exact ⟨ret_int (by unfold cmpI; rw [if_pos (by assumption)]), rfl⟩
  · go_ret
    exact ⟨ret_int (by unfold cmpI; rw [if_neg (by omega), if_pos (by assumption)]), rfl⟩
  · go_ret
    exact ⟨ret_int (by unfold cmpI; rw [if_neg (by omega), if_neg (by omega)]), rfl⟩
set_option maxHeartbeats 1000000 in
theorem cross_h (x y : Pt) (hx : Bd 268435456 x) (hy : Bd 268435456 y) (W : World) : Calls Try.prog 52 #[.agg #[.int .i64 x.1, .int .i64 x.2], .agg #[.int .i64 y.1, .int .i64 y.2]] W fun e w' => e = .returned (.int .i64 (crs x y)) ∧ ∃ os', w' = grow W os' := by
  have hb := crs_bd hx hy
  go_enter Try.func52, Try.ntmps52
  go_wp2
  go_ret
  exact ⟨rfl, _, by rw [alloc_eq_grow, alloc_eq_grow, grow_grow]⟩
set_option maxHeartbeats 1000000 in
theorem canoncmp_h (x y : Pt) (hx : Bd 268435456 x) (hy : Bd 268435456 y) (W : World) : Calls Try.prog 70 #[.agg #[.int .i64 x.1, .int .i64 x.2], .agg #[.int .i64 y.1, .int .i64 y.2]] W fun e w' => e = .returned (.int .i64 (-(cmpI (crs x y) 0))) ∧ ∃ q os', w' = grow (W.drewN q) os' := by
  have hcon := fun W => cross_h x y hx hy W
  have hcon2 := fun W => compare_h (crs x y) 0 W
  have hbb : -1 ≤ cmpI (crs x y) 0 ∧ cmpI (crs x y) 0 ≤ 1 := by unfold cmpI; repeat' split <;> omega
  generalize cmpI (crs x y) 0 = r at *
  generalize crs x y = q at *
  go_enter Try.func70, Try.ntmps70
  go_wp2_with (first | (go_at_call 52; refine (hcon _).mono ?_; rintro e w' ⟨rfl, os', rfl⟩) | (go_at_call 67; refine (hcon2 _).mono ?_; rintro e w' ⟨rfl, rfl⟩))
  go_ret
  exact ⟨rfl, 0, _, by rw [alloc_eq_grow, alloc_eq_grow, grow_grow, grow_grow]; rfl⟩
/-- Generators in the upper half plane, of bounded coordinates. -/
structure Up where
  p : Pt
  up : up p
  bd : Bd 268435456 p
instance : Inhabited Up := ⟨⟨(1, 0), .inr ⟨rfl, by decide⟩, by unfold Bd; simp⟩⟩
theorem ups_of : ∀ l : List Pt, (∀ e ∈ l, up e ∧ Bd 268435456 e) → ∃ zs : List Up, zs.map Up.p = l
  | [], _ => ⟨[], rfl⟩
  | e :: l, h => by
    obtain ⟨zs, hz⟩ := ups_of l fun x hx => h x (by simp [hx])
    exact ⟨⟨e, (h e (by simp)).1, (h e (by simp)).2⟩ :: zs, by simp [hz]⟩
def cfU (x y : Up) : Int := -(cmpI (crs x.p y.p) 0)
theorem ltU (x y : Up) : ltOf cfU x y = decide (0 < crs x.p y.p) := by
  unfold ltOf cfU cmpI
  rw [Bool.eq_iff_iff, decide_eq_true_eq, decide_eq_true_eq]
  repeat' split <;> omega
theorem swoU : SWO (ltOf cfU) where
  irrefl x := by rw [ltU, crs_self]; rfl
  trans x y z h1 h2 := by
    rw [ltU, decide_eq_true_eq] at *
    exact crs_trans x.up y.up z.up h1 h2
  ntrans x y z h1 h2 := by
    rw [ltU, decide_eq_false_iff_not] at *
    have e1 := crs_anti x.p y.p
    have e2 := crs_anti y.p z.p
    have e3 := crs_anti x.p z.p
    have := crs_ntrans z.up y.up x.up (by omega) (by omega)
    omega
set_option maxRecDepth 100000 in
/-- The generators sorted by their directions. -/
theorem sortz_a {H : AHeap} {b n : Nat} {cap : Option Nat} {l : List Pt} (hg : H[b]? = some (.cells true 2 (prs l))) (hu : ∀ e ∈ l, up e ∧ Bd 268435456 e) (hn : n = l.length) (h0 : 0 < n) (h1 : n ≤ 1000000) :
    ACalls Try.prog 69 [.sl (some (b, 0)) n cap, .fn 70 []] H
      (fun v H' => v = .tup [] ∧ ∃ S : List Pt, S.Perm l ∧ S.Pairwise (fun x y => 0 ≤ crs x y) ∧ H' = H.set b (.cells true 2 (prs S))) := by
  have eg : ∀ args w, (callFunc 70 args).run Try.prog w = .ok (.enter 70 args) w := enters_of Try.func70 (by kernel_rfl) rfl
  obtain ⟨zs, rfl⟩ := ups_of l hu
  refine (sortf_a (α := Up) Up.p cfU swoU 70 eg (fun x y W => canoncmp_h x.p y.p x.bd y.bd W) (zs := zs) hg (by simpa using hn) h0 h1).mono ?_
  rintro v H' ⟨rfl, ys, hp, hs, rfl⟩
  refine ⟨rfl, ys.map Up.p, hp.map Up.p, ?_, rfl⟩
  rw [List.pairwise_map]
  refine hs.imp fun {x y} h => ?_
  rw [ltU] at h
  simp only [decide_eq_false_iff_not] at h
  rw [crs_anti] at h
  omega
end Go.Proofs.Ytjfnbcifafmefaa
