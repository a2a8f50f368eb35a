/- Proved: the law DistanceInflates returns true on every input, and its arguments read afterwards as before. Conditions: none beyond the given row's. -/
import Derived.Test.YtpanbblbcnmadaaOpen
import Derived.Test.YtpanbblbcnmadaaAwake35
import Derived.Test.YtpanbblbcnmadaaRInfl
import Derived.Test.YtpanbblbcnmadaaConv
namespace Go.Proofs.Ytpanbblbcnmadaa
open Go.RowKit

theorem infl_pair (W H r2 : Int) (A : Option Addr) (n c : Nat) (xs : List Int) (hn : n = xs.length) : ∃ (W' H' : Int) (ys : List Int) (q : Int),
    (∀ V, Ints V .u8 A xs → Calls Try.prog 24 #[.agg #[.int .i64 W, .int .i64 H, .slice A n c], .int .i64 r2] V (PlanRes W' H' ys q V)) ∧
    (∀ V, Ints V .u8 A xs → Calls Try.prog 25 #[.agg #[.int .i64 W, .int .i64 H, .slice A n c], .int .i64 r2] V (PlanRes W' H' ys q V)) := by
  cases hv : vldB W H xs
  · exact ⟨0, 0, [], 1, fun V h => dinfl_inv _ _ _ _ _ _ xs V hn hv h, fun V h => rinfl_inv _ _ _ _ _ _ xs V hn hv h⟩
  · by_cases hr : r2 < 0 ∨ ¬ r2 < 0 ∧ 8192 < r2
    · exact ⟨0, 0, [], 2, fun V h => dinfl_range _ _ _ _ _ _ xs V hn hv h hr, fun V h => rinfl_range _ _ _ _ _ _ xs V hn hv h hr⟩
    · exact ⟨W, H, _, 0, fun V h => dinfl_t _ _ _ _ _ _ xs V hn hv h (by omega) (by omega), fun V h => rinfl_t _ _ _ _ _ _ xs V hn hv h (by omega) (by omega)⟩

theorem linfl_many (W H r2 : Int) (A : Option Addr) (n c : Nat) (w : World) (hm : ¬ (n : Int) ≤ 200) :
    Calls Try.prog 7 #[.agg #[.int .i64 W, .int .i64 H, .slice A n c], .int .i64 r2] w fun e w' => e = .returned (.bool true) ∧ Below w.heap.size w w' := by
  have Hd : Hid (decide ((n : Int) ≤ 200) = false) := decide_eq_false hm
  clear hm
  go_enter Try.func7, Try.ntmps7
  go_wp2_with fail
  refine (awake_any _).mono ?_
  rintro e w1 ⟨rfl, hb1⟩
  obtain ⟨hc1, hf1, hz1⟩ := after hb1
  go_wp2_with fail
  refine (few_any _ _ _ _ _ _).mono ?_
  rw [Hd.out]
  rintro e w2 ⟨rfl, hb2⟩
  go_wp2_with fail
  refine (awake_any _).mono ?_
  rintro e w3 ⟨rfl, hb3⟩
  go_wp2_with fail
  go_ret
  exact ⟨rfl, bstep (bstep (bstep (ba1 _ _) hb1) hb2) hb3⟩

theorem linfl_few (W H r2 : Int) (A : Option Addr) (n c : Nat) (xs : List Int) (w : World) (hn : n = xs.length) (hr : Ints w .u8 A xs) (hm : (n : Int) ≤ 200) :
    Calls Try.prog 7 #[.agg #[.int .i64 W, .int .i64 H, .slice A n c], .int .i64 r2] w fun e w' => e = .returned (.bool true) ∧ Below w.heap.size w w' := by
  have Hd : Hid (decide ((n : Int) ≤ 200) = true) := decide_eq_true hm
  obtain ⟨W', H', ys, q, K1, K2⟩ := infl_pair W H r2 A n c xs hn
  have H1 := hid K1
  have H2 := hid K2
  clear hm hn K1 K2
  go_enter Try.func7, Try.ntmps7
  go_wp2_with fail
  refine (awake_any _).mono ?_
  rintro e w1 ⟨rfl, hb1⟩
  have hP1 := (Cells.new w [.int .i64 W, .int .i64 H, .slice A n c] 24).below hb1
  obtain ⟨p10, p11, p12⟩ := hP1.three
  go_wp2_with fail
  refine (few_any _ _ _ _ _ _).mono ?_
  rw [Hd.out]
  rintro e w2 ⟨rfl, hb2⟩
  have hB2 := bstep (bstep (ba1 w (.cells #[.int .i64 W, .int .i64 H, .slice A n c] 24)) hb1) hb2
  have hP2 := hP1.below hb2
  obtain ⟨p20, p21, p22⟩ := hP2.three
  go_wp2_with fail
  refine (H1.out _ (hr.below hB2)).mono ?_
  rintro e w3 ⟨A3, c3, rfl, hi3, hb3⟩
  have hP3 := (hP2.below hb3).alloc (.cells #[.int .i64 W', .int .i64 H', .slice A3 ys.length c3] 24)
  have hO3 := Cells.new w3 [.int .i64 W', .int .i64 H', .slice A3 ys.length c3] 24
  have hB3 := bstep (bstep hB2 hb3) (ba1 w3 (.cells #[.int .i64 W', .int .i64 H', .slice A3 ys.length c3] 24))
  obtain ⟨p30, p31, p32⟩ := hP3.three
  go_wp2_with fail
  refine (H2.out _ (hr.below hB3)).mono ?_
  rintro e w4 ⟨A4, c4, rfl, hi4, hb4⟩
  obtain ⟨p40, p41, p42⟩ := ((hO3.below hb4).alloc (.cells #[.int .i64 W', .int .i64 H', .slice A4 ys.length c4] 24)).three
  go_wp2_with fail
  refine (plans_t _ _ _ _ _ _ _ ys _ rfl (((hi3.alloc _).below hb4).alloc _) (hi4.alloc _)).mono ?_
  rintro e w5 ⟨rfl, hb5⟩
  go_wp2_with fail
  go_ret
  exact ⟨rfl, bstep (bstep (bstep hB3 hb4) (ba1 _ _)) hb5⟩

theorem linfl_all (W H r2 : Int) (A : Option Addr) (n c : Nat) (xs : List Int) (w : World) (hn : n = xs.length) (hr : Ints w .u8 A xs) :
    Calls Try.prog 7 #[.agg #[.int .i64 W, .int .i64 H, .slice A n c], .int .i64 r2] w fun e w' => e = .returned (.bool true) ∧ Below w.heap.size w w' := by
  by_cases hm : (n : Int) ≤ 200
  · exact linfl_few _ _ _ _ _ _ xs _ hn hr hm
  · exact linfl_many _ _ _ _ _ _ _ hm

section
open Go.ChangeShapes Go.WideShapes Go.ChangeAt Go.RowKit Go.Joins
open Go.ChangeMaps (open_string shut_string)
set_option maxRecDepth 100000 in
theorem distanceInflates_lifted (os : Os) (started : os.Started) (H : Type) (enc : TypeId × Value → H) :
    ReturnsInHanded {} Try.checked os 7 .any (Rows.distanceInflatesSpec.pre6 enc Try.prog Try.f7 Rows.distanceInflatesRow.domain false) (Rows.distanceInflatesSpec.post enc Try.prog Try.f7 false true false false) := by
  refine returnsInHanded_of_change (C := Try.checked) own started (by kernel_rfl) Try.func7
    (ChangeSpec.witness6 (enc := enc) (C := Try.checked) false ⟨#[], #[.agg #[.int .i64 0, .int .i64 0, .slice none 0 0], .int .i64 0], []⟩ 8 (by kernel_rfl) (by kernel_rfl) (by kernel_rfl) (by kernel_rfl)) ?_
  intro W base args ds gs before hval0 hW hcnd _
  have hval : ∀ (j : Nat) t v, Try.f7.params[j]? = some t → args[j]? = some v → Value.okWide Try.prog W .any base t v := hval0
  have hW' := hW
  obtain ⟨p, q, hA0, hV, rfl, hfz, hnd⟩ := hW
  have hA : DataW.TrodAll enc Try.prog W 0 (fun _ => true) true Try.f7.params.toList args.toList ds p := hA0
  rw [Try.params7] at hA hval
  obtain ⟨v0, vs0, d0, ds0, p0, q0, hargs, rfl, rfl, h0, r0⟩ := trodAll_cons hA
  obtain ⟨v1, vs1, d1, ds1, p1, q1, rfl, rfl, rfl, h1, r1⟩ := trodAll_cons r0
  obtain ⟨rfl, rfl, rfl⟩ := trodAll_nil r1
  obtain rfl : args = #[v0, v1] := by cases args; simp_all
  obtain ⟨rfl, rfl⟩ := trodVars_none hV
  have k0 := h0
  have lt0 : ∀ x ∈ p0, x.block < W.heap.size := by obtain ⟨m, hm⟩ := k0; exact DataW.trod_lt m _ _ _ hm
  have k1 := h1
  have lt1 : ∀ x ∈ p1, x.block < W.heap.size := by obtain ⟨m, hm⟩ := k1; exact DataW.trod_lt m _ _ _ hm
  obtain ⟨W0, H0, A0, n0, c0, xs0, rfl, hn0, hr0, wW0, wH0, wxs0, le0, cap0, hnil0⟩ := open_plan (hval 0 24 v0 rfl rfl) h0
  obtain ⟨a1, rfl, _, _, wa1⟩ := open_int Try.underlying3 (hval 1 3 v1 rfl rfl) h1
  clear hA0 hval0
  refine (linfl_all _ _ _ _ _ _ xs0 W hn0 hr0).mono fun e W' ⟨he, bel⟩ => ?_
  subst he
  exact ⟨_, rfl, _, _, _, [], _, [], hW', trodAll_mk1 (shut_bool Try.underlying4 _), (trodAll_cons_mk (Below.trod laidOut (by kernel_rfl) (of_decide_eq_true (by kernel_rfl)) k0 bel lt0) (trodAll_cons_mk (Below.trod laidOut (by kernel_rfl) (of_decide_eq_true (by kernel_rfl)) k1 bel lt1) trodAll_mk0)), rfl, bel.frame _, fun h => by cases h⟩
theorem distanceInflates_over : Rows.distanceInflatesRow.holds Try.pinned (OpenSpec.ofChange Rows.distanceInflatesSpec) :=
  OpenClaim.holds_of_wide 7 Try.f7 rfl rfl rfl rfl rfl rfl rfl ⟨rfl, rfl, rfl, rfl, rfl⟩ rfl rfl rfl rfl rfl (by kernel_rfl) Try.func7 (by kernel_rfl)
    (of_decide_eq_true (by kernel_rfl)) (by unfold Func.isWrapper; rw [if_neg (by decide +kernel)]; exact ⟨rfl, rfl⟩)
    (fun os started H enc _ => distanceInflates_lifted os started H enc)
/-- The given statement. -/
theorem distanceInflates_proved : Rows.DistanceInflatesSaid := distanceInflates_over
end
end Go.Proofs.Ytpanbblbcnmadaa
