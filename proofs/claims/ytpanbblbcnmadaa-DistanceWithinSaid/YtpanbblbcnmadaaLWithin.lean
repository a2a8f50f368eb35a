/- Proved: the law DistanceWithin returns true on every input, and its arguments read afterwards as before. Conditions: none beyond the given row's. -/
import Derived.Test.YtpanbblbcnmadaaOpen
import Derived.Test.YtpanbblbcnmadaaAwake35
import Derived.Test.YtpanbblbcnmadaaWithin
import Derived.Test.YtpanbblbcnmadaaCellsEq
namespace Go.Proofs.Ytpanbblbcnmadaa
open Go.RowKit

theorem within_pair (W H x y r2 : Int) (A : Option Addr) (n c : Nat) (xs : List Int) (hn : n = xs.length) : ∃ (cs : List (Int × Int)) (q : Int), cs.length ≤ 4096 ∧
    (∀ V, Ints V .u8 A xs → Calls Try.prog 26 #[.agg #[.int .i64 W, .int .i64 H, .slice A n c], .agg #[.int .i64 x, .int .i64 y], .int .i64 r2] V (PtsRes cs q V)) ∧
    (∀ V, Ints V .u8 A xs → Calls Try.prog 27 #[.agg #[.int .i64 W, .int .i64 H, .slice A n c], .agg #[.int .i64 x, .int .i64 y], .int .i64 r2] V (PtsRes cs q V)) := by
  cases hv : vldB W H xs
  · exact ⟨[], 1, by simp, fun V h => dwithin_inv _ _ _ _ _ _ _ _ xs V hn hv h, fun V h => rwithin_inv _ _ _ _ _ _ _ _ xs V hn hv h⟩
  · cases hi : inB W H x y
    · exact ⟨[], 7, by simp, fun V h => dwithin_out _ _ _ _ _ _ _ _ xs V hn hv hi h, fun V h => rwithin_out _ _ _ _ _ _ _ _ xs V hn hv hi h⟩
    · by_cases hr : r2 < 0 ∨ ¬ r2 < 0 ∧ 8192 < r2
      · exact ⟨[], 2, by simp, fun V h => dwithin_range _ _ _ _ _ _ _ _ xs V hn hv hi h hr, fun V h => rwithin_range _ _ _ _ _ _ _ _ xs V hn hv hi h hr⟩
      · refine ⟨_, 0, ?_, fun V h => dwithin_t _ _ _ _ _ _ _ _ xs V hn hv hi h (by omega) (by omega), fun V h => rwithin_t _ _ _ _ _ _ _ _ xs V hn hv hi h (by omega) (by omega)⟩
        have hV := vld_iff.1 hv
        have := hV.w1
        have := hV.h1
        have h1 := wgrid_len W.toNat x y r2 H.toNat
        have h2 : H.toNat * W.toNat ≤ 64 * 64 := Nat.mul_le_mul (by omega) (by omega)
        omega

theorem lwithin_many (W H x y r2 : Int) (A : Option Addr) (n c : Nat) (w : World) (hm : ¬ (n : Int) ≤ 200) :
    Calls Try.prog 8 #[.agg #[.int .i64 W, .int .i64 H, .slice A n c], .agg #[.int .i64 x, .int .i64 y], .int .i64 r2] w fun e w' => e = .returned (.bool true) ∧ Below w.heap.size w w' := by
  have Hd : Hid (decide ((n : Int) ≤ 200) = false) := decide_eq_false hm
  clear hm
  go_enter Try.func8, Try.ntmps8
  go_wp2_with fail
  refine (awake_any _).mono ?_
  rintro e w1 ⟨rfl, hb1⟩
  obtain ⟨hc1, hf1, hz1⟩ := after hb1
  go_wp2_with fail
  refine (few_any _ _ _ _ _ _).mono ?_
  rw [Hd.out]
  rintro e w2 ⟨rfl, hb2⟩
  go_wp2_with fail
  refine (awake_any _).mono ?_
  rintro e w3 ⟨rfl, hb3⟩
  go_wp2_with fail
  go_ret
  exact ⟨rfl, bstep (bstep (bstep (ba2 _ _ _) hb1) hb2) hb3⟩

theorem lwithin_few (W H x y r2 : Int) (A : Option Addr) (n c : Nat) (xs : List Int) (w : World) (hn : n = xs.length) (hr : Ints w .u8 A xs) (hm : (n : Int) ≤ 200) :
    Calls Try.prog 8 #[.agg #[.int .i64 W, .int .i64 H, .slice A n c], .agg #[.int .i64 x, .int .i64 y], .int .i64 r2] w fun e w' => e = .returned (.bool true) ∧ Below w.heap.size w w' := by
  have Hd : Hid (decide ((n : Int) ≤ 200) = true) := decide_eq_true hm
  obtain ⟨cs, q, hl, K1, K2⟩ := within_pair W H x y r2 A n c xs hn
  have H1 := hid K1
  have H2 := hid K2
  clear hm hn K1 K2
  go_enter Try.func8, Try.ntmps8
  go_wp2_with fail
  refine (awake_any _).mono ?_
  rintro e w1 ⟨rfl, hb1⟩
  have hP1 := ((Cells.new w [.int .i64 W, .int .i64 H, .slice A n c] 24).alloc (.cells #[.int .i64 x, .int .i64 y] 35)).below hb1
  have hC1 := (Cells.new' (b := w.heap.size + 1) (w.alloc (.cells #[.int .i64 W, .int .i64 H, .slice A n c] 24)) [.int .i64 x, .int .i64 y] 35 (by simp)).below hb1
  obtain ⟨p10, p11, p12⟩ := hP1.three
  go_wp2_with fail
  refine (few_any _ _ _ _ _ _).mono ?_
  rw [Hd.out]
  rintro e w2 ⟨rfl, hb2⟩
  have hB2 := bstep (bstep (ba2 w (.cells #[.int .i64 W, .int .i64 H, .slice A n c] 24) (.cells #[.int .i64 x, .int .i64 y] 35)) hb1) hb2
  have hr2 := hr.below hB2
  obtain ⟨p20, p21, p22⟩ := (hP1.below hb2).three
  obtain ⟨⟨p23, p24⟩, -⟩ := (hC1.below hb2).two
  go_wp2_with fail
  refine (H1.out _ hr2).mono ?_
  rintro e w3 ⟨A3, c3, rfl, hp3, hb3⟩
  obtain ⟨p30, p31, p32⟩ := ((hP1.below hb2).below hb3).three
  obtain ⟨⟨p33, p34⟩, -⟩ := ((hC1.below hb2).below hb3).two
  go_wp2_with fail
  refine (H2.out _ (hr2.below hb3)).mono ?_
  rintro e w4 ⟨A4, c4, rfl, hp4, hb4⟩
  go_wp2_with fail
  refine (cellsEq_t _ _ _ _ _ cs _ rfl (by omega) (hp3.below hb4) hp4).mono ?_
  rintro e w5 ⟨rfl, hb5⟩
  go_wp2_with fail
  go_ret
  exact ⟨rfl, bstep (bstep (bstep hB2 hb3) hb4) hb5⟩

theorem lwithin_all (W H x y r2 : Int) (A : Option Addr) (n c : Nat) (xs : List Int) (w : World) (hn : n = xs.length) (hr : Ints w .u8 A xs) :
    Calls Try.prog 8 #[.agg #[.int .i64 W, .int .i64 H, .slice A n c], .agg #[.int .i64 x, .int .i64 y], .int .i64 r2] w fun e w' => e = .returned (.bool true) ∧ Below w.heap.size w w' := by
  by_cases hm : (n : Int) ≤ 200
  · exact lwithin_few _ _ _ _ _ _ _ _ xs _ hn hr hm
  · exact lwithin_many _ _ _ _ _ _ _ _ _ hm

section
open Go.ChangeShapes Go.WideShapes Go.ChangeAt Go.RowKit Go.Joins
open Go.ChangeMaps (open_string shut_string)
set_option maxRecDepth 100000 in
theorem distanceWithin_lifted (os : Os) (started : os.Started) (H : Type) (enc : TypeId × Value → H) :
    ReturnsInHanded {} Try.checked os 8 .any (Rows.distanceWithinSpec.pre6 enc Try.prog Try.f8 Rows.distanceWithinRow.domain false) (Rows.distanceWithinSpec.post enc Try.prog Try.f8 false true false false) := by
  refine returnsInHanded_of_change (C := Try.checked) own started (by kernel_rfl) Try.func8
    (ChangeSpec.witness6 (enc := enc) (C := Try.checked) false ⟨#[], #[.agg #[.int .i64 0, .int .i64 0, .slice none 0 0], .agg #[.int .i64 0, .int .i64 0], .int .i64 0], []⟩ 8 (by kernel_rfl) (by kernel_rfl) (by kernel_rfl) (by kernel_rfl)) ?_
  intro W base args ds gs before hval0 hW hcnd _
  have hval : ∀ (j : Nat) t v, Try.f8.params[j]? = some t → args[j]? = some v → Value.okWide Try.prog W .any base t v := hval0
  have hW' := hW
  obtain ⟨p, q, hA0, hV, rfl, hfz, hnd⟩ := hW
  have hA : DataW.TrodAll enc Try.prog W 0 (fun _ => true) true Try.f8.params.toList args.toList ds p := hA0
  rw [Try.params8] at hA hval
  obtain ⟨v0, vs0, d0, ds0, p0, q0, hargs, rfl, rfl, h0, r0⟩ := trodAll_cons hA
  obtain ⟨v1, vs1, d1, ds1, p1, q1, rfl, rfl, rfl, h1, r1⟩ := trodAll_cons r0
  obtain ⟨v2, vs2, d2, ds2, p2, q2, rfl, rfl, rfl, h2, r2⟩ := trodAll_cons r1
  obtain ⟨rfl, rfl, rfl⟩ := trodAll_nil r2
  obtain rfl : args = #[v0, v1, v2] := by cases args; simp_all
  obtain ⟨rfl, rfl⟩ := trodVars_none hV
  have k0 := h0
  have lt0 : ∀ x ∈ p0, x.block < W.heap.size := by obtain ⟨m, hm⟩ := k0; exact DataW.trod_lt m _ _ _ hm
  have k1 := h1
  have lt1 : ∀ x ∈ p1, x.block < W.heap.size := by obtain ⟨m, hm⟩ := k1; exact DataW.trod_lt m _ _ _ hm
  have k2 := h2
  have lt2 : ∀ x ∈ p2, x.block < W.heap.size := by obtain ⟨m, hm⟩ := k2; exact DataW.trod_lt m _ _ _ hm
  obtain ⟨W0, H0, A0, n0, c0, xs0, rfl, hn0, hr0, wW0, wH0, wxs0, le0, cap0, hnil0⟩ := open_plan (hval 0 24 v0 rfl rfl) h0
  obtain ⟨x1, y1, rfl, wx1, wy1⟩ := open_cell (hval 1 35 v1 rfl rfl) h1
  obtain ⟨a2, rfl, _, _, wa2⟩ := open_int Try.underlying3 (hval 2 3 v2 rfl rfl) h2
  clear hA0 hval0
  refine (lwithin_all _ _ _ _ _ _ _ _ xs0 W hn0 hr0).mono fun e W' ⟨he, bel⟩ => ?_
  subst he
  exact ⟨_, rfl, _, _, _, [], _, [], hW', trodAll_mk1 (shut_bool Try.underlying4 _), (trodAll_cons_mk (Below.trod laidOut (by kernel_rfl) (of_decide_eq_true (by kernel_rfl)) k0 bel lt0) (trodAll_cons_mk (Below.trod laidOut (by kernel_rfl) (of_decide_eq_true (by kernel_rfl)) k1 bel lt1) (trodAll_cons_mk (Below.trod laidOut (by kernel_rfl) (of_decide_eq_true (by kernel_rfl)) k2 bel lt2) trodAll_mk0))), rfl, bel.frame _, fun h => by cases h⟩
theorem distanceWithin_over : Rows.distanceWithinRow.holds Try.pinned (OpenSpec.ofChange Rows.distanceWithinSpec) :=
  OpenClaim.holds_of_wide 8 Try.f8 rfl rfl rfl rfl rfl rfl rfl ⟨rfl, rfl, rfl, rfl, rfl⟩ rfl rfl rfl rfl rfl (by kernel_rfl) Try.func8 (by kernel_rfl)
    (of_decide_eq_true (by kernel_rfl)) (by unfold Func.isWrapper; rw [if_neg (by decide +kernel)]; exact ⟨rfl, rfl⟩)
    (fun os started H enc _ => distanceWithin_lifted os started H enc)
/-- The given statement. -/
theorem distanceWithin_proved : Rows.DistanceWithinSaid := distanceWithin_over
end
end Go.Proofs.Ytpanbblbcnmadaa
