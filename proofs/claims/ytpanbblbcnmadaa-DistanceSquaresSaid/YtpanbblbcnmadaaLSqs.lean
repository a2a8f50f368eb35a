/- Proved: the law DistanceSquares returns true on every input, and its arguments read afterwards as before. Conditions: none beyond the given row's. -/
import Derived.Test.YtpanbblbcnmadaaOpen
import Derived.Test.YtpanbblbcnmadaaAwake35
import Derived.Test.YtpanbblbcnmadaaRSqs
import Derived.Test.YtpanbblbcnmadaaClone
import Derived.Test.YtpanbblbcnmadaaConv
namespace Go.Proofs.Ytpanbblbcnmadaa
open Go.RowKit

/-- Numbers and an error number are returned. -/
def IntsRes (zs : List Int) (q : Int) (w : World) (e : Ending) (w' : World) : Prop :=
  ∃ A c, e = .returned (.tuple #[.slice A zs.length c, .int .i64 q]) ∧ Ints w' .i64 A zs ∧ Below w.heap.size w w'

def sqsOr (W H : Int) (xs : List Int) : List Int := if vldB W H xs then sqs W H xs else []
def sqsErr (W H : Int) (xs : List Int) : Int := if vldB W H xs then 0 else 1

theorem dsq_any (W H : Int) (A : Option Addr) (n c : Nat) (xs : List Int) (w : World) (hn : n = xs.length) (hr : Ints w .u8 A xs) :
    Calls Try.prog 15 #[.agg #[.int .i64 W, .int .i64 H, .slice A n c]] w (IntsRes (sqsOr W H xs) (sqsErr W H xs) w) := by
  cases hv : vldB W H xs
  · refine (dsquares_f W H A n c xs w hn hv hr).mono ?_
    rintro e w' ⟨rfl, hb⟩
    unfold sqsOr sqsErr
    rw [hv]
    exact ⟨none, 0, rfl, .inl rfl, hb⟩
  · refine (dsquares_t W H A n c xs w hn (vld_iff.1 hv) hr).mono ?_
    rintro e w' ⟨g, arr, hg, rfl, hl, rfl, ha, hb⟩
    unfold sqsOr sqsErr
    rw [hv]
    exact ⟨_, _, by rw [← hl]; rfl, ha.ints, hb⟩

theorem rsq_any (W H : Int) (A : Option Addr) (n c : Nat) (xs : List Int) (w : World) (hn : n = xs.length) (hr : Ints w .u8 A xs) :
    Calls Try.prog 16 #[.agg #[.int .i64 W, .int .i64 H, .slice A n c]] w (IntsRes (sqsOr W H xs) (sqsErr W H xs) w) := by
  cases hv : vldB W H xs
  · refine (rsquares_f W H A n c xs w hn hv hr).mono ?_
    rintro e w' ⟨rfl, hb⟩
    unfold sqsOr sqsErr
    rw [hv]
    exact ⟨none, 0, rfl, .inl rfl, hb⟩
  · refine (rsquares_t W H A n c xs w hn (vld_iff.1 hv) hr).mono ?_
    rintro e w' ⟨v, rfl, hown, hb⟩
    obtain ⟨A', c', rfl, hi⟩ := own_ints hown
    unfold sqsOr sqsErr
    rw [hv]
    exact ⟨_, _, rfl, hi, hb⟩

theorem sqsOr_len (W H : Int) (xs : List Int) : (sqsOr W H xs).length ≤ 4096 := by
  unfold sqsOr
  split
  · rename_i h
    have := (vld_iff.1 h).pos
    rw [sqs_len]; omega
  · simp

theorem lsqs_many (W H : Int) (A : Option Addr) (n c : Nat) (w : World) (hm : ¬ (n : Int) ≤ 200) :
    Calls Try.prog 3 #[.agg #[.int .i64 W, .int .i64 H, .slice A n c]] w fun e w' => e = .returned (.bool true) ∧ Below w.heap.size w w' := by
  have Hd : Hid (decide ((n : Int) ≤ 200) = false) := decide_eq_false hm
  clear hm
  go_enter Try.func3, Try.ntmps3
  go_wp2_with fail
  refine (awake_any _).mono ?_
  rintro e w1 ⟨rfl, hb1⟩
  obtain ⟨hc1, hf1, hz1⟩ := after hb1
  go_wp2_with fail
  refine (few_any _ _ _ _ _ _).mono ?_
  rw [Hd.out]
  rintro e w2 ⟨rfl, hb2⟩
  obtain ⟨hc2, hf2, hz2⟩ := after hb2
  go_wp2_with fail
  refine (awake_any _).mono ?_
  rintro e w3 ⟨rfl, hb3⟩
  go_wp2_with fail
  go_ret
  exact ⟨rfl, bstep (bstep (bstep (ba1 _ _) hb1) hb2) hb3⟩

set_option maxHeartbeats 1000000 in
theorem lsqs_few (W H : Int) (A : Option Addr) (n c : Nat) (xs : List Int) (w : World) (hn : n = xs.length) (hnil : A = none → n = 0) (hr : Ints w .u8 A xs) (hm : (n : Int) ≤ 200) :
    Calls Try.prog 3 #[.agg #[.int .i64 W, .int .i64 H, .slice A n c]] w fun e w' => e = .returned (.bool true) ∧ Below w.heap.size w w' := by
  have Hn := hid hn
  have Hnil := hid hnil
  have Hd : Hid (decide ((n : Int) ≤ 200) = true) := decide_eq_true hm
  have hl : n ≤ 1073741824 := by omega
  have Hl := hid (sqsOr_len W H xs)
  clear hn hnil hm
  go_enter Try.func3, Try.ntmps3
  go_wp2_with fail
  refine (awake_any _).mono ?_
  rintro e w1 ⟨rfl, hb1⟩
  have hP1 := (Cells.new w [.int .i64 W, .int .i64 H, .slice A n c] 24).below hb1
  obtain ⟨p10, p11, p12⟩ := hP1.three
  go_wp2_with fail
  refine (few_any _ _ _ _ _ _).mono ?_
  rw [Hd.out]
  rintro e w2 ⟨rfl, hb2⟩
  have hB2 := bstep (bstep (ba1 w (.cells #[.int .i64 W, .int .i64 H, .slice A n c] 24)) hb1) hb2
  have hr2 : Ints w2 .u8 A xs := hr.below hB2
  have hP2 := hP1.below hb2
  obtain ⟨p20, p21, p22⟩ := hP2.three
  go_wp2_with fail
  refine (clone_any _ _ _ _ _ xs _ Hn.out Hnil.out hl hr2).mono ?_
  rintro e w3 ⟨v, rfl, hown, hb3⟩
  obtain ⟨A3, c3, rfl, hr3⟩ := own_ints hown
  have hB3 := bstep hB2 hb3
  have hP3 := hP2.below hb3
  have hO3 := Cells.new w3 [.int .i64 W, .int .i64 H, .slice A3 xs.length c3] 24
  clear hown
  go_wp2_with fail
  refine (dsq_any _ _ _ _ _ xs _ rfl (hr3.alloc _)).mono ?_
  rintro e w4 ⟨A4, c4, rfl, hi4, hb4⟩
  have hB4 := bstep (bstep hB3 (ba1 _ _)) hb4
  have hP4 := (hP3.alloc (.cells #[.int .i64 W, .int .i64 H, .slice A3 xs.length c3] 24)).below hb4
  obtain ⟨p0, p1, p2⟩ := hP4.three
  go_wp2_with fail
  refine (rsq_any _ _ _ _ _ xs _ Hn.out (hr.below hB4)).mono ?_
  rintro e w5 ⟨A5, c5, rfl, hi5, hb5⟩
  have hO5 := (hO3.below hb4).below hb5
  go_wp2_with fail
  refine (ints_t _ _ _ _ _ (sqsOr W H xs) _ rfl (by have := Hl.out; omega) (hi4.below hb5) hi5).mono ?_
  rintro e w6 ⟨rfl, hb6⟩
  obtain ⟨a0, a1, a2⟩ := (hO5.below hb6).three
  obtain ⟨b0, b1, b2⟩ := ((hP4.below hb5).below hb6).three
  have hB6 := bstep (bstep hB4 hb5) hb6
  rw [Hn.out] at b2
  go_wp2_with fail
  refine (plans_t _ _ _ _ _ _ _ xs _ rfl ((((hr3.alloc _).below hb4).below hb5).below hb6) (hr.below hB6)).mono ?_
  rintro e w7 ⟨rfl, hb7⟩
  go_wp2_with fail
  go_ret
  exact ⟨rfl, bstep hB6 hb7⟩

theorem lsqs_all (W H : Int) (A : Option Addr) (n c : Nat) (xs : List Int) (w : World) (hn : n = xs.length) (hnil : A = none → n = 0) (hr : Ints w .u8 A xs) :
    Calls Try.prog 3 #[.agg #[.int .i64 W, .int .i64 H, .slice A n c]] w fun e w' => e = .returned (.bool true) ∧ Below w.heap.size w w' := by
  by_cases hm : (n : Int) ≤ 200
  · exact lsqs_few _ _ _ _ _ xs _ hn hnil hr hm
  · exact lsqs_many _ _ _ _ _ _ hm

section
open Go.ChangeShapes Go.WideShapes Go.ChangeAt Go.RowKit Go.Joins
open Go.ChangeMaps (open_string shut_string)
set_option maxRecDepth 100000 in
theorem distanceSquares_lifted (os : Os) (started : os.Started) (H : Type) (enc : TypeId × Value → H) :
    ReturnsInHanded {} Try.checked os 3 .any (Rows.distanceSquaresSpec.pre6 enc Try.prog Try.f3 Rows.distanceSquaresRow.domain false) (Rows.distanceSquaresSpec.post enc Try.prog Try.f3 false true false false) := by
  refine returnsInHanded_of_change (C := Try.checked) own started (by kernel_rfl) Try.func3
    (ChangeSpec.witness6 (enc := enc) (C := Try.checked) false ⟨#[], #[.agg #[.int .i64 0, .int .i64 0, .slice none 0 0]], []⟩ 8 (by kernel_rfl) (by kernel_rfl) (by kernel_rfl) (by kernel_rfl)) ?_
  intro W base args ds gs before hval0 hW hcnd _
  have hval : ∀ (j : Nat) t v, Try.f3.params[j]? = some t → args[j]? = some v → Value.okWide Try.prog W .any base t v := hval0
  have hW' := hW
  obtain ⟨p, q, hA0, hV, rfl, hfz, hnd⟩ := hW
  have hA : DataW.TrodAll enc Try.prog W 0 (fun _ => true) true Try.f3.params.toList args.toList ds p := hA0
  rw [Try.params3] at hA hval
  obtain ⟨v0, vs0, d0, ds0, p0, q0, hargs, rfl, rfl, h0, r0⟩ := trodAll_cons hA
  obtain ⟨rfl, rfl, rfl⟩ := trodAll_nil r0
  obtain rfl : args = #[v0] := by cases args; simp_all
  obtain ⟨rfl, rfl⟩ := trodVars_none hV
  have k0 := h0
  have lt0 : ∀ x ∈ p0, x.block < W.heap.size := by obtain ⟨m, hm⟩ := k0; exact DataW.trod_lt m _ _ _ hm
  obtain ⟨W0, H0, A0, n0, c0, xs0, rfl, hn0, hr0, wW0, wH0, wxs0, le0, cap0, hnil0⟩ := open_plan (hval 0 24 v0 rfl rfl) h0
  clear hA0 hval0
  refine (lsqs_all _ _ _ _ _ xs0 W hn0 hnil0 hr0).mono fun e W' ⟨he, bel⟩ => ?_
  subst he
  exact ⟨_, rfl, _, _, _, [], _, [], hW', trodAll_mk1 (shut_bool Try.underlying4 _), (trodAll_cons_mk (Below.trod laidOut (by kernel_rfl) (of_decide_eq_true (by kernel_rfl)) k0 bel lt0) trodAll_mk0), rfl, bel.frame _, fun h => by cases h⟩
theorem distanceSquares_over : Rows.distanceSquaresRow.holds Try.pinned (OpenSpec.ofChange Rows.distanceSquaresSpec) :=
  OpenClaim.holds_of_wide 3 Try.f3 rfl rfl rfl rfl rfl rfl rfl ⟨rfl, rfl, rfl, rfl, rfl⟩ rfl rfl rfl rfl rfl (by kernel_rfl) Try.func3 (by kernel_rfl)
    (of_decide_eq_true (by kernel_rfl)) (by unfold Func.isWrapper; rw [if_neg (by decide +kernel)]; exact ⟨rfl, rfl⟩)
    (fun os started H enc _ => distanceSquares_lifted os started H enc)
/-- The given statement. -/
theorem distanceSquares_proved : Rows.DistanceSquaresSaid := distanceSquares_over
end
end Go.Proofs.Ytpanbblbcnmadaa
