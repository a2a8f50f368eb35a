/- Walk: the law DistanceNeighbours where the plan is not valid, or a cell is not in it, or the plan is large. Conditions: as each theorem states. -/
import Derived.Test.YtpanbblbcnmadaaAwake35
import Derived.Test.YtpanbblbcnmadaaNearBad
namespace Go.Proofs.Ytpanbblbcnmadaa
open Go.RowKit

theorem lneigh_many (W H x y u v : Int) (A : Option Addr) (n c : Nat) (w : World) (hm : ¬ (n : Int) ≤ 200) :
    Calls Try.prog 5 #[.agg #[.int .i64 W, .int .i64 H, .slice A n c], .agg #[.int .i64 x, .int .i64 y], .agg #[.int .i64 u, .int .i64 v]] w fun e w' => e = .returned (.bool true) ∧ Below w.heap.size w w' := by
  have Hd : Hid (decide ((n : Int) ≤ 200) = false) := decide_eq_false hm
  clear hm
  go_enter Try.func5, Try.ntmps5
  go_wp2_with fail
  refine (awake_any _).mono ?_
  rintro e w1 ⟨rfl, hb1⟩
  obtain ⟨hc1, hf1, hz1⟩ := after hb1
  go_wp2_with fail
  refine (few_any _ _ _ _ _ _).mono ?_
  rw [Hd.out]
  rintro e w2 ⟨rfl, hb2⟩
  obtain ⟨hc2, hf2, hz2⟩ := after hb2
  go_wp2_with fail
  refine (awake_any _).mono ?_
  rintro e w3 ⟨rfl, hb3⟩
  go_wp2_with fail
  go_ret
  exact ⟨rfl, bstep (bstep (bstep (ba3 _ _ _ _) hb1) hb2) hb3⟩

set_option maxRecDepth 100000 in
set_option maxHeartbeats 2000000 in
theorem lneigh_bad (W H x y u v : Int) (A : Option Addr) (n c : Nat) (xs : List Int) (w : World) (hn : n = xs.length) (hr : Ints w .u8 A xs) (hm : (n : Int) ≤ 200)
    (hbad : vldB W H xs = false ∨ vldB W H xs = true ∧ (inB W H x y = false ∨ inB W H u v = false)) :
    Calls Try.prog 5 #[.agg #[.int .i64 W, .int .i64 H, .slice A n c], .agg #[.int .i64 x, .int .i64 y], .agg #[.int .i64 u, .int .i64 v]] w fun e w' => e = .returned (.bool true) ∧ Below w.heap.size w w' := by
  have Hn := hid hn
  have Hd : Hid (decide ((n : Int) ≤ 200) = true) := decide_eq_true hm
  clear hn hm
  have K0 : ∃ q : Int, ∀ V, Ints V .u8 A xs → Calls Try.prog 15 #[.agg #[.int .i64 W, .int .i64 H, .slice A n c]] V fun e w' => ∃ s : Value, e = .returned (.tuple #[s, .int .i64 q]) ∧ Below V.heap.size V w' := by
    cases hv : vldB W H xs
    · exact ⟨1, fun V h => (dsquares_f W H A n c xs V Hn.out hv h).mono fun e w' ⟨he, hb⟩ => ⟨_, he, hb⟩⟩
    · exact ⟨0, fun V h => (dsquares_t W H A n c xs V Hn.out (vld_iff.1 hv) h).mono fun e w' ⟨g, arr, _, he, _, _, _, hb⟩ => ⟨_, he, hb⟩⟩
  have K1 : ∃ a b l q : Int, (q != 0) = !(vldB W H xs && inB W H x y) ∧ ((q != 0) = true → l = 0) ∧ (∀ V, Ints V .u8 A xs → Calls Try.prog 19 #[.agg #[.int .i64 W, .int .i64 H, .slice A n c], .agg #[.int .i64 x, .int .i64 y]] V fun e w' => e = .returned (.tuple #[.agg #[.int .i64 a, .int .i64 b], .int .i64 l, .int .i64 q]) ∧ Below V.heap.size V w') := by
    cases hv : vldB W H xs
    · exact ⟨0, 0, 0, 1, rfl, fun _ => rfl, fun V h => dnear_inv _ _ _ _ _ _ _ xs V Hn.out hv h⟩
    · cases hi : inB W H x y
      · exact ⟨0, 0, 0, 7, rfl, fun _ => rfl, fun V h => dnear_out _ _ _ _ _ _ _ xs V Hn.out hv hi h⟩
      · obtain ⟨⟨a, b, l⟩, hq⟩ : ∃ p, nearI W H xs x y = p := ⟨_, rfl⟩
        refine ⟨a, b, l, 0, rfl, (by intro h; cases h), fun V h => (dnear_any _ _ _ _ _ _ _ xs V Hn.out (vld_iff.1 hv) hi h).mono ?_⟩
        rintro e w' ⟨a', b', l', hq', rfl, hb⟩
        rw [hq] at hq'
        injection hq' with h1 h2
        injection h2 with h2 h3
        subst h1 h2 h3
        exact ⟨rfl, hb⟩
  have K2 : ∃ a b l q : Int, (q != 0) = !(vldB W H xs && inB W H u v) ∧ ((q != 0) = true → l = 0) ∧ (∀ V, Ints V .u8 A xs → Calls Try.prog 19 #[.agg #[.int .i64 W, .int .i64 H, .slice A n c], .agg #[.int .i64 u, .int .i64 v]] V fun e w' => e = .returned (.tuple #[.agg #[.int .i64 a, .int .i64 b], .int .i64 l, .int .i64 q]) ∧ Below V.heap.size V w') := by
    cases hv : vldB W H xs
    · exact ⟨0, 0, 0, 1, rfl, fun _ => rfl, fun V h => dnear_inv _ _ _ _ _ _ _ xs V Hn.out hv h⟩
    · cases hi : inB W H u v
      · exact ⟨0, 0, 0, 7, rfl, fun _ => rfl, fun V h => dnear_out _ _ _ _ _ _ _ xs V Hn.out hv hi h⟩
      · obtain ⟨⟨a, b, l⟩, hq⟩ : ∃ p, nearI W H xs u v = p := ⟨_, rfl⟩
        refine ⟨a, b, l, 0, rfl, (by intro h; cases h), fun V h => (dnear_any _ _ _ _ _ _ _ xs V Hn.out (vld_iff.1 hv) hi h).mono ?_⟩
        rintro e w' ⟨a', b', l', hq', rfl, hb⟩
        rw [hq] at hq'
        injection hq' with h1 h2
        injection h2 with h2 h3
        subst h1 h2 h3
        exact ⟨rfl, hb⟩
  obtain ⟨q0, k0⟩ := K0
  obtain ⟨a1, b1, l1, q1, e1, z1, k1⟩ := K1
  obtain ⟨a2, b2, l2, q2, e2, z2, k2⟩ := K2
  have hq : (q1 != 0) = true ∨ (q1 != 0) = false ∧ (q2 != 0) = true := by
    rcases hbad with h | ⟨h, h2 | h2⟩
    · left; rw [e1, h]; rfl
    · left; rw [e1, h2]; simp
    · cases hi : inB W H x y
      · left; rw [e1, hi]; simp
      · right; rw [e1, e2, hi, h2, h]; exact ⟨rfl, rfl⟩
  have Z1 := hid z1
  have Z2 := hid z2
  have H0 := hid k0
  have H1 := hid k1
  have H2 := hid k2
  clear z1 z2 k0 k1 k2 e1 e2 hbad
  have hz : (q1 != 0) = true ∧ (l1 == 0) = true ∨ (q1 != 0) = false ∧ (q2 != 0) = true ∧ (l2 == 0) = true := by
    rcases hq with hq1 | ⟨hq1, hq2⟩
    · exact .inl ⟨hq1, by rw [Z1.out hq1]; rfl⟩
    · exact .inr ⟨hq1, hq2, by rw [Z2.out hq2]; rfl⟩
  clear hq Z1 Z2
  cases hq0 : (q0 != 0)
  all_goals
    rcases hz with ⟨hq1, hl⟩ | ⟨hq1, hq2, hl⟩
    all_goals
      cases hl1 : (l1 == 0)
      all_goals
        first
          | (exfalso; rw [hl1] at hl; cases hl; done)
          | (go_enter Try.func5, Try.ntmps5
             go_wp2_with fail
             refine (awake_any _).mono ?_
             rintro e w1 ⟨rfl, hb1⟩
             have hP1 := (((Cells.new w [.int .i64 W, .int .i64 H, .slice A n c] 24).alloc (.cells #[.int .i64 x, .int .i64 y] 35)).alloc (.cells #[.int .i64 u, .int .i64 v] 35)).below hb1
             have hC1 := ((Cells.new' (b := w.heap.size + 1) (w.alloc (.cells #[.int .i64 W, .int .i64 H, .slice A n c] 24)) [.int .i64 x, .int .i64 y] 35 (by simp)).alloc (.cells #[.int .i64 u, .int .i64 v] 35)).below hb1
             have hD1 := (Cells.new' (b := w.heap.size + 1 + 1) ((w.alloc (.cells #[.int .i64 W, .int .i64 H, .slice A n c] 24)).alloc (.cells #[.int .i64 x, .int .i64 y] 35)) [.int .i64 u, .int .i64 v] 35 (by simp)).below hb1
             obtain ⟨p10, p11, p12⟩ := hP1.three
             go_wp2_with fail
             refine (few_any _ _ _ _ _ _).mono ?_
             rw [Hd.out]
             rintro e w2 ⟨rfl, hb2⟩
             have hB2 := bstep (bstep (ba3 w (.cells #[.int .i64 W, .int .i64 H, .slice A n c] 24) (.cells #[.int .i64 x, .int .i64 y] 35) (.cells #[.int .i64 u, .int .i64 v] 35)) hb1) hb2
             have hr2 : Ints w2 .u8 A xs := hr.below hB2
             obtain ⟨p20, p21, p22⟩ := (hP1.below hb2).three
             go_wp2_with fail
             refine (H0.out _ hr2).mono ?_
             rintro e w3 ⟨s0, rfl, hb3⟩
             obtain ⟨p30, p31, p32⟩ := ((hP1.below hb2).below hb3).three
             obtain ⟨⟨p33, p34⟩, -⟩ := ((hC1.below hb2).below hb3).two
             go_wp2_with fail
             refine (H1.out _ (hr2.below hb3)).mono ?_
             rintro e w4 ⟨rfl, hb4⟩
             obtain ⟨p40, p41, p42⟩ := ((((hP1.below hb2).below hb3).below hb4).alloc (.cells #[.int .i64 a1, .int .i64 b1] 35)).three
             obtain ⟨⟨p43, p44⟩, -⟩ := ((((hD1.below hb2).below hb3).below hb4).alloc (.cells #[.int .i64 a1, .int .i64 b1] 35)).two
             go_wp2_with fail
             refine (H2.out _ (((hr2.below hb3).below hb4).alloc _)).mono ?_
             rintro e w5 ⟨rfl, hb5⟩
             go_wp2_with fail
             go_ret
             exact ⟨rfl, bstep (bstep (bstep (bstep (bstep hB2 hb3) hb4) (ba1 _ _)) hb5) (ba1 _ _)⟩)

end Go.Proofs.Ytpanbblbcnmadaa
