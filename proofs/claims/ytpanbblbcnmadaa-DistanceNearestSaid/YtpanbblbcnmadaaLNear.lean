/- The law DistanceNearest returns true on every input: the walk. Conditions: as the theorem states (the plan's cells read as a list). -/
import Derived.Test.YtpanbblbcnmadaaAwake35
import Derived.Test.YtpanbblbcnmadaaNear
import Derived.Test.YtpanbblbcnmadaaNearBad
namespace Go.Proofs.Ytpanbblbcnmadaa
open Go.RowKit

theorem lnear_many (W H x y : Int) (A : Option Addr) (n c : Nat) (w : World) (hm : ¬ (n : Int) ≤ 200) :
    Calls Try.prog 4 #[.agg #[.int .i64 W, .int .i64 H, .slice A n c], .agg #[.int .i64 x, .int .i64 y]] w fun e w' => e = .returned (.bool true) ∧ Below w.heap.size w w' := by
  have Hd : Hid (decide ((n : Int) ≤ 200) = false) := decide_eq_false hm
  clear hm
  go_enter Try.func4, Try.ntmps4
  go_wp2_with fail
  refine (awake_any _).mono ?_
  rintro e w1 ⟨rfl, hb1⟩
  obtain ⟨hc1, hf1, hz1⟩ := after hb1
  go_wp2_with fail
  refine (few_any _ _ _ _ _ _).mono ?_
  rw [Hd.out]
  rintro e w2 ⟨rfl, hb2⟩
  obtain ⟨hc2, hf2, hz2⟩ := after hb2
  go_wp2_with fail
  refine (awake_any _).mono ?_
  rintro e w3 ⟨rfl, hb3⟩
  go_wp2_with fail
  go_ret
  exact ⟨rfl, bstep (bstep (bstep (ba2 _ _ _) hb1) hb2) hb3⟩

theorem lnear_few (W H x y : Int) (A : Option Addr) (n c : Nat) (xs : List Int) (w : World) (hn : n = xs.length) (hr : Ints w .u8 A xs) (hm : (n : Int) ≤ 200) :
    Calls Try.prog 4 #[.agg #[.int .i64 W, .int .i64 H, .slice A n c], .agg #[.int .i64 x, .int .i64 y]] w fun e w' => e = .returned (.bool true) ∧ Below w.heap.size w w' := by
  have Hn := hid hn
  have Hd : Hid (decide ((n : Int) ≤ 200) = true) := decide_eq_true hm
  clear hn hm
  go_enter Try.func4, Try.ntmps4
  go_wp2_with fail
  refine (awake_any _).mono ?_
  rintro e w1 ⟨rfl, hb1⟩
  obtain ⟨hc1, hf1, hz1⟩ := after hb1
  go_wp2_with fail
  refine (few_any _ _ _ _ _ _).mono ?_
  rw [Hd.out]
  rintro e w2 ⟨rfl, hb2⟩
  obtain ⟨hc2, hf2, hz2⟩ := after hb2
  have hr2 : Ints w2 .u8 A xs := ((((hr.alloc _).alloc _).below hb1).below hb2)
  have hB2 := bstep (bstep (ba2 _ _ _) hb1) hb2
  have e1 := lt_after hb1 (b := w.heap.size) (by simp; omega)
  have e2 := lt_after hb1 (b := w.heap.size + 1) (by simp)
  go_wp2_with fail
  have key : ∃ a b l q : Int, (∀ V, Ints V .u8 A xs → Calls Try.prog 19 #[.agg #[.int .i64 W, .int .i64 H, .slice A n c], .agg #[.int .i64 x, .int .i64 y]] V fun e w' => e = .returned (.tuple #[.agg #[.int .i64 a, .int .i64 b], .int .i64 l, .int .i64 q]) ∧ Below V.heap.size V w') ∧
      (∀ V, Ints V .u8 A xs → Calls Try.prog 20 #[.agg #[.int .i64 W, .int .i64 H, .slice A n c], .agg #[.int .i64 x, .int .i64 y]] V fun e w' => e = .returned (.tuple #[.agg #[.int .i64 a, .int .i64 b], .int .i64 l, .int .i64 q]) ∧ Below V.heap.size V w') := by
    clear hc1 hf1 hz1 hc2 hf2 hz2
    cases hv : vldB W H xs
    · exact ⟨0, 0, 0, 1, fun V h => dnear_inv _ _ _ _ _ _ _ xs V Hn.out hv h, fun V h => rnear_inv _ _ _ _ _ _ _ xs V Hn.out hv h⟩
    · cases hi : inB W H x y
      · exact ⟨0, 0, 0, 7, fun V h => dnear_out _ _ _ _ _ _ _ xs V Hn.out hv hi h, fun V h => rnear_out _ _ _ _ _ _ _ xs V Hn.out hv hi h⟩
      · obtain ⟨⟨a, b, l⟩, hq⟩ : ∃ p, nearI W H xs x y = p := ⟨_, rfl⟩
        refine ⟨a, b, l, 0, fun V h => (dnear_any _ _ _ _ _ _ _ xs V Hn.out (vld_iff.1 hv) hi h).mono ?_, fun V h => (rnear_any _ _ _ _ _ _ _ xs V Hn.out (vld_iff.1 hv) hi h).mono ?_⟩
        all_goals
          rintro e w' ⟨a', b', l', hq', rfl, hb⟩
          rw [hq] at hq'
          injection hq' with h1 h2
          injection h2 with h2 h3
          subst h1 h2 h3
          exact ⟨rfl, hb⟩
  obtain ⟨a, b, l, q, K1, K2⟩ := key
  have H1 := hid K1
  have H2 := hid K2
  clear K1 K2
  refine (H1.out _ hr2).mono ?_
  rintro e w3 ⟨rfl, hb3⟩
  obtain ⟨hc3, hf3, hz3⟩ := after hb3
  have e3 := lt_after hb3 (lt_after hb2 e1)
  have e4 := lt_after hb3 (lt_after hb2 e2)
  go_wp2_with fail
  refine (H2.out _ ((hr2.below hb3).alloc _)).mono ?_
  rintro e w4 ⟨rfl, hb4⟩
  obtain ⟨hc4, hf4, hz4⟩ := after hb4
  go_wp2_with fail
  go_outline
  go_ret
  exact ⟨rfl, bstep (bstep (bstep (bstep hB2 hb3) (ba1 _ _)) hb4) (ba1 _ _)⟩
end Go.Proofs.Ytpanbblbcnmadaa
