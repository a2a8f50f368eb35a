/- The functions of the library that the run takes by their contracts. Conditions: none. -/
import Derived.Test.YtjfnbcifafmefaaTab
import Derived.Test.YtjfnbcifafmefaaShelf
namespace Go.Proofs.Ytjfnbcifafmefaa
set_option linter.unusedSimpArgs false
set_option linter.unusedVariables false
open Go.RowKit
def ext : Caller := fun f args _ =>
  match args with
  | [.int .u64 x] => bif Nat.beq f 79 && (decide (0 ≤ x) && decide (x ≤ 18446744073709551615)) then some (.int .i64 (Lib.bitLen x.toNat), none) else none
  | _ => none
theorem ext_ok : CallOk Try.prog ext := fun f args H x o h => by
  unfold ext at h
  split at h
  · rename_i x'
    cases hb : Nat.beq f 79 && (decide (0 ≤ x') && decide (x' ≤ 18446744073709551615))
    · rw [hb] at h; cases h
    · rw [hb, cond_true] at h
      simp only [Option.some.injEq, Prod.mk.injEq] at h
      obtain ⟨rfl, rfl⟩ := h
      simp only [Bool.and_eq_true, decide_eq_true_eq] at hb
      obtain ⟨h1, h2, h3⟩ := hb
      have e := Nat.eq_of_beq_eq_true h1
      subst e
      refine ⟨by kernel_rfl, Nat.le_refl _, fun E w vs hE hv => ?_⟩
      obtain ⟨v1, l1, rfl, k1, hr⟩ := rels_cons hv
      obtain rfl := rels_nil hr
      obtain rfl := rel_int k1
      refine (Try.bits_Len x' w h2 h3).mono fun e w' ⟨he, hw⟩ => ?_
      subst hw
      exact ⟨E, _, H, _, he, ⟨rfl, rfl⟩, .refl E, .int _ _, hE⟩
  · cases h
end Go.Proofs.Ytjfnbcifafmefaa
