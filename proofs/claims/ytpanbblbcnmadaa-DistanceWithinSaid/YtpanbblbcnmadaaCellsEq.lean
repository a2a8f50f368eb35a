/- Walk: wayfinderbase.Cells on equal lists. Conditions: as the theorem states. -/
import Derived.Test.YtpanbblbcnmadaaBase5
import Derived.BigQuiet
import Derived.Deep.QuietTactic
namespace Go.Proofs.Ytpanbblbcnmadaa
open Go.RowKit

theorem cellsEq_t (A1 A2 : Option Addr) (n c1 c2 : Nat) (cs : List (Int × Int)) (w : World) (hn : n = cs.length) (hl : n ≤ 1073741824) (h1 : Pts w A1 cs) (h2 : Pts w A2 cs) :
    Calls Try.prog 28 #[.slice A1 n c1, .slice A2 n c2] w fun e w' => e = .returned (.bool true) ∧ Below w.heap.size w w' := by
  have Hn := hid hn
  clear hn
  have H1 := hid h1
  have H2 := hid h2
  clear h1 h2
  have hne : ((n : Int) != (n : Int)) = false := by simp
  go_enter Try.func28, Try.ntmps28
  go_wp2
  go_loopw [5] (fun i wr => ∃ k m : Nat, k ≤ n ∧ i = .int .i64 k ∧ wr = w.drewN m) (fun i _ => n - (intOf i).toNat)
  case atStart => exact ⟨0, 0, by omega, rfl, rfl⟩
  case round =>
    obtain ⟨k, m, hk, rfl, rfl⟩ := hrel
    by_cases hlt : k < n
    · obtain ⟨b1, o1, rfl, hc1⟩ := H1.out.open (by rw [← Hn.out]; omega)
      obtain ⟨b2, o2, rfl, hc2⟩ := H2.out.open (by rw [← Hn.out]; omega)
      obtain ⟨d1, d2⟩ := hc1 k (by rw [← Hn.out]; exact hlt)
      obtain ⟨d3, d4⟩ := hc2 k (by rw [← Hn.out]; exact hlt)
      clear hc1 hc2
      have hkI : (k : Int) < n := by omega
      go_wp2
      go_quiet (fail)
      go_wp2
      go_roundw
      case rel => exact ⟨k + 1, _, by omega, by go_num, rfl⟩
      case measure => simp [intOf]; omega
    · go_wp2
      go_ret
      exact ⟨rfl, below_drewN' (Below.refl _ _) _⟩
end Go.Proofs.Ytpanbblbcnmadaa
