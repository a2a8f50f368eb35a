/- awake of law 7, by the kernel's own run. Conditions: none. -/
import Derived.Test.YtjfnbcifafmefaaYExt07
namespace Go.Proofs.Ytjfnbcifafmefaa
set_option linter.unusedSimpArgs false
set_option linter.unusedVariables false
open Go.RowKit
theorem awake_a (H : AHeap) : ACalls Try.prog 13 [] H (fun v H' => v = .bool true ∧ H' = H) :=
  ACalls.closed (ran try_mixed ext07_ok tb07 tb07_ok 3000 60 (x := .bool true) (o := none) (by kernel_rfl)) rfl rfl H
end Go.Proofs.Ytjfnbcifafmefaa
