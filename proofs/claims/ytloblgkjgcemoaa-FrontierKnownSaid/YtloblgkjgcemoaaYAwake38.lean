/- awake of law 38, by the kernel's own run. Conditions: none. -/
import Derived.Test.YtloblgkjgcemoaaYExt38
namespace Go.Proofs.Ytloblgkjgcemoaa
open Go.RowKit
theorem awake_a (H : AHeap) : ACalls Try.prog 11 [] H (fun v H' => v = .bool true ∧ H' = H) :=
  ACalls.closed (ran try_mixed ext_ok tb tb_ok 3000 60 (x := .bool true) (o := none) (by kernel_rfl)) rfl rfl H
end Go.Proofs.Ytloblgkjgcemoaa
