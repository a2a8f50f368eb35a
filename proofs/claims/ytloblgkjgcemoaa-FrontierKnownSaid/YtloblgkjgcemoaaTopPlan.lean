/- Arguments at the top: a plan, a cell, a number. Conditions: none. -/
import Derived.Test.YtloblgkjgcemoaaTop
namespace Go.Proofs.Ytloblgkjgcemoaa
open Go.RowKit
section
variable {H : AHeap} {x : AV}
set_option maxRecDepth 100000 in
theorem top_int (h : ATy Try.prog H 9 3 x) : ∃ z, x = .int .i64 z ∧ -9223372036854775808 ≤ z ∧ z ≤ 9223372036854775807 := by
  obtain ⟨z, h1, h2⟩ := (h.one (by kernel_rfl) (by kernel_rfl)).int (n := 8) (k := .i64) (by kernel_rfl)
  exact ⟨z, h1, wf_i64 h2⟩
set_option maxRecDepth 100000 in
theorem top_cell (h : ATy Try.prog H 9 38 x) : ∃ a b, x = .agg [.int .i64 a, .int .i64 b] ∧ (-9223372036854775808 ≤ a ∧ a ≤ 9223372036854775807) ∧ -9223372036854775808 ≤ b ∧ b ≤ 9223372036854775807 := by
  obtain ⟨xs, rfl, hr⟩ := h.agg (ls := [3, 3]) (by kernel_rfl) (by kernel_rfl)
  obtain ⟨y, r, rfl, h1, hr⟩ := hr.cons
  obtain ⟨y2, r, rfl, h2, hr⟩ := hr.cons
  obtain rfl := hr.nil
  obtain ⟨z1, rfl, w1⟩ := h1.int (n := 8) (k := .i64) (by kernel_rfl)
  obtain ⟨z2, rfl, w2⟩ := h2.int (n := 8) (k := .i64) (by kernel_rfl)
  exact ⟨z1, z2, rfl, wf_i64 w1, wf_i64 w2⟩
set_option maxRecDepth 100000 in
theorem top_plan2 (h : ATy Try.prog H 9 24 x) : ∃ W Hh s xs, x = .agg [.int .i64 W, .int .i64 Hh, s] ∧ IsI H .u8 s xs ∧ xs.length ≤ 9223372036854775807 ∧ (∀ z ∈ xs, 0 ≤ z ∧ z ≤ 255) ∧ (-9223372036854775808 ≤ W ∧ W ≤ 9223372036854775807) ∧ -9223372036854775808 ≤ Hh ∧ Hh ≤ 9223372036854775807 := by
  obtain ⟨xs, rfl, hr⟩ := h.agg (ls := [3, 3, 22]) (by kernel_rfl) (by kernel_rfl)
  obtain ⟨y, r, rfl, h1, hr⟩ := hr.cons
  obtain ⟨y2, r, rfl, h2, hr⟩ := hr.cons
  obtain ⟨y3, r, rfl, h3, hr⟩ := hr.cons
  obtain rfl := hr.nil
  obtain ⟨z1, rfl, w1⟩ := h1.int (n := 8) (k := .i64) (by kernel_rfl)
  obtain ⟨z2, rfl, w2⟩ := h2.int (n := 8) (k := .i64) (by kernel_rfl)
  obtain ⟨l, h4, h5, h6⟩ := h3.ints (n := 7) (t := 22) (e := 5) (k := .u8) (by kernel_rfl) (by kernel_rfl) (by kernel_rfl)
  exact ⟨z1, z2, y3, l, rfl, h4, by unfold maxLen at h5; exact h5, fun z hz => wf_u8 (h6 z hz), wf_i64 w1, wf_i64 w2⟩
end
end Go.Proofs.Ytloblgkjgcemoaa
