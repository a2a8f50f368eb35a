/- The arguments opened: a plan, a cell. Conditions: none. -/
import Derived.Test.YtpanbblbcnmadaaRows
import Derived.Test.YtpanbblbcnmadaaBase
import Derived.ProofKit
import Derived.OpenShut
import Derived.ShutString
import Derived.ChangeOld
import Derived.Lib.SmallJoins
namespace Go.Proofs.Ytpanbblbcnmadaa
open Go.ChangeShapes Go.WideShapes Go.ChangeAt Go.RowKit Go.Joins

theorem own : ownKnob Try.prog.godebug = none := by kernel_rfl
theorem laidOut : laidOutB Try.prog = true := by kernel_rfl

section
variable {H : Type} {enc : TypeId × Value → H} {w : World} {base b0 : Nat} {spare : Nat → Bool} {held : Bool} {r : Reach} {v : Value} {d : DataW H} {p : List MemPlace}
theorem ints_of {k : IntKind} {zs : List Int} {x : Addr} {l : Nat} (hz : l ≤ zs.length) (hcell : ∀ i, i < zs.length → w.cell? (x.add i) = some (.int k (zs.getD i 0))) : Ints w k (some x) (zs.take l) := by
  by_cases h0 : l = 0
  · subst h0; exact .inl rfl
  · refine .inr ?_
    obtain ⟨b, off, spot⟩ := x
    have hc := hcell 0 (by omega)
    have hspot : spot = none := by simpa [Addr.add] using World.cell?_spot hc
    subst hspot
    refine ⟨b, off, rfl, fun j hj => ?_⟩
    rw [List.length_take] at hj
    have h := hcell j (by omega)
    have e1 : (⟨b, off, none⟩ : Addr).add j = ⟨b, off + j, none⟩ := by
      unfold Addr.add; split <;> simp_all
    rw [e1] at h
    rw [h]
    unfold gi
    simp [List.getD_eq_getElem?_getD, show j < l by omega]

theorem open_plan (hv : Value.okWide Try.prog w r b0 24 v) (h : DataW.Trod enc Try.prog w base spare held 24 v d p) :
    ∃ (W H : Int) (A : Option Addr) (n c : Nat) (xs : List Int), v = .agg #[.int .i64 W, .int .i64 H, .slice A n c] ∧ n = xs.length ∧ Ints w .u8 A xs ∧
      (Lit.int .i64 W).wf = true ∧ (Lit.int .i64 H).wf = true ∧ (∀ z ∈ xs, (Lit.int .u8 z).wf = true) ∧ n ≤ c ∧ c ≤ maxLen ∧ (A = none → n = 0) := by
  obtain ⟨v0, v1, v2, y0, y1, y2, n, rfl, rfl, rfl, h0, h1, h2⟩ := open_agg3 Try.underlying24 (by kernel_rfl) (by kernel_rfl) hv h
  obtain ⟨a, e0, rfl, wa⟩ := DataW.trod_int Try.underlying3 h0
  obtain ⟨b, e1, rfl, wb⟩ := DataW.trod_int Try.underlying3 h1
  simp at e0 e1
  subst e0 e1
  rcases open_ints Try.underlying22 Try.underlying5 (by kernel_rfl) h2 with ⟨hcs, _⟩ | ⟨x, l, c, zs, hcs, _, hl, hm, hz, _, hcell, hwz⟩
  · simp at hcs
    subst hcs
    exact ⟨a, b, _, _, _, [], rfl, rfl, .inl rfl, wa, wb, by simp, Nat.le_refl _, by simp [maxLen], fun _ => rfl⟩
  · simp at hcs
    subst hcs
    exact ⟨a, b, _, _, _, zs.take l, rfl, by rw [List.length_take]; split at hz <;> omega, ints_of (by split at hz <;> omega) hcell, wa, wb, fun z hzz => hwz z (List.mem_of_mem_take hzz), hl, hm, fun h => by cases h⟩

theorem open_cell (hv : Value.okWide Try.prog w r b0 35 v) (h : DataW.Trod enc Try.prog w base spare held 35 v d p) :
    ∃ (x y : Int), v = .agg #[.int .i64 x, .int .i64 y] ∧ (Lit.int .i64 x).wf = true ∧ (Lit.int .i64 y).wf = true := by
  obtain ⟨v0, v1, y0, y1, n, rfl, rfl, rfl, h0, h1⟩ := open_agg2 Try.underlying35 (by kernel_rfl) (by kernel_rfl) hv h
  obtain ⟨a, e0, rfl, wa⟩ := DataW.trod_int Try.underlying3 h0
  obtain ⟨b, e1, rfl, wb⟩ := DataW.trod_int Try.underlying3 h1
  simp at e0 e1
  subst e0 e1
  exact ⟨a, b, rfl, wa, wb⟩
end
end Go.Proofs.Ytpanbblbcnmadaa
