/- Arguments opened at the top: slices that are the whole of a block. Conditions: as each theorem states. -/
import Derived.Test.YtjfnbcifafmefaaAmU
namespace Go.Proofs.Ytjfnbcifafmefaa
set_option linter.unusedSimpArgs false
set_option linter.unusedVariables false
open Go.RowKit
/-- append, where nothing more is said of it. -/
def aAppendX (P : Program) (t : TypeId) (s x : AV) (H : AHeap) : Option (AV × AHeap) := aAppend P t s x H
/-- More is appended to a row that grows. -/
theorem aApp_grw {P : Program} {t : TypeId} {b n : Nat} {x : AV} {H : AHeap} : aAppend P t (.sl (some (b, 0)) n (capG n)) x H = (tElem P t).bind fun e => (tSz P e).bind fun sz => (tBytes P e).bind fun by_ => (tZero P e).bind fun z => (aElems sz x H).bind fun mx =>
    (need (z.length = sz ∧ 0 < sz ∧ 0 < by_)).bind fun _ => match H[b]? with
      | some (.cells own es xs) => bif (own == ownG n) && (decide (es = sz) && (decide (xs.length = n * sz) && (decide (0 < mx.1) && xs.all AV.one))) then
          (need ((n + mx.1) * by_ ≤ 140737488355328)).map fun _ => (.sl (some (H.length, 0)) (n + mx.1) none, H.set b (killG n (.cells own es xs)) ++ [.cells true sz (xs ++ mx.2)])
        else aAppendX P t (.sl (some (b, 0)) n (capG n)) x H
      | _ => aAppendX P t (.sl (some (b, 0)) n (capG n)) x H := aApp_grown
theorem W_nil0 {m b : Nat} (h : b < m) : W m (.sl none 0 (some 0)) (.sl (some (b, 0)) 0 none) = True := eq_true (W_nils h (.inl rfl))
theorem W_nil1 {m b : Nat} (h : b < m) : W m (.sl none 0 (some 0)) (.sl (some (b, 0)) 0 (some 0)) = True := eq_true (W_nils h (.inr rfl))
theorem W_cap' {m n : Nat} {p : Nat × Nat} {c : Option Nat} : W m (.sl (some p) n c) (.sl (some p) n none) = True := eq_true W_cap
theorem Wc_nil0 {m b : Nat} (h : b < m) : Wc m (.sl none 0 (some 0)) (.sl (some (b, 0)) 0 none) = True := eq_true (Wc_nils h (.inl rfl))
theorem Wc_nil1 {m b : Nat} (h : b < m) : Wc m (.sl none 0 (some 0)) (.sl (some (b, 0)) 0 (some 0)) = True := eq_true (Wc_nils h (.inr rfl))
theorem Wc_cap' {m n : Nat} {p : Nat × Nat} {c : Option Nat} : Wc m (.sl (some p) n c) (.sl (some p) n none) = True := eq_true Wc_cap
theorem int_beq (a b : Int) : (a == b) = decide (a = b) := rfl
theorem int_bne (a b : Int) : (a != b) = !decide (a = b) := rfl
theorem rem_nat1 (a b : Nat) : Int.tmod ((a : Int) + 1) (b : Int) = (((a + 1) % b : Nat) : Int) := rfl
theorem rem_nat (a b : Nat) : Int.tmod (a : Int) (b : Int) = ((a % b : Nat) : Int) := rfl
section
variable {P : Program} {H : AHeap} {n : Nat}
theorem LTy.pairsU {t e u v : TypeId} {x : AV} (ht : P.underlying t = some (.slice e)) (hu : P.underlying u = some (.int .i64)) (hv : P.underlying v = some (.int .i64)) (hl : leafs P (n + 1) e = some [u, v]) (h : LTy P H (n + 2) t x) :
    ∃ l : List (Int × Int), SlP H x l ∧ l.length ≤ maxLen ∧ ∀ p ∈ l, (Lit.int .i64 p.1).wf = true ∧ (Lit.int .i64 p.2).wf = true := by
  obtain ⟨b, rows, rfl, h1, h2, h3⟩ := h.slice ht hl
  obtain ⟨l, k1, k2, k3⟩ := rows_prs hu hv rows h3
  exact ⟨l, ⟨b, false, none, by rw [k1], by rw [← k2]; exact h2⟩, by omega, k3⟩
theorem LTy.intsU {t e : TypeId} {k : IntKind} {x : AV} (ht : P.underlying t = some (.slice e)) (he : P.underlying e = some (.int k)) (hl : leafs P (n + 1) e = some [e]) (h : LTy P H (n + 2) t x) : ∃ l : List Int, SlI H k x l ∧ l.length ≤ maxLen ∧ ∀ z ∈ l, (Lit.int k z).wf = true := by
  obtain ⟨b, rows, rfl, h1, h2, h3⟩ := h.slice ht hl
  obtain ⟨l, k1, k2, k3⟩ := rows_ints he rows h3
  exact ⟨l, ⟨b, false, none, by rw [k1], by rw [← k2]; exact h2⟩, by omega, k3⟩
end
end Go.Proofs.Ytjfnbcifafmefaa
