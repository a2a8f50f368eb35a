/- Small facts on rows that a call owns and appends to. Conditions: none. -/
import Derived.Test.YtjfnbcifafmefaaBase2
import Derived.OwnWalk
namespace Go.Proofs.Ytjfnbcifafmefaa
set_option linter.unusedSimpArgs false
set_option linter.unusedVariables false
open Go.RowKit

section
variable {w w' : World} {base : Nat} {e : TypeId} {size : Nat} {v : Value} {n : Nat} {xs : List Value}
theorem own_below (h : w.ownsRow base e size v n xs) (hb : Below w.heap.size w w') : w'.ownsRow base e size v n xs :=
  h.kept (row := none) ⟨hb.os, hb.tape, hb.output, hb.size, fun k hk _ => hb.block k hk⟩ (by cases v.ownBlock <;> simp)
theorem own_base {base' : Nat} (h : w.ownsRow base e size v n xs) (hb : base' ≤ base) : w.ownsRow base' e size v n xs :=
  ⟨h.1, h.2.elim .inl (fun ⟨g, cap, cur, hv, hg, r⟩ => .inr ⟨g, cap, cur, hv, Nat.le_trans hb hg, r⟩)⟩
theorem below_own {B : Nat} {a : World} (h : Below B a w) (hown : w.ownsRow base e size v n xs) (hB : B ≤ base) (hBw : B ≤ w.heap.size) (hg : w.grownBy w' v.ownBlock) : Below B a w' :=
  h.grown hg hBw fun k hk => Nat.le_trans hB (hown.lt k hk).1
theorem own_ints {k : IntKind} {zs : List Int} (h : w.ownsRow base e 1 v n (zs.map (Value.int k))) : ∃ A c, v = .slice A zs.length c ∧ Ints w k A zs := by
  have hl : zs.length = n := by have := h.1; simpa using this
  rcases h.2 with ⟨rfl, h0⟩ | ⟨g, cap, cur, rfl, _, hh, _, _, _, ht⟩
  · subst h0
    have : zs = [] := List.length_eq_zero_iff.1 hl
    subst this
    exact ⟨_, _, rfl, .inl rfl⟩
  · refine ⟨_, _, by rw [hl], .inr ⟨g, 0, rfl, fun j hj => ?_⟩⟩
    have hc := h.cells (g := g) rfl j (.int k (gi zs j)) (by simp [gi, hj, List.getD_eq_getElem?_getD])
    have e1 : (⟨g, 0, none⟩ : Addr).add j = ⟨g, 0 + j, none⟩ := by
      unfold Addr.add; split <;> simp_all
    rw [e1] at hc
    exact hc
end
theorem take_push {xs : List Int} {k : Nat} (h : k < xs.length) : (xs.take (k + 1)).map (Value.int .i64) = (xs.take k).map (Value.int .i64) ++ [.int .i64 (gi xs k)] := by
  rw [List.take_succ_eq_append_getElem h, List.map_append, gi_lt h]; rfl
end Go.Proofs.Ytjfnbcifafmefaa
