/- Plain facts: the inflated plan's cells. Conditions: none. -/
import Derived.Test.YtpanbblbcnmadaaMsqs
import Derived.Test.YtpanbblbcnmadaaBase4
namespace Go.Proofs.Ytpanbblbcnmadaa
open Go.RowKit

/-- The cells of the inflated plan. -/
def infl (r2 : Int) (l : List Int) : List Int := l.map fun d => if r2 < d then 1 else 2
theorem infl_len (r2 : Int) (l : List Int) : (infl r2 l).length = l.length := by simp [infl]
theorem infl_at {r2 : Int} {l : List Int} {k : Nat} (h : k < l.length) : gi (infl r2 l) k = if r2 < gi l k then 1 else 2 := by
  rw [gi_lt (by rw [infl_len]; exact h), gi_lt h]
  simp [infl]
/-- The first k cells are done. -/
def InflUp (r2 : Int) (l out : List Int) (k : Nat) : Prop := ∀ j, j < k → gi out j = gi (infl r2 l) j
theorem InflUp.step {r2 : Int} {l out : List Int} {k : Nat} (h : InflUp r2 l out k) (hk : k < out.length) (v : Int) (hv : v = gi (infl r2 l) k) : InflUp r2 l (out.set k v) (k + 1) := fun j hj => by
  rw [gi_set hk]
  by_cases e : j = k
  · subst e; rw [if_pos rfl, hv]
  · rw [if_neg e]; exact h j (by omega)
theorem InflUp.eq {r2 : Int} {l out : List Int} (h : InflUp r2 l out l.length) (hl : out.length = l.length) : out = infl r2 l :=
  gi_ext (by rw [infl_len, hl]) fun j hj => h j (by omega)
theorem take_push_u8 {xs : List Int} {k : Nat} (h : k < xs.length) : (xs.take (k + 1)).map (Value.int .u8) = (xs.take k).map (Value.int .u8) ++ [.int .u8 (gi xs k)] := by
  rw [List.take_succ_eq_append_getElem h, List.map_append, gi_lt h]; rfl
theorem Cells.drew {w : World} {b : Nat} {vs : List Value} (h : Cells w b vs) : Cells w.drew b vs := h
theorem Cells.far {w : World} {b : Nat} {vs : List Value} (h : Cells w b vs) {p : Addr} (hp : b ≠ p.block) (u : Value) : Cells (w.setCell p u) b vs := fun j v hj => by
  obtain ⟨h1, h2⟩ := h j v hj
  refine ⟨?_, by simpa using h2⟩
  rw [World.cell?_setCell_other _ _ _ _ (by intro e; apply hp; rw [e])]
  exact h1
/-- A struct of three cells written whole; its third cell written alone. -/
theorem Cells.mk3 {w : World} {b : Nat} {v0 v1 v2 : Value} (h : w.cell? ⟨b, 0, none⟩ = some v0 ∧ w.cell? ⟨b, 1, none⟩ = some v1 ∧ w.cell? ⟨b, 2, none⟩ = some v2)
    (hf : w.frozen? ⟨b, 0, none⟩ = false ∧ w.frozen? ⟨b, 1, none⟩ = false ∧ w.frozen? ⟨b, 2, none⟩ = false) : Cells w b [v0, v1, v2] := fun j v hj => by
  match j, hj with
  | 0, hj => injection hj with hj; subst hj; exact ⟨h.1, hf.1⟩
  | 1, hj => injection hj with hj; subst hj; exact ⟨h.2.1, hf.2.1⟩
  | 2, hj => injection hj with hj; subst hj; exact ⟨h.2.2, hf.2.2⟩
theorem Cells.set_2 {w : World} {b : Nat} {v0 v1 v2 u : Value} (h : Cells w b [v0, v1, v2]) : Cells (w.setCell ⟨b, 2, none⟩ u) b [v0, v1, u] := by
  obtain ⟨⟨c0, c1, c2⟩, ⟨f0, f1, f2⟩⟩ := h.three'
  refine Cells.mk3 ⟨?_, ?_, ?_⟩ ⟨?_, ?_, ?_⟩
  · rw [World.cell?_setCell_other _ _ _ _ (by simp)]; exact c0
  · rw [World.cell?_setCell_other _ _ _ _ (by simp)]; exact c1
  · exact World.cell?_setCell_same _ _ _ c2
  · simpa using f0
  · simpa using f1
  · simpa using f2
end Go.Proofs.Ytpanbblbcnmadaa
