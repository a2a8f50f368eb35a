/- Small facts that all walks of this seat share: readings of slices, hidden facts, endings. Conditions: none. -/
import Derived.Test.YtjfnbcifafmefaaProg
import Derived.WalkKit
import Derived.WalkSpells
import Derived.WalkLawsBesides
namespace Go.Proofs.Ytjfnbcifafmefaa
set_option linter.unusedSimpArgs false
set_option linter.unusedVariables false
open Go.RowKit

theorem hid {p : Prop} (h : p) : Hid p := h
theorem ret_int {k : IntKind} {a b : Int} (h : a = b) : Ending.returned (.int k a) = .returned (.int k b) := by rw [h]
theorem ret_bool {a b : Bool} (h : a = b) : Ending.returned (.bool a) = .returned (.bool b) := by rw [h]
theorem bcell {W w1 : World} (hb : Below W.heap.size W w1) : (∀ b o, b < W.heap.size → w1.cell? ⟨b, o, none⟩ = W.cell? ⟨b, o, none⟩) ∧ (∀ b o, b < W.heap.size → w1.frozen? ⟨b, o, none⟩ = W.frozen? ⟨b, o, none⟩) :=
  ⟨fun b o h => hb.cell (p := ⟨b, o, none⟩) h, fun b o h => hb.frozen (p := ⟨b, o, none⟩) h⟩
theorem after {W w1 : World} (hb : Below W.heap.size W w1) : (∀ b o, b < W.heap.size → w1.cell? ⟨b, o, none⟩ = W.cell? ⟨b, o, none⟩) ∧ (∀ b o, b < W.heap.size → w1.frozen? ⟨b, o, none⟩ = W.frozen? ⟨b, o, none⟩) ∧ (∀ b, b < W.heap.size → b < w1.heap.size) :=
  ⟨fun b o h => hb.cell (p := ⟨b, o, none⟩) h, fun b o h => hb.frozen (p := ⟨b, o, none⟩) h, fun _ h => Nat.lt_of_lt_of_le h hb.size⟩
theorem lt_after {W w1 : World} {b : Nat} (hb : Below W.heap.size W w1) (h : b < W.heap.size) : b < w1.heap.size := Nat.lt_of_lt_of_le h hb.size
theorem cell_alloc {w : World} {p : Addr} {v : Value} (h : w.cell? p = some v) (o : Obj) : (w.alloc o).cell? p = some v :=
  (World.cell?_alloc_lt w o p (World.block_lt_of_cell? w p h)).trans h
theorem cell_below {w w' : World} {p : Addr} {v : Value} (h : w.cell? p = some v) (hb : Below w.heap.size w w') : w'.cell? p = some v :=
  (hb.cell (World.block_lt_of_cell? w p h)).trans h

/-- The k-th number of a list, 0 beyond its end: closed to the walk's simp. -/
def gi (xs : List Int) (k : Nat) : Int := xs.getD k 0
theorem gi_lt {xs : List Int} {k : Nat} (h : k < xs.length) : gi xs k = xs[k] := by simp [gi, List.getD_eq_getElem?_getD, h]
theorem gi_mem {xs : List Int} {k : Nat} (h : k < xs.length) : gi xs k ∈ xs := by rw [gi_lt h]; exact List.getElem_mem h

/-- A slice's address reads as the numbers xs (nothing is said where xs is empty). -/
def Ints (w : World) (k : IntKind) (A : Option Addr) (xs : List Int) : Prop :=
  xs = [] ∨ ∃ b off, A = some ⟨b, off, none⟩ ∧ ∀ j, j < xs.length → w.cell? ⟨b, off + j, none⟩ = some (.int k (gi xs j))
section
variable {w w' : World} {k : IntKind} {A : Option Addr} {xs : List Int}
theorem Ints.alloc (h : Ints w k A xs) (o : Obj) : Ints (w.alloc o) k A xs :=
  h.imp id fun ⟨b, off, e, hc⟩ => ⟨b, off, e, fun j hj => cell_alloc (hc j hj) o⟩
theorem Ints.below (h : Ints w k A xs) (hb : Below w.heap.size w w') : Ints w' k A xs :=
  h.imp id fun ⟨b, off, e, hc⟩ => ⟨b, off, e, fun j hj => cell_below (hc j hj) hb⟩
theorem Ints.open (h : Ints w k A xs) (h0 : 0 < xs.length) : ∃ b off, A = some ⟨b, off, none⟩ ∧ ∀ j, j < xs.length → w.cell? ⟨b, off + j, none⟩ = some (.int k (gi xs j)) := by
  rcases h with rfl | h
  · simp at h0
  · exact h
theorem Ints.lt {b off : Nat} (h : Ints w k (some ⟨b, off, none⟩) xs) (h0 : 0 < xs.length) : b < w.heap.size := by
  obtain ⟨b', off', e, hc⟩ := h.open h0
  injection e with e
  injection e with e1
  subst e1
  exact World.block_lt_of_cell? w _ (hc 0 h0)
end

theorem bstep {w w1 w2 : World} (h : Below w.heap.size w w1) (k : Below w1.heap.size w1 w2) : Below w.heap.size w w2 := h.trans (k.mono h.size)
theorem ba1 (w : World) (o1 : Obj) : Below w.heap.size w (w.alloc o1) := (Below.refl _ _).alloc (Nat.le_refl _) o1
theorem ba2 (w : World) (o1 o2 : Obj) : Below w.heap.size w ((w.alloc o1).alloc o2) := bstep (ba1 w o1) (ba1 _ o2)
theorem ba3 (w : World) (o1 o2 o3 : Obj) : Below w.heap.size w (((w.alloc o1).alloc o2).alloc o3) := bstep (ba2 w o1 o2) (ba1 _ o3)
theorem ba4 (w : World) (o1 o2 o3 o4 : Obj) : Below w.heap.size w ((((w.alloc o1).alloc o2).alloc o3).alloc o4) := bstep (ba3 w o1 o2 o3) (ba1 _ o4)
/-- Block b begins with the cells vs; no cell of it is frozen. -/
def Cells (w : World) (b : Nat) (vs : List Value) : Prop := ∀ j v, vs[j]? = some v → w.cell? ⟨b, j, none⟩ = some v ∧ w.frozen? ⟨b, j, none⟩ = false
section
variable {w w' : World} {b : Nat} {vs : List Value} {v0 v1 v2 : Value}
theorem frozen_alloc {w : World} {p : Addr} (h : p.block < w.heap.size) (o : Obj) : (w.alloc o).frozen? p = w.frozen? p :=
  World.frozen?_of_block (Below.heap_alloc w o p.block h)
theorem Cells.alloc (h : Cells w b vs) (o : Obj) : Cells (w.alloc o) b vs := fun j v hj =>
  ⟨cell_alloc (h j v hj).1 o, (frozen_alloc (World.block_lt_of_cell? w _ (h j v hj).1) o).trans (h j v hj).2⟩
theorem Cells.below (h : Cells w b vs) (hb : Below w.heap.size w w') : Cells w' b vs := fun j v hj =>
  ⟨cell_below (h j v hj).1 hb, (hb.frozen (World.block_lt_of_cell? w _ (h j v hj).1)).trans (h j v hj).2⟩
theorem Cells.belowB {B : Nat} (h : Cells w b vs) (hb : Below B w w') (hB : b < B) : Cells w' b vs := fun j v hj =>
  ⟨(hb.cell (p := ⟨b, j, none⟩) hB).trans (h j v hj).1, (hb.frozen (p := ⟨b, j, none⟩) hB).trans (h j v hj).2⟩
theorem Cells.lt (h : Cells w b (v0 :: vs)) : b < w.heap.size := World.block_lt_of_cell? w _ (h 0 v0 rfl).1
theorem Cells.new (w : World) (vs : List Value) (t : TypeId) : Cells (w.alloc (.cells vs.toArray t)) w.heap.size vs := fun j v hj => by
  have hh : (w.alloc (.cells vs.toArray t)).heap[w.heap.size]? = some (.cells vs.toArray t (0, 0)) := heap_alloc_new w _
  exact ⟨by rw [cell_of_row _ _ _ _ _ _ hh]; simpa using hj, by unfold World.frozen?; rw [hh]; simp⟩
theorem Cells.new' (w : World) (vs : List Value) (t : TypeId) (hb : b = w.heap.size) : Cells (w.alloc (.cells vs.toArray t)) b vs := by subst hb; exact Cells.new w vs t
theorem Cells.two (h : Cells w b [v0, v1]) : (w.cell? ⟨b, 0, none⟩ = some v0 ∧ w.cell? ⟨b, 1, none⟩ = some v1) ∧ (w.frozen? ⟨b, 0, none⟩ = false ∧ w.frozen? ⟨b, 1, none⟩ = false) :=
  ⟨⟨(h 0 v0 rfl).1, (h 1 v1 rfl).1⟩, ⟨(h 0 v0 rfl).2, (h 1 v1 rfl).2⟩⟩
theorem Cells.three (h : Cells w b [v0, v1, v2]) : w.cell? ⟨b, 0, none⟩ = some v0 ∧ w.cell? ⟨b, 1, none⟩ = some v1 ∧ w.cell? ⟨b, 2, none⟩ = some v2 :=
  ⟨(h 0 v0 rfl).1, (h 1 v1 rfl).1, (h 2 v2 rfl).1⟩
theorem Cells.mk2 (h : w.cell? ⟨b, 0, none⟩ = some v0 ∧ w.cell? ⟨b, 1, none⟩ = some v1) (hf : w.frozen? ⟨b, 0, none⟩ = false ∧ w.frozen? ⟨b, 1, none⟩ = false) : Cells w b [v0, v1] := fun j v hj => by
  match j, hj with
  | 0, hj => injection hj with hj; subst hj; exact ⟨h.1, hf.1⟩
  | 1, hj => injection hj with hj; subst hj; exact ⟨h.2, hf.2⟩
end
/-- A struct of two cells written whole. -/
theorem Cells.set2 {w : World} {b : Nat} {v0 v1 u0 u1 : Value} (h : Cells w b [v0, v1]) : Cells ((w.setCell ⟨b, 0, none⟩ u0).setCell ⟨b, 1, none⟩ u1) b [u0, u1] := by
  obtain ⟨⟨c0, c1⟩, ⟨f0, f1⟩⟩ := h.two
  refine Cells.mk2 ⟨?_, ?_⟩ ⟨?_, ?_⟩
  · rw [World.cell?_setCell_other _ _ _ _ (by simp)]
    exact World.cell?_setCell_same _ _ _ c0
  · exact World.cell?_setCell_same _ _ _ (by rw [World.cell?_setCell_other _ _ _ _ (by simp)]; exact c1)
  · simpa using f0
  · simpa using f1
end Go.Proofs.Ytjfnbcifafmefaa
