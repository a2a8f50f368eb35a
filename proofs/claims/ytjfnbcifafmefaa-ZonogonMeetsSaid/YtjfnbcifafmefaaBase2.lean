/- Small facts on blocks that a call makes and fills with numbers. Conditions: none. -/
import Derived.Test.YtjfnbcifafmefaaBase
import Derived.Deep.OwnRows
namespace Go.Proofs.Ytjfnbcifafmefaa
set_option linter.unusedSimpArgs false
set_option linter.unusedVariables false
open Go.RowKit

/-- Block g is just the numbers xs. -/
def Arr (w : World) (g : Nat) (t : TypeId) (k : IntKind) (xs : List Int) : Prop := w.heap[g]? = some (.cells (xs.map (Value.int k)).toArray t (0, 0))
section
variable {w w' : World} {g : Nat} {t : TypeId} {k : IntKind} {xs : List Int}
theorem Arr.cell (h : Arr w g t k xs) {j : Nat} (hj : j < xs.length) : w.cell? ⟨g, j, none⟩ = some (.int k (gi xs j)) := by
  rw [cell_of_row w g j _ t (0, 0) h]
  simp [gi, hj, List.getD_eq_getElem?_getD]
theorem Arr.frozen (h : Arr w g t k xs) (j : Nat) : w.frozen? ⟨g, j, none⟩ = false := by
  unfold Arr at h
  unfold World.frozen?
  rw [h]; simp
theorem Arr.lt (h : Arr w g t k xs) : g < w.heap.size := (Array.getElem?_eq_some_iff.1 h).1
theorem Arr.alloc (h : Arr w g t k xs) (o : Obj) : Arr (w.alloc o) g t k xs := (Below.heap_alloc w o g h.lt).trans h
theorem Arr.belowB {B : Nat} (h : Arr w g t k xs) (hb : Below B w w') (hg : g < B) : Arr w' g t k xs := (hb.block g hg).trans h
theorem Arr.below (h : Arr w g t k xs) (hb : Below w.heap.size w w') : Arr w' g t k xs := (hb.block g h.lt).trans h
theorem Arr.far (h : Arr w g t k xs) {p : Addr} (hp : g ≠ p.block) (u : Value) : Arr (w.setCell p u) g t k xs := (Below.heap_setCell w p u g hp).trans h
theorem Arr.drew (h : Arr w g t k xs) : Arr w.drew g t k xs := h
theorem Arr.drewN (h : Arr w g t k xs) (m : Nat) : Arr (w.drewN m) g t k xs := h
theorem Arr.set (h : Arr w g t k xs) (j : Nat) (v : Int) : Arr (w.setCell ⟨g, j, none⟩ (.int k v)) g t k (xs.set j v) := by
  unfold Arr at h ⊢
  simp [World.setCell, Array.getElem?_modify, h, List.map_set]
theorem Arr.made (w : World) (t : TypeId) (k : IntKind) (n : Nat) : Arr (w.alloc (.cells (madeCells #[.int k 0] n) t)) w.heap.size t k (List.replicate n 0) := by
  unfold Arr
  rw [heap_alloc_new]
  congr 2
  apply Array.toList_inj.1
  rw [toList_madeCells_one]
  simp
theorem Arr.ints (h : Arr w g t k xs) : Ints w k (some ⟨g, 0, none⟩) xs := .inr ⟨g, 0, rfl, fun j hj => by rw [Nat.zero_add]; exact h.cell hj⟩
theorem Arr.of_alloc (w : World) (t : TypeId) (k : IntKind) (xs : List Int) : Arr (w.alloc (.cells (xs.map (Value.int k)).toArray t)) w.heap.size t k xs := heap_alloc_new w _
end
theorem below_a_drew {w w1 : World} {O : Obj} (hb : Below (w.alloc O).drew.heap.size (w.alloc O).drew w1) : Below (w.heap.size + 1) (w.alloc O) w1 :=
  (⟨hb.os, hb.tape, hb.output, hb.size, hb.block⟩ : Below (w.alloc O).heap.size (w.alloc O) w1).mono (by simp)
theorem below_aa_drew {w w1 : World} {O M : Obj} (hb : Below ((w.alloc O).alloc M).drew.heap.size ((w.alloc O).alloc M).drew w1) : Below (w.heap.size + 1) (w.alloc O) w1 :=
  (bstep (ba1 (w.alloc O) M) (⟨hb.os, hb.tape, hb.output, hb.size, hb.block⟩ : Below ((w.alloc O).alloc M).heap.size ((w.alloc O).alloc M) w1)).mono (by simp)
theorem below_drewN' {B : Nat} {a w : World} (h : Below B a w) (n : Nat) : Below B a (w.drewN n) := ⟨h.os, h.tape, h.output, h.size, h.block⟩
theorem gi_set {xs : List Int} {i j : Nat} {v : Int} (h : j < xs.length) : gi (xs.set j v) i = if i = j then v else gi xs i := by
  unfold gi
  by_cases e : i = j
  · subst e; simp [h, List.getD_eq_getElem?_getD]
  · rw [if_neg e]; simp [List.getD_eq_getElem?_getD, List.getElem?_set_ne (Ne.symm e)]
theorem gi_ext {xs ys : List Int} (hl : xs.length = ys.length) (h : ∀ j, j < xs.length → gi xs j = gi ys j) : xs = ys := by
  apply List.ext_getElem hl
  intro j h1 h2
  have := h j h1
  rwa [gi_lt h1, gi_lt h2] at this
end Go.Proofs.Ytjfnbcifafmefaa
