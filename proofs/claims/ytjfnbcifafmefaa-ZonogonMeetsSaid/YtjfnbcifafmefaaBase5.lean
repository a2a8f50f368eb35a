/- Small facts on rows of pairs of integers (cells, points). Conditions: none. -/
import Derived.Test.YtjfnbcifafmefaaBase3
namespace Go.Proofs.Ytjfnbcifafmefaa
set_option linter.unusedSimpArgs false
set_option linter.unusedVariables false
open Go.RowKit

def enc2 (cs : List (Int × Int)) : List Value := cs.flatMap fun p => [.int .i64 p.1, .int .i64 p.2]
theorem enc2_len (cs : List (Int × Int)) : (enc2 cs).length = cs.length * 2 := by
  induction cs with
  | nil => rfl
  | cons a l ih => simp only [enc2, List.flatMap_cons, List.length_append, List.length_cons, List.length_nil] at *; omega
theorem enc2_append (a b : List (Int × Int)) : enc2 (a ++ b) = enc2 a ++ enc2 b := by simp [enc2]
theorem enc2_at (cs : List (Int × Int)) : ∀ j (h : j < cs.length), (enc2 cs)[j * 2]? = some (.int .i64 cs[j].1) ∧ (enc2 cs)[j * 2 + 1]? = some (.int .i64 cs[j].2) := by
  induction cs with
  | nil => intro j h; simp at h
  | cons a l ih =>
    intro j h
    cases j with
    | zero => simp [enc2]
    | succ j =>
      have h2 := ih j (by simpa using h)
      have e : (j + 1) * 2 = j * 2 + 1 + 1 := by omega
      simp only [enc2, List.flatMap_cons, e, List.cons_append, List.nil_append, List.getElem?_cons_succ, List.getElem_cons_succ] at h2 ⊢
      exact h2
theorem enc2_one (cs : List (Int × Int)) : ∀ u ∈ enc2 cs, u.oneCell' = true := by
  intro u hu
  simp only [enc2, List.mem_flatMap] at hu
  obtain ⟨p, _, hp⟩ := hu
  have h := ints_oneCell .i64 [p.1, p.2]
  exact h u (by simpa using hp)
/-- The j-th pair, (0, 0) beyond the end. -/
def g1 (cs : List (Int × Int)) (j : Nat) : Int := (cs.getD j (0, 0)).1
def g2 (cs : List (Int × Int)) (j : Nat) : Int := (cs.getD j (0, 0)).2
theorem g1_lt {cs : List (Int × Int)} {j : Nat} (h : j < cs.length) : g1 cs j = cs[j].1 := by simp [g1, List.getD_eq_getElem?_getD, h]
theorem g2_lt {cs : List (Int × Int)} {j : Nat} (h : j < cs.length) : g2 cs j = cs[j].2 := by simp [g2, List.getD_eq_getElem?_getD, h]

/-- A slice's address reads as the pairs cs (nothing is said where cs is empty). -/
def Pts (w : World) (A : Option Addr) (cs : List (Int × Int)) : Prop :=
  cs = [] ∨ ∃ b off, A = some ⟨b, off, none⟩ ∧ ∀ j, j < cs.length → w.cell? ⟨b, off + j * 2, none⟩ = some (.int .i64 (g1 cs j)) ∧ w.cell? ⟨b, off + j * 2 + 1, none⟩ = some (.int .i64 (g2 cs j))
section
variable {w w' : World} {A : Option Addr} {cs : List (Int × Int)}
theorem Pts.alloc (h : Pts w A cs) (o : Obj) : Pts (w.alloc o) A cs :=
  h.imp id fun ⟨b, off, e, hc⟩ => ⟨b, off, e, fun j hj => ⟨cell_alloc (hc j hj).1 o, cell_alloc (hc j hj).2 o⟩⟩
theorem Pts.below (h : Pts w A cs) (hb : Below w.heap.size w w') : Pts w' A cs :=
  h.imp id fun ⟨b, off, e, hc⟩ => ⟨b, off, e, fun j hj => ⟨cell_below (hc j hj).1 hb, cell_below (hc j hj).2 hb⟩⟩
theorem Pts.open (h : Pts w A cs) (h0 : 0 < cs.length) : ∃ b off, A = some ⟨b, off, none⟩ ∧ ∀ j, j < cs.length → w.cell? ⟨b, off + j * 2, none⟩ = some (.int .i64 (g1 cs j)) ∧ w.cell? ⟨b, off + j * 2 + 1, none⟩ = some (.int .i64 (g2 cs j)) := by
  rcases h with rfl | h
  · simp at h0
  · exact h
theorem Pts.drew (h : Pts w A cs) : Pts w.drew A cs := h
end
theorem own_pts {w : World} {base : Nat} {e : TypeId} {v : Value} {n : Nat} {cs : List (Int × Int)} (h : w.ownsRow base e 2 v n (enc2 cs)) : ∃ A c, v = .slice A cs.length c ∧ Pts w A cs := by
  have hl : cs.length = n := by have := h.1; rw [enc2_len] at this; omega
  rcases h.2 with ⟨rfl, h0⟩ | ⟨g, cap, cur, rfl, _, hh, _, _, _, ht⟩
  · subst h0
    have : cs = [] := List.length_eq_zero_iff.1 hl
    subst this
    exact ⟨_, _, rfl, .inl rfl⟩
  · refine ⟨_, _, by rw [hl], .inr ⟨g, 0, rfl, fun j hj => ?_⟩⟩
    have hc := h.cells (g := g) rfl
    obtain ⟨e1, e2⟩ := enc2_at cs j hj
    have add : ∀ i, (⟨g, 0, none⟩ : Addr).add i = ⟨g, i, none⟩ := fun i => by unfold Addr.add; split <;> simp_all
    have c1 := hc _ _ e1
    have c2 := hc _ _ e2
    rw [add] at c1 c2
    rw [g1_lt hj, g2_lt hj, Nat.zero_add]
    exact ⟨c1, c2⟩
theorem cell_two_new' (w : World) (x y : Value) (t : TypeId) : ∀ j u, [x, y][j]? = some u → (w.alloc (.cells #[x, y] t)).cell? ((⟨w.heap.size, 0, none⟩ : Addr).add j) = some u := by
  intro j u hj
  match j, hj with
  | 0, hj => simp at hj; subst hj; simp [Addr.add]
  | 1, hj => simp at hj; subst hj; simp [Addr.add]
end Go.Proofs.Ytjfnbcifafmefaa
