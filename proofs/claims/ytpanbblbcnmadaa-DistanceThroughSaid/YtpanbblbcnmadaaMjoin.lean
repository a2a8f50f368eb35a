/- Plain facts: the marks and the list of a search over the cells of a plan. Conditions: none. -/
import Derived.Test.YtpanbblbcnmadaaMreach
import Derived.Test.YtpanbblbcnmadaaMcols
namespace Go.Proofs.Ytpanbblbcnmadaa
open Go.RowKit

def gb (bs : List Bool) (k : Nat) : Bool := bs.getD k false
theorem gb_set {bs : List Bool} {i j : Nat} {v : Bool} (h : j < bs.length) : gb (bs.set j v) i = if i = j then v else gb bs i := by
  unfold gb
  by_cases e : i = j
  · subst e; simp [h, List.getD_eq_getElem?_getD]
  · rw [if_neg e]; simp [List.getD_eq_getElem?_getD, List.getElem?_set_ne (Ne.symm e)]
/-- The place of a cell that is given by integers. -/
def ixI (W : Int) (x y : Int) : Nat := (y * W + x).toNat
theorem ixI_nat {W : Int} {x y : Nat} : ixI W x y = ix W y x := rfl
theorem ixI_inj {W H x y u v : Int} (h1 : inB W H x y = true) (h2 : inB W H u v = true) (h : ixI W x y = ixI W u v) : x = u ∧ y = v := by
  obtain ⟨a1, a2, a3, a4⟩ := inB_iff.1 h1
  obtain ⟨b1, b2, b3, b4⟩ := inB_iff.1 h2
  have := ix_inj (W := W) (y := y.toNat) (x := x.toNat) (y' := v.toNat) (x' := u.toNat) (by omega) (by omega) (by
    unfold ixI at h; unfold ix
    rwa [Int.toNat_of_nonneg a1, Int.toNat_of_nonneg a3, Int.toNat_of_nonneg b1, Int.toNat_of_nonneg b3])
  omega
/-- Marked: a cell of the plan whose mark is set. -/
def Marked (W H : Int) (bs : List Bool) (x y : Int) : Prop := inB W H x y = true ∧ gb bs (ixI W x y) = true
/-- The search's state: marks bs, list l; c has been taken from the list, and the neighbours in done have been looked at (no cell is taken: done is everything). -/
structure SInv (W H : Int) (ok : Int → Int → Bool) (ax ay gx gy : Int) (bs : List Bool) (l : List (Int × Int)) (c : Int × Int) (done : Int → Int → Prop) : Prop where
  len : (bs.length : Int) = W * H
  okin : ∀ x y, ok x y = true → inB W H x y = true
  start : Marked W H bs ax ay
  reach : ∀ x y, Marked W H bs x y → Reach (fun x y => ok x y = true) ax ay x y
  listed : ∀ p ∈ l, Marked W H bs p.1 p.2
  cur : Marked W H bs c.1 c.2
  closed : ∀ x y u v, Marked W H bs x y → (x, y) ∉ l → Nb x y u v → ok u v = true → ((x, y) = c → done u v) → Marked W H bs u v
  goal : Marked W H bs gx gy → (gx, gy) ∈ l
/-- How many marks are not set. -/
def unset (bs : List Bool) : Nat := bs.countP (fun b => !b)
section
variable {W H ax ay gx gy : Int} {ok : Int → Int → Bool} {bs : List Bool} {l : List (Int × Int)} {c : Int × Int} {done : Int → Int → Prop}
theorem SInv.lt (h : SInv W H ok ax ay gx gy bs l c done) {x y : Int} (hi : inB W H x y = true) : ixI W x y < bs.length := by
  have := idx_bd hi
  have := h.len
  unfold ixI; omega
/-- A neighbour of c that is not ok, or is marked. -/
theorem SInv.skip (h : SInv W H ok ax ay gx gy bs l c done) {u v : Int} (hs : ok u v = false ∨ Marked W H bs u v) : SInv W H ok ax ay gx gy bs l c (fun x y => done x y ∨ x = u ∧ y = v) :=
  ⟨h.len, h.okin, h.start, h.reach, h.listed, h.cur, fun x y a b hm hn hnb hok hd => by
    by_cases e : a = u ∧ b = v
    · obtain ⟨rfl, rfl⟩ := e
      rcases hs with hs | hs
      · rw [hs] at hok; cases hok
      · exact hs
    · exact h.closed x y a b hm hn hnb hok (fun hc => (hd hc).resolve_right e), h.goal⟩
theorem Marked.set {x y u v : Int} (hl : ixI W u v < bs.length) : Marked W H (bs.set (ixI W u v) true) x y ↔ inB W H x y = true ∧ (ixI W x y = ixI W u v ∨ gb bs (ixI W x y) = true) := by
  unfold Marked
  rw [gb_set hl]
  by_cases e : ixI W x y = ixI W u v
  · simp [e]
  · simp [e]
/-- A neighbour of c that is ok and not marked: it is marked and listed. -/
theorem SInv.visit (h : SInv W H ok ax ay gx gy bs l c done) {u v : Int} (hok : ok u v = true) (hnb : Nb c.1 c.2 u v) (l' : List (Int × Int)) (hl' : ∀ p, p ∈ l' ↔ p ∈ l ∨ p = (u, v)) :
    SInv W H ok ax ay gx gy (bs.set (ixI W u v) true) l' c (fun x y => done x y ∨ x = u ∧ y = v) := by
  have hin := h.okin u v hok
  have hlt := h.lt hin
  have old : ∀ x y, Marked W H bs x y → Marked W H (bs.set (ixI W u v) true) x y := fun x y hm => (Marked.set hlt).2 ⟨hm.1, .inr hm.2⟩
  have inv : ∀ x y, Marked W H (bs.set (ixI W u v) true) x y → (x = u ∧ y = v) ∨ Marked W H bs x y := fun x y hm => by
    obtain ⟨h1, h2⟩ := (Marked.set hlt).1 hm
    rcases h2 with h2 | h2
    · exact .inl (ixI_inj h1 hin h2)
    · exact .inr ⟨h1, h2⟩
  have new : Marked W H (bs.set (ixI W u v) true) u v := (Marked.set hlt).2 ⟨hin, .inl rfl⟩
  refine ⟨by rw [List.length_set]; exact h.len, h.okin, old _ _ h.start, fun x y hm => ?_, fun p hp => ?_, old _ _ h.cur, fun x y a b hm hn hb hab hd => ?_, fun hm => ?_⟩
  · rcases inv x y hm with ⟨rfl, rfl⟩ | hm
    · exact .step (h.reach _ _ h.cur) hnb hok
    · exact h.reach x y hm
  · rcases (hl' p).1 hp with hp | rfl
    · exact old _ _ (h.listed p hp)
    · exact new
  · rcases inv x y hm with ⟨rfl, rfl⟩ | hm
    · exact absurd ((hl' _).2 (.inr rfl)) hn
    · by_cases e : a = u ∧ b = v
      · obtain ⟨rfl, rfl⟩ := e; exact new
      · exact old _ _ (h.closed x y a b hm (fun hx => hn ((hl' _).2 (.inl hx))) hb hab (fun hc => (hd hc).resolve_right e))
  · rcases inv gx gy hm with ⟨rfl, rfl⟩ | hm
    · exact (hl' _).2 (.inr rfl)
    · exact (hl' _).2 (.inl (h.goal hm))
/-- All four neighbours have been looked at. -/
theorem SInv.close (h : SInv W H ok ax ay gx gy bs l c done) (hd : ∀ u v, Nb c.1 c.2 u v → done u v) : SInv W H ok ax ay gx gy bs l c (fun _ _ => True) :=
  ⟨h.len, h.okin, h.start, h.reach, h.listed, h.cur, fun x y a b hm hn hb hab _ => h.closed x y a b hm hn hb hab (fun hc => by subst hc; exact hd a b hb), h.goal⟩
/-- The next cell d is taken from the list; it is not the goal. -/
theorem SInv.take (h : SInv W H ok ax ay gx gy bs l c (fun _ _ => True)) {d : Int × Int} {l' : List (Int × Int)} (hd : d ∈ l) (hg : d ≠ (gx, gy)) (hl' : ∀ p, p ∈ l → p ∈ l' ∨ p = d) (hs : ∀ p, p ∈ l' → p ∈ l) :
    SInv W H ok ax ay gx gy bs l' d (fun _ _ => False) :=
  ⟨h.len, h.okin, h.start, h.reach, fun p hp => h.listed p (hs p hp), h.listed d hd, fun x y a b hm hn hb hab hc => by
    by_cases e : (x, y) = d
    · exact absurd (hc e) id
    · exact h.closed x y a b hm (fun hx => (hl' _ hx).elim hn e) hb hab (fun _ => trivial), fun hm => (hl' _ (h.goal hm)).resolve_right (fun e => hg e.symm)⟩
/-- The list is empty: the goal is not reached. -/
theorem SInv.none (h : SInv W H ok ax ay gx gy bs [] c (fun _ _ => True)) : ¬ Reach (fun x y => ok x y = true) ax ay gx gy :=
  Search.none (seen := Marked W H bs) (list := fun _ _ => False)
    ⟨h.start, h.reach, fun _ _ hf => absurd hf id, fun x y u v hm _ hn ho => h.closed x y u v hm (by simp) hn ho (fun _ => trivial), fun hm => absurd (h.goal hm) (by simp)⟩ (fun _ _ => id)
end
theorem unset_set {bs : List Bool} {k : Nat} (hk : k < bs.length) (hb : gb bs k = false) : unset (bs.set k true) + 1 = unset bs := by
  induction bs generalizing k with
  | nil => simp at hk
  | cons b bs ih =>
    cases k with
    | zero =>
      have : b = false := by simpa [gb] using hb
      subst this
      simp [unset]
    | succ k =>
      have := ih (k := k) (by simpa using hk) (by simpa [gb] using hb)
      cases b <;> simp [unset] at this ⊢ <;> omega
end Go.Proofs.Ytpanbblbcnmadaa
