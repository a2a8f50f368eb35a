/- The library's Clone, Sort and Compact at rows of numbers, for the abstract machine. Conditions: as each theorem states. -/
import Derived.Test.YtpanbblbcnmadaaAmP
import Derived.Test.YtpanbblbcnmadaaShelf
import Derived.Lib.SortBridge
namespace Go.Proofs.Ytpanbblbcnmadaa
open Go.RowKit Go.Sort
theorem splice_all {xs ys : List AV} (h : ys.length = xs.length) : splice xs 0 ys = ys := by
  have hl : 0 + ys.length ≤ xs.length := by omega
  refine List.ext_getElem? fun j => ?_
  rw [splice_get hl]
  by_cases hj : j < ys.length
  · rw [if_pos ⟨by omega, by omega⟩, Nat.sub_zero]
  · rw [if_neg (by omega), List.getElem?_eq_none (by omega), List.getElem?_eq_none (by omega)]
section
variable {E : Env} {H : AHeap} {w w' : World}
theorem below_grow (w : World) (os : Array Obj) : Below w.heap.size w (Go.Sort.grow w os) := ⟨rfl, rfl, rfl, by simp [grow], fun k hk => heap_grow_old w os hk⟩
/-- A whole row is written anew, behind draws and ahead of new blocks. -/
theorem Emb.put (h : Emb E H w) {b q : Nat} {zs ys : List Int} (hg : H[b]? = some (.cells true 1 (ints .i64 zs))) (hl : ys.length = zs.length) (os : Array Obj) :
    Emb E (H.set b (.cells true 1 (ints .i64 ys))) (Go.Sort.grow ((w.drewN q).setCells (E.loc b).blk ((E.loc b).off) (ys.map (Value.int .i64))) os) := by
  have h0 : Emb E H (w.drewN q) := h.up (below_drewN (Below.refl _ _) q)
  have hw : awrite H b 0 (ints .i64 ys) = some (H.set b (.cells true 1 (ints .i64 ys))) := by
    unfold awrite
    rw [hg]
    simp only
    rw [if_pos ⟨by simp [ints, hl], by simp [ints, AV.one]⟩, splice_all (by simp [ints, hl])]
  exact ((h0.write (rels_ints ys) hw).2.2.2).up (below_grow _ os)
theorem holds_of (hE : Emb E H w) {b : Nat} {zs : List Int} (hg : H[b]? = some (.cells true 1 (ints .i64 zs))) : Holds (Value.int .i64) w (E.loc b).blk (E.loc b).off zs.toArray ∧ (E.loc b).blk < w.heap.size := by
  obtain ⟨k1, k2, -, -⟩ := hE.blk b _ hg
  obtain ⟨m1, m2, m3, m4, m5⟩ := k2 rfl
  refine ⟨fun j hj => ?_, m2⟩
  have hj' : j < zs.length := by simpa using hj
  refine ⟨?_, (m5 j (by simp [ints] at m4; omega)).2⟩
  obtain ⟨-, v, hv, hr⟩ := k1 j _ (ints_get hj')
  rw [hv, rel_int hr]
  simp [gi, hj', List.getD_eq_getElem?_getD]
theorem rel_row (hE : Emb E H w) {b n : Nat} {cap : Option Nat} {v : Value} (h : Rel E (.sl (some (b, 0)) n cap) v) (hn : 0 < n) : ∃ c, v = .slice (some ⟨(E.loc b).blk, (E.loc b).off, none⟩) n c ∧ n ≤ c ∧ c ≤ maxLen ∧ (cap = none ∨ cap = some c) ∧ b < E.n ∧ c * (E.loc b).es ≤ (E.loc b).sz := by
  cases h with
  | sl _ _ _ _ c a hb h1 h2 h3 h4 h5 =>
  exact ⟨c, by rw [h4.resolve_left (by omega)]; rfl, h1, h2, h3, hb, by simpa using h5⟩
theorem sort_a {b n : Nat} {cap : Option Nat} {zs : List Int} (hg : H[b]? = some (.cells true 1 (ints .i64 zs))) (hn : n = zs.length) (h0 : 0 < n) (h1 : n ≤ 65536) : ACalls Try.prog 41 [.sl (some (b, 0)) n cap] H
    (fun v H' => v = .tup [] ∧ H' = H.set b (.cells true 1 (ints .i64 (zs.mergeSort fun x y => decide (x ≤ y))))) := fun E w vs hE hv => by
  obtain ⟨v1, l1, rfl, k1, h1'⟩ := rels_cons hv
  obtain rfl := rels_nil h1'
  obtain ⟨c, rfl, -⟩ := rel_row hE k1 h0
  obtain ⟨hH, hb⟩ := holds_of hE hg
  rw [hn]
  refine (Try.slices_Sort_int _ _ c zs w hH hb (by omega)).mono fun e w' ⟨he, q, os, hw⟩ => ?_
  subst hw
  rw [Lib.sorted_world _ _ _ _ _ _ _ _ hH (by simp)]
  exact ⟨E, _, _, .tup [], he, ⟨rfl, rfl⟩, .refl E, .tup [] #[] rfl (fun i x v h => by simp at h), hE.put hg (by simp) os⟩
theorem compact_a {b n : Nat} {cap : Option Nat} {zs : List Int} (hg : H[b]? = some (.cells true 1 (ints .i64 zs))) (hn : n = zs.length) (h0 : 0 < n) (h1 : n ≤ 65536) : ACalls Try.prog 42 [.sl (some (b, 0)) n cap] H
    (fun v H' => v = .sl (some (b, 0)) (Lib.compact zs).length cap ∧ H' = H.set b (.cells true 1 (ints .i64 (Lib.compact zs ++ List.replicate (zs.length - (Lib.compact zs).length) 0)))) := fun E w vs hE hv => by
  obtain ⟨v1, l1, rfl, k1, h1'⟩ := rels_cons hv
  obtain rfl := rels_nil h1'
  obtain ⟨c, rfl, c1, c2, c3, c4, c5⟩ := rel_row hE k1 h0
  obtain ⟨hH, hb⟩ := holds_of hE hg
  have hcl := Lib.compact_length_le zs
  rw [hn]
  refine (Try.slices_Compact_int _ _ c zs w hH (by omega) (by omega)).mono fun e w' ⟨he, q, hw⟩ => ?_
  subst hw
  have hl : (Lib.compact zs ++ List.replicate (zs.length - (Lib.compact zs).length) 0).length = zs.length := by simp; omega
  have hpw := Lib.sorted_world _ _ _ _ q _ (Lib.compact zs ++ List.replicate (zs.length - (Lib.compact zs).length) 0) #[] hH (by rw [hl]; simp)
  simp only [grow_empty] at hpw
  rw [hpw]
  have := hE.put (q := q) hg hl #[]
  simp only [grow_empty] at this
  exact ⟨E, _, _, .sl (some (b, 0)) (Lib.compact zs).length cap, he, ⟨rfl, rfl⟩, .refl E, .sl b 0 _ cap c _ c4 (by omega) c2 c3 (.inr rfl) (by simpa using c5), this⟩
theorem clone_a {b n : Nat} {own : Bool} {cap : Option Nat} {zs : List Int} (hg : H[b]? = some (.cells own 1 (ints .i64 zs))) (hn : n = zs.length) (h0 : 0 < n) (h1 : n ≤ 65536) : ACalls Try.prog 40 [.sl (some (b, 0)) n cap] H
    (fun v H' => v = .sl (some (H.length, 0)) n none ∧ H' = H ++ [.cells true 1 (ints .i64 zs)]) := fun E w vs hE hv => by
  obtain ⟨v1, l1, rfl, k1, h1'⟩ := rels_cons hv
  obtain rfl := rels_nil h1'
  obtain ⟨c, rfl, c1, c2, c3, c4, c5⟩ := rel_row hE k1 h0
  have hc : ∀ j, j < zs.length → w.cell? ⟨(E.loc b).blk, (E.loc b).off + j, none⟩ = some (.int .i64 (zs.getD j 0)) := fun j hj => by
    obtain ⟨-, v, hv, hr⟩ := (hE.blk b _ hg).1 j _ (ints_get hj)
    rw [hv, rel_int hr]; rfl
  refine (Try.slices_Clone_int _ _ n c zs w (by omega) (by omega) hc).mono fun e w' ⟨v', he, hown, _, hb⟩ => ?_
  rw [hn, List.take_length, ← hn] at hown
  obtain ⟨E', hle, hrel, hemb⟩ := hE.row hb hown (Nat.le_refl _) h0 (rels_ints _) (ints_one _)
  exact ⟨E', _, _, _, he, ⟨rfl, rfl⟩, hle, hrel, hemb⟩
end
end Go.Proofs.Ytpanbblbcnmadaa
