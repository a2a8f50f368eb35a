/- The library's SortFunc at rows of pairs, for the abstract machine. Conditions: as each theorem states. -/
import Derived.Test.YtjfnbcifafmefaaAmP
import Derived.Test.YtjfnbcifafmefaaAmT
import Derived.Test.YtjfnbcifafmefaaShelf
import Derived.Lib.SortBridge
import Derived.Lib.RowBridge
namespace Go.Proofs.Ytjfnbcifafmefaa
set_option linter.unusedSimpArgs false
set_option linter.unusedVariables false
open Go.RowKit Go.Sort
theorem below_grow (w : World) (os : Array Obj) : Below w.heap.size w (Go.Sort.grow w os) := ⟨rfl, rfl, rfl, by simp [grow], fun k hk => heap_grow_old w os hk⟩
theorem splice_all {xs ys : List AV} (h : ys.length = xs.length) : splice xs 0 ys = ys := by
  have hl : 0 + ys.length ≤ xs.length := by omega
  refine List.ext_getElem? fun j => ?_
  rw [splice_get hl]
  by_cases hj : j < ys.length
  · rw [if_pos ⟨by omega, by omega⟩, Nat.sub_zero]
  · rw [if_neg (by omega), List.getElem?_eq_none (by omega), List.getElem?_eq_none (by omega)]
theorem rels_prs {E : Env} : ∀ (l : List (Int × Int)), RelL E (prs l) (enc2 l)
  | [] => .nil E
  | p :: l => .cons (.int _ _) (.cons (.int _ _) (rels_prs l))
theorem prs_one : ∀ (l : List (Int × Int)), (prs l).all AV.one = true
  | [] => rfl
  | p :: l => by rw [prs_cons]; simp [AV.one, prs_one l]
section
variable {E : Env} {H : AHeap} {w : World}
theorem Emb.putP (h : Emb E H w) {b q : Nat} {zs ys : List (Int × Int)} (hg : H[b]? = some (.cells true 2 (prs zs))) (hl : ys.length = zs.length) (os : Array Obj) :
    Emb E (H.set b (.cells true 2 (prs ys))) (Go.Sort.grow ((w.drewN q).setCells (E.loc b).blk ((E.loc b).off) (enc2 ys)) os) := by
  have h0 : Emb E H (w.drewN q) := h.up (below_drewN (Below.refl _ _) q)
  have hw : awrite H b 0 (prs ys) = some (H.set b (.cells true 2 (prs ys))) := by
    unfold awrite
    rw [hg]
    simp only
    rw [if_pos ⟨by simp [prs_len, hl], prs_one ys⟩, splice_all (by simp [prs_len, hl])]
  exact ((h0.write (rels_prs ys) hw).2.2.2).up (below_grow _ os)
end
/-- Elements as their two cells. -/
def encP {α : Type} (val : α → Int × Int) (x : α) : List Value := [.int .i64 (val x).1, .int .i64 (val x).2]
theorem flat_list {α : Type} [Inhabited α] (val : α → Int × Int) (zs : List α) : flatK (encP val) 2 zs.toArray = (enc2 (zs.map val)).toArray := by
  refine ext_get! (by simp [enc2_len]) fun t ht => ?_
  have ht' : t < zs.length * 2 := by simpa using ht
  rw [get_flatK _ _ _ _ (by simpa using ht')]
  have hj : t / 2 < zs.length := by omega
  obtain ⟨e1, e2⟩ := enc2_at (zs.map val) (t / 2) (by simpa using hj)
  have hx : zs.toArray[t / 2]! = zs[t / 2] := by simp [hj]
  rw [hx]
  have hr : (enc2 (zs.map val)).toArray[t]! = ((enc2 (zs.map val))[t]?).getD default := by simp [List.getElem!_eq_getElem?_getD]
  rw [hr]
  rcases Nat.mod_two_eq_zero_or_one t with h | h
  · have : t = t / 2 * 2 := by omega
    rw [← this] at e1
    rw [h, e1]
    simp [encP]
  · have : t = t / 2 * 2 + 1 := by omega
    rw [← this] at e2
    rw [h, e2]
    simp [encP]
set_option maxRecDepth 100000 in
theorem sortf_a {α : Type} [Inhabited α] (val : α → Int × Int) (cf : α → α → Int) (hO : SWO (ltOf cf)) (g : FuncId) (eg : ∀ args w, (callFunc g args).run Try.prog w = .ok (.enter g args) w)
    (hcmp : ∀ (x y : α) (W : World), Calls Try.prog g #[.agg #[.int .i64 (val x).1, .int .i64 (val x).2], .agg #[.int .i64 (val y).1, .int .i64 (val y).2]] W fun e w' => e = .returned (.int .i64 (cf x y)) ∧ ∃ q os', w' = grow (W.drewN q) os')
    {H : AHeap} {b n : Nat} {cap : Option Nat} {zs : List α} (hg : H[b]? = some (.cells true 2 (prs (zs.map val)))) (hn : n = zs.length) (h0 : 0 < n) (h1 : n ≤ 1000000) :
    ACalls Try.prog 69 [.sl (some (b, 0)) n cap, .fn g []] H
      (fun v H' => v = .tup [] ∧ ∃ ys : List α, ys.Perm zs ∧ ys.Pairwise (fun x y => ltOf cf y x = false) ∧ H' = H.set b (.cells true 2 (prs (ys.map val)))) := fun E w vs hE hv => by
  obtain ⟨v1, l1, rfl, k1, h1'⟩ := rels_cons hv
  obtain ⟨v2, l2, rfl, k2, h2'⟩ := rels_cons h1'
  obtain rfl := rels_nil h2'
  have hf : v2 = .func (.func g) #[] #[] := by
    cases k2 with
    | fn _ _ cs hl _ =>
      have : cs = #[] := by
        have : cs.size = 0 := hl.symm
        exact Array.eq_empty_of_size_eq_zero this
      rw [this]
  subst hf
  cases k1 with
  | nils _ _ _ _ => exact absurd h0 (Nat.lt_irrefl 0)
  | sl _ _ _ _ c a hb h2 h3 h4 h5 h6 =>
  have hc : c ≠ 0 := by omega
  obtain rfl := h5.resolve_left hc
  obtain ⟨m1, m2, -, -⟩ := hE.blk b _ hg
  obtain ⟨o1, o2, o3, o4, o5⟩ := m2 rfl
  have hpl : (prs (zs.map val)).length = zs.length * 2 := by rw [prs_len]; simp
  have hH : HoldsK (encP val) 2 w (E.loc b).blk (E.loc b).off zs.toArray := by
    show Holds id w _ _ (flatK (encP val) 2 zs.toArray)
    rw [flat_list]
    intro j hj
    have hj' : j < zs.length * 2 := by simpa [enc2_len] using hj
    refine ⟨?_, (o5 j (by omega)).2⟩
    have hx : (prs (zs.map val))[j]? = some (prs (zs.map val))[j] := List.getElem?_eq_getElem (by omega)
    obtain ⟨-, v, hv, hr⟩ := m1 j _ hx
    rw [hv]
    obtain ⟨u, hu, hru⟩ := (rels_prs (E := E) (zs.map val)).get hx
    have : ∀ (k : Nat) (l : List (Int × Int)) (y : AV) (v u : Value), (prs l)[k]? = some y → Rel E y v → (enc2 l)[k]? = some u → v = u := by
      intro k l
      induction l generalizing k with
      | nil => intro y v u h; simp [prs] at h
      | cons p l ih =>
        intro y v u h1 h2 h3
        match k with
        | 0 => simp [prs_cons, enc2] at h1 h3; subst h1 h3; exact rel_int h2
        | 1 => simp [prs_cons, enc2] at h1 h3; subst h1 h3; exact rel_int h2
        | k + 2 =>
          refine ih k y v u (by simpa [prs_cons] using h1) h2 ?_
          simpa [enc2] using h3
    have e := this j _ _ v u hx hr hu
    subst e
    simp [List.getElem!_eq_getElem?_getD, hu]
  have hcon := AnyQ.slices_SortFunc Try.sort69 2 Try.isAgg39 Try.sizeOf39 (encP val) (fun _ => rfl) (fun x v hv => by simp [encP] at hv; rcases hv with rfl | rfl <;> rfl) cf hO g #[] (E.loc b).blk (E.loc b).off c zs.toArray w eg
    (fun _ _ _ _ x y => by simpa [encP] using hcmp x y _) hH o2 (by simp; omega)
  change Calls Try.prog 69 _ _ _ at hcon
  have hsz : zs.toArray.size = n := by simp [hn]
  rw [hsz] at hcon
  refine hcon.mono fun e w' ⟨he, d', q, os, hp, hs, hw⟩ => ?_
  subst hw
  obtain ⟨p1, -, p3⟩ := hp
  have hperm : d'.toList.Perm zs := by
    have a1 : d'.extract 0 n = d' := by rw [← hsz, ← p1]; simp
    have a2 : zs.toArray.extract 0 n = zs.toArray := by rw [← hsz]; simp
    rw [a1, a2] at p3
    simpa using p3
  have hl : (d'.toList.map val).length = (zs.map val).length := by simp [hperm.length_eq]
  refine ⟨E, _, _, .tup [], he, ⟨rfl, d'.toList, hperm, ?_, rfl⟩, .refl E, .tup [] #[] rfl (fun i x v h => by simp at h), ?_⟩
  · rw [List.pairwise_iff_getElem]
    intro i j hi hj hij
    have := hs i j (Nat.zero_le _) hij (by have := hperm.length_eq; simp at hj this; omega)
    simp at hi hj
    simpa [hi, hj] using this
  · have hd : d' = d'.toList.toArray := by simp
    have e1 : sortWorldK (encP val) 2 w (E.loc b).blk (E.loc b).off q d' os = grow ((w.drewN q).setCells (E.loc b).blk (E.loc b).off (enc2 (d'.toList.map val))) os := by
      unfold sortWorldK
      congr 1
      show putRow id (Sort.ahead w q) _ _ (flatK (encP val) 2 d') = _
      rw [hd, flat_list]
      have := Lib.putRow_eq_setCells id w (E.loc b).blk (E.loc b).off (flatK (encP val) 2 zs.toArray) (enc2 (d'.toList.map val)) q hH (by rw [enc2_len, hl]; simp)
      simpa using this
    rw [e1]
    exact hE.putP hg hl os
end Go.Proofs.Ytjfnbcifafmefaa
