/- The abstract machine: contracts that were walked by hand become its own. Conditions: as each theorem states. -/
import Derived.Test.YtjfnbcifafmefaaAmO
namespace Go.Proofs.Ytjfnbcifafmefaa
set_option linter.unusedSimpArgs false
set_option linter.unusedVariables false
open Go.RowKit
section
variable {E : Env} {H : AHeap} {w w' : World}
theorem Emb.ownLt (h : Emb E H w) {b : Nat} {x : ABlk} (hx : H[b]? = some x) (ho : x.owned = true) : (E.loc b).blk < w.heap.size := by
  have hk := h.blk b x hx
  cases x with
  | dead => cases ho
  | cells own e ys => exact (hk.2.1 ho).2.1
  | map es => exact hk.2.1
/-- New blocks of the world leave the abstract memory as it was. -/
theorem Emb.up (h : Emb E H w) (hb : Below w.heap.size w w') : Emb E H w' where
  n := h.n
  below := h.below.trans (hb.mono h.base)
  base := Nat.le_trans h.base hb.size
  blk b x hx := (h.blk b x hx).mono (Env.le.refl E) hb.size (fun ho => hb.block _ (h.ownLt hx ho)) (fun hB => hb.block _ (Nat.lt_of_lt_of_le hB h.base))
  inj := h.inj
/-- A new row of the world becomes a new block. -/
theorem Emb.row (h : Emb E H w) (hb : Below w.heap.size w w') {base n sz : Nat} {e : TypeId} {v : Value} {vs : List Value} {xs : List AV} (hown : w'.ownsRow base e sz v n vs) (hB : w.heap.size ≤ base) (hn : 0 < n) (hr : RelL E xs vs) (ho : ∀ x ∈ xs, x.one = true) :
    ∃ E', E.le E' ∧ Rel E' (.sl (some (H.length, 0)) n none) v ∧ Emb E' (H ++ [.cells true sz xs]) w' := by
  have hs := Seg.of_own (own_base hown (Nat.le_trans h.base hB))
  obtain ⟨g, off, cap, rfl, h1, h2, h3, h4, h5⟩ := blk_of_seg hr ho hs hn
  have hg : base ≤ g := by
    rcases hown.2 with ⟨hv, -⟩ | ⟨g', cap', cur, hv, hb', -⟩
    · cases hv
    · injection hv with hv; injection hv with hv; injection hv with hv; omega
  have hle := E.le_push ⟨g, off, cap * sz, sz⟩
  refine ⟨E.push ⟨g, off, cap * sz, sz⟩, hle, ?_, h.grow (row := none) ⟨hb.os, hb.tape, hb.output, hb.size, fun k hk _ => hb.block k hk⟩ (fun k hk => by cases hk) rfl (fun c x hx => .inr ⟨hx, fun _ => by simp⟩) _ _ (h5 _ hle) (fun c x hx ho => ?_)⟩
  · have e1 : (E.push ⟨g, off, cap * sz, sz⟩).loc H.length = ⟨g, off, cap * sz, sz⟩ := by rw [← h.n]; exact Env.push_new _ _
    refine .sl _ _ _ _ _ _ (by simp [Env.push, h.n]) h3 h4 (.inl rfl) (.inr (by rw [e1]; rfl)) ?_
    rw [e1]; simp
  · have := h.ownLt hx ho
    show (E.loc c).blk ≠ g
    omega
theorem rel_int {k : IntKind} {n : Int} {v : Value} (h : Rel E (.int k n) v) : v = .int k n := by cases h; rfl
theorem rel_agg {xs : List AV} {v : Value} (h : Rel E (.agg xs) v) : ∃ vs : List Value, v = .agg vs.toArray ∧ RelL E xs vs := by
  cases h with
  | agg _ cs hl hh => exact ⟨cs.toList, by simp, by simpa using hl, fun i x v hx hv => hh i x v hx (by simpa using hv)⟩
theorem rels_cons {x : AV} {xs : List AV} {vs : List Value} (h : RelL E (x :: xs) vs) : ∃ v us, vs = v :: us ∧ Rel E x v ∧ RelL E xs us := by
  cases vs with
  | nil => have := h.1; simp at this
  | cons v us => exact ⟨v, us, rfl, h.uncons⟩
theorem rels_nil {vs : List Value} (h : RelL E [] vs) : vs = [] := by
  have := h.1
  exact List.eq_nil_of_length_eq_zero (by simpa using this.symm)
/-- A slice of numbers. -/
theorem rel_ints (hE : Emb E H w) {b n : Nat} {own : Bool} {k : IntKind} {xs : List Int} {cap : Option Nat} (hg : H[b]? = some (.cells own 1 (ints k xs))) {v : Value} (h : Rel E (.sl (some (b, 0)) n cap) v) (hn : n = xs.length) :
    ∃ A c, v = .slice A n c ∧ Ints w k A xs := by
  cases h with
  | nils _ _ hb hc => exact ⟨none, 0, rfl, .inl (List.length_eq_zero_iff.1 hn.symm)⟩
  | sl _ _ _ _ c a hb h1 h2 h3 h4 h5 =>
  refine ⟨some a, c, rfl, ?_⟩
  cases xs with
  | nil => exact .inl rfl
  | cons x r =>
    have hc : c ≠ 0 := by simp at hn; omega
    refine .inr ⟨_, _, by rw [h4.resolve_left hc], fun j hj => ?_⟩
    obtain ⟨-, v, hv, hr⟩ := (hE.blk b _ hg).1 j _ (ints_get hj)
    rw [rel_int hr] at hv
    simpa using hv
theorem rel_cell {x y : Int} {v : Value} (h : Rel E (.agg [.int .i64 x, .int .i64 y]) v) : v = .agg #[.int .i64 x, .int .i64 y] := by
  obtain ⟨vs, rfl, h0⟩ := rel_agg h
  obtain ⟨v1, l1, rfl, k1, h1⟩ := rels_cons h0
  obtain ⟨v2, l2, rfl, k2, h2⟩ := rels_cons h1
  rw [rels_nil h2, rel_int k1, rel_int k2]
theorem rel_plan (hE : Emb E H w) {W Hh : Int} {b n : Nat} {own : Bool} {xs : List Int} {cap : Option Nat} (hg : H[b]? = some (.cells own 1 (ints .u8 xs))) {v : Value} (h : Rel E (.agg [.int .i64 W, .int .i64 Hh, .sl (some (b, 0)) n cap]) v) (hn : n = xs.length) :
    ∃ A c, v = .agg #[.int .i64 W, .int .i64 Hh, .slice A n c] ∧ Ints w .u8 A xs := by
  obtain ⟨vs, rfl, h0⟩ := rel_agg h
  obtain ⟨v1, l1, rfl, k1, h1⟩ := rels_cons h0
  obtain ⟨v2, l2, rfl, k2, h2⟩ := rels_cons h1
  obtain ⟨v3, l3, rfl, k3, h3⟩ := rels_cons h2
  obtain ⟨A, c, hv, hr⟩ := rel_ints hE hg k3 hn
  exact ⟨A, c, by rw [rels_nil h3, rel_int k1, rel_int k2, hv], hr⟩
theorem rels_ints {k : IntKind} (zs : List Int) : RelL E (ints k zs) (zs.map (Value.int k)) := ⟨by simp [ints], fun i x v hx hv => by
  simp only [ints, List.getElem?_map, Option.map_eq_some_iff] at hx hv
  obtain ⟨a, ha, rfl⟩ := hx
  obtain ⟨b, hb, rfl⟩ := hv
  rw [ha] at hb; cases hb
  exact .int k a⟩
theorem ints_one {k : IntKind} (zs : List Int) : ∀ x ∈ ints k zs, x.one = true := fun x hx => by
  simp only [ints, List.mem_map] at hx
  obtain ⟨a, -, rfl⟩ := hx; rfl
/-- What a call hands back that leaves the abstract memory as it was. -/
theorem plain_out {R : AV → AHeap → Prop} (hE : Emb E H w) {e : Ending} (x : AV) {v : Value} (he : e = .returned v) (hr : Rel E x v) (hb : Below w.heap.size w w') (hR : R x H) :
    ∃ E' v H' x, e = .returned v ∧ R x H' ∧ E.le E' ∧ Rel E' x v ∧ Emb E' H' w' := ⟨E, v, H, x, he, hR, .refl E, hr, hE.up hb⟩
/-- At the top: a law's contract at a plan whose row holds something. -/
theorem top_plan {P : Program} {f : FuncId} {W Hh : Int} {A : Option Addr} {n c : Nat} {xs : List Int} {w : World} {rest : List AV} {rvs : List Value} (hrest : ∀ E, RelL E rest rvs) (hn : n = xs.length) (h0 : 0 < n) (hr : Ints w .u8 A xs) (hnc : n ≤ c) (hcm : c ≤ maxLen)
    (hc : ACalls P f (.agg [.int .i64 W, .int .i64 Hh, .sl (some (0, 0)) n none] :: rest) [.cells false 1 (ints .u8 xs)] (fun v H' => v = .bool true ∧ H' = [.cells false 1 (ints .u8 xs)])) :
    Calls P f (.agg #[.int .i64 W, .int .i64 Hh, .slice A n c] :: rvs).toArray w fun e w' => e = .returned (.bool true) ∧ Below w.heap.size w w' := by
  obtain ⟨b, off, rfl, hcell⟩ := hr.open (by omega)
  have hlt := hr.lt (by omega)
  let E : Env := ⟨w.heap.size, w, 1, fun _ => ⟨b, off, c, 1⟩⟩
  have hE : Emb E [.cells false 1 (ints .u8 xs)] w := by
    refine ⟨rfl, Below.refl _ _, Nat.le_refl _, fun k x hx => ?_, fun k j x y hx hy ox oy hkj => ?_⟩
    · have : k = 0 := by have := getElem?_lt hx; simp at this; exact this
      subst this
      simp at hx; subst hx
      refine ⟨fun j x hj => ?_, (fun h => by cases h), fun _ _ => hlt, rfl⟩
      have hj' : j < xs.length := by have := getElem?_lt hj; rwa [ints_len] at this
      rw [ints_get hj'] at hj
      simp at hj; subst hj
      exact ⟨rfl, _, hcell j hj', .int _ _⟩
    · have : k = 0 := by have := getElem?_lt hx; simp at this; exact this
      subst this
      simp at hx; subst hx; cases ox
  have hp : Rel E (.agg [.int .i64 W, .int .i64 Hh, .sl (some (0, 0)) n none]) (.agg #[.int .i64 W, .int .i64 Hh, .slice (some ⟨b, off, none⟩) n c]) :=
    RelL.agg (vs := [_, _, _]) (.cons (.int _ _) (.cons (.int _ _) (.cons (.sl 0 0 n none c _ (by show 0 < 1; omega) hnc hcm (.inl rfl) (.inr rfl) (by show 0 + c * 1 ≤ c; omega)) (.nil _))))
  refine (hc E w _ hE (.cons hp (hrest E))).mono fun e w' ⟨E', v, H', x, he, ⟨hx, _⟩, hle, hrel, hemb⟩ => ⟨?_, ?_⟩
  · subst hx; cases hrel; exact he
  · have := hemb.below
    rw [hle.B, hle.w0] at this
    exact this
end
end Go.Proofs.Ytjfnbcifafmefaa
