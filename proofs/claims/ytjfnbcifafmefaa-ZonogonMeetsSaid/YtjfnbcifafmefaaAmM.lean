/- The abstract machine: states seen in another way, a function's entry and its end. Conditions: as each theorem states. -/
import Derived.Test.YtjfnbcifafmefaaAmL
namespace Go.Proofs.Ytjfnbcifafmefaa
set_option linter.unusedSimpArgs false
set_option linter.unusedVariables false
open Go.RowKit

mutual
/-- Blocks counted anew. -/
def AV.mv (σ : Nat → Nat) : AV → AV
  | .any => .any
  | .int k n => .int k n
  | .bool b => .bool b
  | .str s => .str s
  | .ptr none => .ptr none
  | .ptr (some (b, o)) => .ptr (some (σ b, o))
  | .sl none n c => .sl none n c
  | .sl (some (b, o)) n c => .sl (some (σ b, o)) n c
  | .mp none => .mp none
  | .mp (some b) => .mp (some (σ b))
  | .fn f caps => .fn f (AV.mvs σ caps)
  | .nilfn => .nilfn
  | .agg cs => .agg (AV.mvs σ cs)
  | .tup vs => .tup (AV.mvs σ vs)
def AV.mvs (σ : Nat → Nat) : List AV → List AV
  | [] => []
  | x :: r => x.mv σ :: AV.mvs σ r
end
mutual
/-- All blocks are below n. -/
def AV.bel (n : Nat) : AV → Bool
  | .ptr (some (b, _)) => decide (b < n)
  | .sl (some (b, _)) _ _ => decide (b < n)
  | .mp (some b) => decide (b < n)
  | .fn _ caps => AV.bels n caps
  | .agg cs => AV.bels n cs
  | .tup vs => AV.bels n vs
  | _ => true
def AV.bels (n : Nat) : List AV → Bool
  | [] => true
  | x :: r => x.bel n && AV.bels n r
end
theorem AV.mvs_eq (σ : Nat → Nat) : ∀ xs : List AV, AV.mvs σ xs = xs.map (AV.mv σ)
  | [] => rfl
  | x :: r => by simp [AV.mvs, AV.mvs_eq σ r]
theorem AV.bels_eq (n : Nat) : ∀ xs : List AV, AV.bels n xs = xs.all (AV.bel n)
  | [] => rfl
  | x :: r => by simp [AV.bels, AV.bels_eq n r]
mutual
theorem mv_id {n : Nat} {σ : Nat → Nat} (h : ∀ b, b < n → σ b = b) : ∀ x : AV, x.bel n = true → x.mv σ = x
  | .any, _ => rfl
  | .int _ _, _ => rfl
  | .bool _, _ => rfl
  | .str _, _ => rfl
  | .ptr none, _ => rfl
  | .ptr (some (b, o)), hb => by simp [AV.bel] at hb; simp [AV.mv, h b hb]
  | .sl none _ _, _ => rfl
  | .sl (some (b, o)) _ _, hb => by simp [AV.bel] at hb; simp [AV.mv, h b hb]
  | .mp none, _ => rfl
  | .mp (some b), hb => by simp [AV.bel] at hb; simp [AV.mv, h b hb]
  | .nilfn, _ => rfl
  | .fn f caps, hb => by simp only [AV.bel] at hb; simp only [AV.mv, mvs_id h caps hb]
  | .agg cs, hb => by simp only [AV.bel] at hb; simp only [AV.mv, mvs_id h cs hb]
  | .tup cs, hb => by simp only [AV.bel] at hb; simp only [AV.mv, mvs_id h cs hb]
theorem mvs_id {n : Nat} {σ : Nat → Nat} (h : ∀ b, b < n → σ b = b) : ∀ xs : List AV, AV.bels n xs = true → AV.mvs σ xs = xs
  | [], _ => rfl
  | x :: r, hb => by
    simp only [AV.bels, Bool.and_eq_true] at hb
    simp only [AV.mvs, mv_id h x hb.1, mvs_id h r hb.2]
end
mutual
theorem rel_mv {E E' : Env} {σ : Nat → Nat} (hl : ∀ b, E'.loc b = E.loc (σ b)) (hn : ∀ b, σ b < E.n → b < E'.n) : ∀ (x : AV) (v : Value), Rel E (x.mv σ) v → Rel E' x v
  | .any, v, _ => .any v
  | .int _ _, v, h => by simp only [AV.mv] at h; cases h; exact .int _ _
  | .bool _, v, h => by simp only [AV.mv] at h; cases h; exact .bool _
  | .str _, v, h => by simp only [AV.mv] at h; cases h; exact .str _
  | .ptr none, v, h => by simp only [AV.mv] at h; cases h; exact .nilptr
  | .ptr (some (b, o)), v, h => by
    simp only [AV.mv] at h
    cases h with
    | ptr _ _ hb => rw [← hl]; exact .ptr b o (hn b hb)
  | .sl none _ _, v, h => by simp only [AV.mv] at h; cases h; exact .nilsl
  | .sl (some (b, o)) n c, v, h => by
    simp only [AV.mv] at h
    cases h with
    | nils _ _ hb hc => exact .nils b c (hn b hb) hc
    | sl _ _ _ _ q a hb h1 h2 h3 h4 h5 => exact .sl b o n c q a (hn b hb) h1 h2 h3 (by rw [hl]; exact h4) (by rw [hl]; exact h5)
  | .mp none, v, h => by simp only [AV.mv] at h; cases h; exact .nilmp
  | .mp (some b), v, h => by
    simp only [AV.mv] at h
    cases h with
    | mp _ hb => rw [← hl]; exact .mp b (hn b hb)
  | .nilfn, v, h => by simp only [AV.mv] at h; cases h; exact .nilfn
  | .fn f caps, v, h => by
    simp only [AV.mv] at h
    cases h with
    | fn _ _ cs h1 h2 =>
      have := relL_mv hl hn caps cs.toList ⟨by simpa using h1, fun i x v hx hv => h2 i x v hx (by simpa using hv)⟩
      have := this.fn (f := f)
      simpa using this
  | .agg xs, v, h => by
    simp only [AV.mv] at h
    obtain ⟨vs, rfl, hr⟩ := rel_agg_inv h
    exact (relL_mv hl hn xs vs hr).agg
  | .tup xs, v, h => by
    simp only [AV.mv] at h
    cases h with
    | tup _ cs h1 h2 =>
      have := (relL_mv hl hn xs cs.toList ⟨by simpa using h1, fun i x v hx hv => h2 i x v hx (by simpa using hv)⟩).tup
      simpa using this
theorem relL_mv {E E' : Env} {σ : Nat → Nat} (hl : ∀ b, E'.loc b = E.loc (σ b)) (hn : ∀ b, σ b < E.n → b < E'.n) : ∀ (xs : List AV) (vs : List Value), RelL E (AV.mvs σ xs) vs → RelL E' xs vs
  | [], vs, h => by
    have : vs = [] := List.length_eq_zero_iff.1 (by have := h.1; simpa [AV.mvs] using this.symm)
    subst this
    exact RelL.nil E'
  | x :: r, [], h => by have := h.1; simp [AV.mvs] at this
  | x :: r, v :: vs, h => by
    simp only [AV.mvs] at h
    obtain ⟨h1, h2⟩ := h.uncons
    exact .cons (rel_mv hl hn x v h1) (relL_mv hl hn r vs h2)
end
mutual
theorem rel_bel {E : Env} : ∀ (x : AV) (v : Value), Rel E x v → x.bel E.n = true
  | .any, v, _ => rfl
  | .int _ _, v, h => rfl
  | .bool _, v, h => rfl
  | .str _, v, h => rfl
  | .ptr none, v, h => rfl
  | .ptr (some (b, o)), v, h => by cases h with | ptr _ _ hb => simp [AV.bel, hb]
  | .sl none _ _, v, h => rfl
  | .sl (some (b, o)) n c, v, h => by cases h with | nils _ _ hb => simp [AV.bel, hb] | sl _ _ _ _ q a hb => simp [AV.bel, hb]
  | .mp none, v, h => rfl
  | .mp (some b), v, h => by cases h with | mp _ hb => simp [AV.bel, hb]
  | .nilfn, v, h => rfl
  | .fn f caps, v, h => by
    cases h with
    | fn _ _ cs h1 h2 =>
      simp only [AV.bel]
      exact relL_bel caps cs.toList ⟨by simpa using h1, fun i x v hx hv => h2 i x v hx (by simpa using hv)⟩
  | .agg xs, v, h => by
    obtain ⟨vs, rfl, hr⟩ := rel_agg_inv h
    simp only [AV.bel]
    exact relL_bel xs vs hr
  | .tup xs, v, h => by
    cases h with
    | tup _ cs h1 h2 =>
      simp only [AV.bel]
      exact relL_bel xs cs.toList ⟨by simpa using h1, fun i x v hx hv => h2 i x v hx (by simpa using hv)⟩
theorem relL_bel {E : Env} : ∀ (xs : List AV) (vs : List Value), RelL E xs vs → AV.bels E.n xs = true
  | [], vs, h => rfl
  | x :: r, [], h => by have := h.1; simp at this
  | x :: r, v :: vs, h => by
    obtain ⟨h1, h2⟩ := h.uncons
    simp only [AV.bels, Bool.and_eq_true]
    exact ⟨rel_bel x v h1, relL_bel r vs h2⟩
end
def ABlk.bel (n : Nat) : ABlk → Bool
  | .dead => true
  | .cells _ _ xs => AV.bels n xs
  | .map es => AV.bels n (es.map (·.1)) && AV.bels n (es.map (·.2))
def ABlk.mv (σ : Nat → Nat) : ABlk → ABlk
  | .dead => .dead
  | .cells o e xs => .cells o e (AV.mvs σ xs)
  | .map es => .map (es.map fun p => (p.1.mv σ, p.2.mv σ))
/-- No block of the memory leads out of it. -/
def HBel (n : Nat) (H : AHeap) : Prop := ∀ (b : Nat) (x : ABlk), H[b]? = some x → x.bel n = true
theorem Emb.bel {E : Env} {H : AHeap} {w : World} (h : Emb E H w) : HBel H.length H := fun b x hx => by
  rw [← h.n]
  have hk := h.blk b x hx
  cases x with
  | dead => rfl
  | cells own es xs =>
    simp only [ABlk.bel]
    rw [AV.bels_eq, List.all_eq_true]
    intro y hy
    obtain ⟨j, hj⟩ := List.mem_iff_getElem?.1 hy
    obtain ⟨-, v, -, hr⟩ := hk.1 j y hj
    exact rel_bel y v hr
  | map es =>
    obtain ⟨-, -, ents, clock, -, h4, h5⟩ := hk
    simp only [ABlk.bel, Bool.and_eq_true]
    exact ⟨relL_bel _ _ h4, relL_bel _ _ h5⟩
theorem blk_mv {E E' : Env} {σ : Nat → Nat} (hB : E'.B = E.B) (hl : ∀ b, E'.loc b = E.loc (σ b)) (hn : ∀ b, σ b < E.n → b < E'.n) {w : World} {L : Loc} : ∀ {x : ABlk}, BlkOk E w L (x.mv σ) → BlkOk E' w L x
  | .dead, _ => trivial
  | .cells own es xs, h => by
    simp only [ABlk.mv] at h
    obtain ⟨h1, h2, h3, h4⟩ := h
    refine ⟨fun j y hj => ?_, fun ho => ?_, fun ho hlen => ?_, h4⟩
    · obtain ⟨a1, v, a2, a3⟩ := h1 j (y.mv σ) (by rw [AV.mvs_eq, List.getElem?_map, hj]; rfl)
      exact ⟨by cases y <;> simp [AV.mv, AV.one] at a1 ⊢, v, a2, rel_mv hl hn y v a3⟩
    · rw [hB]
      have := h2 ho
      rw [AV.mvs_eq, List.length_map] at this
      exact this
    · rw [hB]
      exact h3 ho (by rw [AV.mvs_eq, List.length_map]; exact hlen)
  | .map es, h => by
    simp only [ABlk.mv] at h
    obtain ⟨h1, h2, ents, clock, h3, h4, h5⟩ := h
    refine ⟨by rw [hB]; exact h1, h2, ents, clock, h3, relL_mv hl hn _ _ ?_, relL_mv hl hn _ _ ?_⟩
    · rw [AV.mvs_eq]; simpa [Function.comp_def] using h4
    · rw [AV.mvs_eq]; simpa [Function.comp_def] using h5
/-- A cell that says less: a slice whose capacity is not known, an empty slice instead of nil (m: how many blocks there are). -/
def Wc (m : Nat) (x y : AV) : Prop := x = y ∨ (∃ b c, x = .sl none 0 (some 0) ∧ y = .sl (some (b, 0)) 0 c ∧ b < m ∧ (c = none ∨ c = some 0)) ∨ ∃ p n c, x = .sl (some p) n c ∧ y = .sl (some p) n none
theorem Wc.rel {E : Env} {m : Nat} {x y : AV} {v : Value} (hm : m ≤ E.n) (h : Wc m x y) (hx : Rel E x v) : Rel E y v := by
  rcases h with rfl | ⟨b, c, rfl, rfl, hb, hc⟩ | ⟨p, n, c, rfl, rfl⟩
  · exact hx
  · cases hx; exact .nils _ _ (by omega) hc
  · cases hx with
    | nils _ _ hb hc => exact .nils _ none hb (.inl rfl)
    | sl _ _ _ _ q a hb h1 h2 h3 h4 h5 => exact .sl _ _ _ none q a hb h1 h2 (.inl rfl) h4 h5
theorem Wc.one {m : Nat} {x y : AV} (h : Wc m x y) (hx : x.one = true) : y.one = true := by
  rcases h with rfl | ⟨b, c, rfl, rfl, hb, hc⟩ | ⟨p, n, c, rfl, rfl⟩
  · exact hx
  · rfl
  · rfl
def Wcs (m : Nat) : List AV → List AV → Prop
  | [], [] => True
  | x :: xs, y :: ys => Wc m x y ∧ Wcs m xs ys
  | _, _ => False
theorem Wcs.get {m : Nat} : ∀ {xs ys : List AV}, Wcs m xs ys → xs.length = ys.length ∧ ∀ (i : Nat) (y : AV), ys[i]? = some y → ∃ x, xs[i]? = some x ∧ Wc m x y
  | [], [], _ => ⟨rfl, fun i y h => by simp at h⟩
  | x :: xs, y :: ys, h => by
    obtain ⟨h1, h2⟩ := Wcs.get h.2
    refine ⟨by simp [h1], fun i u hu => ?_⟩
    cases i with
    | zero => simp at hu; subst hu; exact ⟨x, rfl, h.1⟩
    | succ i => exact h2 i u (by simpa using hu)
  | [], _ :: _, h => h.elim
  | _ :: _, [], h => h.elim
mutual
/-- What says less. -/
def W (m : Nat) : AV → AV → Prop
  | .agg xs, y => y = .any ∨ (match y with | .agg ys => Ws m xs ys | _ => False)
  | .tup xs, y => y = .any ∨ (match y with | .tup ys => Ws m xs ys | _ => False)
  | x, y => y = .any ∨ Wc m x y
def Ws (m : Nat) : List AV → List AV → Prop
  | [], ys => (match ys with | [] => True | _ => False)
  | x :: xs, ys => (match ys with | y :: ys => W m x y ∧ Ws m xs ys | [] => False)
end
mutual
theorem W.refl {m : Nat} : ∀ (x : AV), W m x x
  | .agg xs => .inr (Ws.refl xs)
  | .tup xs => .inr (Ws.refl xs)
  | .any => .inl rfl
  | .int _ _ => .inr (.inl rfl)
  | .bool _ => .inr (.inl rfl)
  | .str _ => .inr (.inl rfl)
  | .ptr _ => .inr (.inl rfl)
  | .sl _ _ _ => .inr (.inl rfl)
  | .mp _ => .inr (.inl rfl)
  | .fn _ _ => .inr (.inl rfl)
  | .nilfn => .inr (.inl rfl)
theorem Ws.refl {m : Nat} : ∀ (xs : List AV), Ws m xs xs
  | [] => trivial
  | x :: xs => ⟨W.refl x, Ws.refl xs⟩
end
theorem W_any {m : Nat} : ∀ (x : AV), W m x .any
  | .agg _ | .tup _ | .any | .int _ _ | .bool _ | .str _ | .ptr _ | .sl _ _ _ | .mp _ | .fn _ _ | .nilfn => .inl rfl
theorem W_agg {m : Nat} {xs ys : List AV} : W m (.agg xs) (.agg ys) = Ws m xs ys := by
  show (AV.agg ys = .any ∨ Ws m xs ys) = _
  simp
theorem W_tup {m : Nat} {xs ys : List AV} : W m (.tup xs) (.tup ys) = Ws m xs ys := by
  show (AV.tup ys = .any ∨ Ws m xs ys) = _
  simp
theorem Ws_cons {m : Nat} {x y : AV} {xs ys : List AV} : Ws m (x :: xs) (y :: ys) = (W m x y ∧ Ws m xs ys) := rfl
theorem W_refl' {m : Nat} {x : AV} : W m x x = True := eq_true (W.refl x)
theorem Ws_refl' {m : Nat} {xs : List AV} : Ws m xs xs = True := eq_true (Ws.refl xs)
theorem W_any' {m : Nat} {x : AV} : W m x .any = True := eq_true (W_any x)
theorem W_nils {m b : Nat} {c : Option Nat} (hb : b < m) (hc : c = none ∨ c = some 0) : W m (.sl none 0 (some 0)) (.sl (some (b, 0)) 0 c) := .inr (.inr (.inl ⟨b, c, rfl, rfl, hb, hc⟩))
theorem W_cap {m n : Nat} {p : Nat × Nat} {c : Option Nat} : W m (.sl (some p) n c) (.sl (some p) n none) := .inr (.inr (.inr ⟨p, n, c, rfl, rfl⟩))
theorem Wc_nils {m b : Nat} {c : Option Nat} (hb : b < m) (hc : c = none ∨ c = some 0) : Wc m (.sl none 0 (some 0)) (.sl (some (b, 0)) 0 c) := .inr (.inl ⟨b, c, rfl, rfl, hb, hc⟩)
theorem Wc_cap {m n : Nat} {p : Nat × Nat} {c : Option Nat} : Wc m (.sl (some p) n c) (.sl (some p) n none) := .inr (.inr ⟨p, n, c, rfl, rfl⟩)
theorem Wc_refl' {m : Nat} {x : AV} : Wc m x x = True := eq_true (.inl rfl)
theorem Wcs_cons {m : Nat} {x y : AV} {xs ys : List AV} : Wcs m (x :: xs) (y :: ys) = (Wc m x y ∧ Wcs m xs ys) := rfl
theorem Wcs_nil {m : Nat} : Wcs m [] [] = True := rfl
mutual
theorem rel_W {E : Env} {m : Nat} (hm : m ≤ E.n) : ∀ (x y : AV) (v : Value), W m x y → Rel E x v → Rel E y v
  | .agg xs, y, v, h, hx => by
    rcases h with rfl | h
    · exact .any v
    · cases y <;> first | exact h.elim | skip
      obtain ⟨vs, rfl, hr⟩ := rel_agg_inv hx
      exact (relL_W hm xs _ vs h hr).agg
  | .tup xs, y, v, h, hx => by
    rcases h with rfl | h
    · exact .any v
    · cases y <;> first | exact h.elim | skip
      cases hx with
      | tup _ cs h1 h2 =>
        have := (relL_W hm xs _ cs.toList h ⟨by simpa using h1, fun i x v hx hv => h2 i x v hx (by simpa using hv)⟩).tup
        simpa using this
  | .any, y, v, h, hx => by rcases h with rfl | h; exact .any v; exact h.rel hm hx
  | .int _ _, y, v, h, hx => by rcases h with rfl | h; exact .any v; exact h.rel hm hx
  | .bool _, y, v, h, hx => by rcases h with rfl | h; exact .any v; exact h.rel hm hx
  | .str _, y, v, h, hx => by rcases h with rfl | h; exact .any v; exact h.rel hm hx
  | .ptr _, y, v, h, hx => by rcases h with rfl | h; exact .any v; exact h.rel hm hx
  | .sl _ _ _, y, v, h, hx => by rcases h with rfl | h; exact .any v; exact h.rel hm hx
  | .mp _, y, v, h, hx => by rcases h with rfl | h; exact .any v; exact h.rel hm hx
  | .fn _ _, y, v, h, hx => by rcases h with rfl | h; exact .any v; exact h.rel hm hx
  | .nilfn, y, v, h, hx => by rcases h with rfl | h; exact .any v; exact h.rel hm hx
theorem relL_W {E : Env} {m : Nat} (hm : m ≤ E.n) : ∀ (xs ys : List AV) (vs : List Value), Ws m xs ys → RelL E xs vs → RelL E ys vs
  | [], ys, vs, h, hr => by cases ys <;> first | exact hr | exact h.elim
  | x :: xs, ys, vs, h, hr => by
    cases ys with
    | nil => exact h.elim
    | cons y ys =>
      cases vs with
      | nil => have := hr.1; simp at this
      | cons v vs =>
        obtain ⟨h1, h2⟩ := hr.uncons
        exact .cons (rel_W hm x y v h.1 h1) (relL_W hm xs ys vs h.2 h2)
end
/-- A block that says less. -/
def BW (m : Nat) (a : Option ABlk) (x : ABlk) : Prop :=
  match a, x with
  | some (.cells o e xs), .cells o' e' ys => e = e' ∧ ((xs = [] ∧ ys = [] ∧ o' = false) ∨ (o = o' ∧ Wcs m xs ys) ∨ (o = o' ∧ ∃ zs, xs = ys ++ zs))
  | _, _ => False
theorem BW.ok {E : Env} {m : Nat} (hm : m ≤ E.n) {w : World} {L : Loc} {a : ABlk} {x : ABlk} (h : BW m (some a) x) (ha : BlkOk E w L a) : BlkOk E w L x := by
  unfold BW at h
  split at h
  · rename_i o e xs o' e' ys e1
    injection e1 with e1; subst e1
    obtain ⟨rfl, h⟩ := h
    obtain ⟨k1, k2, k3, k4⟩ := ha
    rcases h with ⟨rfl, rfl, rfl⟩ | ⟨rfl, h⟩ | ⟨rfl, zs, rfl⟩
    · exact ⟨fun j y hj => by simp at hj, (fun h => by cases h), fun _ h0 => by simp at h0, k4⟩
    rotate_left
    · refine ⟨fun j y hj => k1 j y (by rw [List.getElem?_append_left (getElem?_lt hj)]; exact hj), fun ho => ?_, fun ho hl => k3 ho (by rw [List.length_append]; omega), k4⟩
      obtain ⟨a1, a2, a3, a4, a5⟩ := k2 ho
      rw [List.length_append] at a4
      exact ⟨a1, a2, a3, by omega, a5⟩
    · obtain ⟨q1, q2⟩ := h.get
      refine ⟨fun j y hj => ?_, fun ho => ?_, fun ho hl => k3 ho (by omega), k4⟩
      · obtain ⟨x, hx, hw⟩ := q2 j y hj
        obtain ⟨a1, v, a2, a3⟩ := k1 j x hx
        exact ⟨hw.one a1, v, a2, hw.rel hm a3⟩
      · rw [← q1]; exact k2 ho
  · exact h.elim
theorem BW.own {m : Nat} {a : Option ABlk} {x : ABlk} (h : BW m a x) (ho : x.owned = true) : ∃ y, a = some y ∧ y.owned = true := by
  unfold BW at h
  split at h
  · obtain ⟨rfl, h⟩ := h
    rcases h with ⟨rfl, rfl, rfl⟩ | ⟨rfl, h⟩ | ⟨rfl, h⟩
    · cases ho
    · exact ⟨_, rfl, ho⟩
    · exact ⟨_, rfl, ho⟩
  · exact h.elim
theorem BW.emp {m e : Nat} {o : Bool} : BW m (some (.cells o e [])) (.cells false e []) := ⟨rfl, .inl ⟨rfl, rfl, rfl⟩⟩
theorem BW.cells {m e : Nat} {o : Bool} {xs ys : List AV} (h : Wcs m xs ys) : BW m (some (.cells o e xs)) (.cells o e ys) := ⟨rfl, .inr (.inl ⟨rfl, h⟩)⟩
theorem BW.pre {m e : Nat} {o : Bool} {ys zs : List AV} : BW m (some (.cells o e (ys ++ zs))) (.cells o e ys) := ⟨rfl, .inr (.inr ⟨rfl, zs, rfl⟩)⟩
/-- The new blocks' old numbers: n + sel[0], n + sel[1], .. -/
def sig (n m : Nat) (sel : List Nat) (b : Nat) : Nat := if b < n then b else match sel[b - n]? with | some i => n + i | none => b + (n + m)
theorem Abs0.of {n : Nat} {H0 l1 l2 : AHeap} {F1 F2 : Fr} (hlen : H0.length = n) (hsc : HBel n H0) (sel : List Nat) (hnd : sel.Nodup)
    (hF : ∀ p ∈ F2, W (n + l1.length) (look F1 p.1) (p.2.mv (sig n l1.length sel))) (hl : l2.length = sel.length) (hH : ∀ (i b : Nat) (x : ABlk), sel[i]? = some b → l2[i]? = some x → x = .dead ∨ l1[b]? = some (x.mv (sig n l1.length sel)) ∨ BW (n + l1.length) (l1[b]?) (x.mv (sig n l1.length sel))) :
    Abs0 n (sig n l1.length sel) F1 (H0 ++ l1) F2 (H0 ++ l2) := by
  have small : ∀ b, b < n → sig n l1.length sel b = b := fun b hb => by simp [sig, hb]
  have inr : ∀ E E' : Env, E.n = (H0 ++ l1).length → E'.n = (H0 ++ l2).length → ∀ b, sig n l1.length sel b < E.n → b < E'.n := fun E E' e1 e2 b hb => by
    rw [e1] at hb
    rw [e2]
    simp only [List.length_append, hlen, hl] at hb ⊢
    unfold sig at hb
    split at hb
    · omega
    · split at hb
      · rename_i h; have := getElem?_lt h; omega
      · omega
  have new : ∀ (b : Nat) (x : ABlk), ¬ b < n → (H0 ++ l2)[b]? = some x → ∃ i, sel[b - n]? = some i ∧ sig n l1.length sel b = n + i ∧ l2[b - n]? = some x := fun b x hb hx => by
    rw [List.getElem?_append_right (by omega), hlen] at hx
    have := getElem?_lt hx
    have h1 : sel[b - n]? = some (sel[b - n]'(by omega)) := List.getElem?_eq_getElem _
    exact ⟨_, h1, by unfold sig; rw [if_neg hb, h1], hx⟩
  refine ⟨small, by simp [hlen], fun E E' e1 e2 e3 t v hv => ?_, fun E E' e1 e2 eB e3 w hw b x hx => ?_, fun b c x y hx hy ox oy hbc => ?_⟩
  · have hlook : look F2 t = .any ∨ ∃ p ∈ F2, p.1 = t ∧ look F2 t = p.2 := by
      clear hF
      induction F2 with
      | nil => exact .inl rfl
      | cons p F2 ih =>
        obtain ⟨s, y⟩ := p
        unfold look
        by_cases e : s = t
        · subst e; simp
        · have : (s == t) = false := by simp [e]
          rw [this]
          simp only [cond_false]
          rcases ih with h | ⟨p, h1, h2, h3⟩
          · exact .inl h
          · exact .inr ⟨p, by simp [h1], h2, h3⟩
    rcases hlook with h | ⟨p, h1, rfl, h3⟩
    · rw [h]; exact .any v
    · rw [h3]
      exact rel_mv e3 (inr E E' e1 e2) _ v (rel_W (by rw [e1, List.length_append, hlen]; exact Nat.le_refl _) _ _ v (hF p h1) hv)
  · by_cases hb : b < n
    · rw [List.getElem?_append_left (by omega)] at hx
      have h1 := hw b x (by rw [List.getElem?_append_left (by omega)]; exact hx)
      have hbel := hsc b x hx
      have hmv : x.mv (sig n l1.length sel) = x := by
        cases x with
        | dead => rfl
        | cells o e xs => simp only [ABlk.bel] at hbel; simp only [ABlk.mv, mvs_id small xs hbel]
        | map es =>
          simp only [ABlk.bel, Bool.and_eq_true] at hbel
          simp only [ABlk.mv]
          congr 1
          obtain ⟨q1, q2⟩ := hbel
          rw [AV.bels_eq, List.all_eq_true] at q1 q2
          have : es.map (fun p => (p.1.mv (sig n l1.length sel), p.2.mv (sig n l1.length sel))) = es.map id := List.map_congr_left fun p hp => by
            rw [mv_id small p.1 (q1 _ (List.mem_map_of_mem hp)), mv_id small p.2 (q2 _ (List.mem_map_of_mem hp))]
            rfl
          rw [this, List.map_id]
      rw [e3 b, small b hb]
      exact blk_mv eB e3 (inr E E' e1 e2) (by rw [hmv]; exact h1)
    · obtain ⟨i, h1, h2, h3⟩ := new b x hb hx
      rcases hH _ i x h1 h3 with rfl | h4 | h4
      · trivial
      · have h5 := hw (n + i) _ (by rw [List.getElem?_append_right (by omega), hlen, show n + i - n = i by omega]; exact h4)
        rw [e3 b, h2]
        exact blk_mv eB e3 (inr E E' e1 e2) h5
      · cases ha : l1[i]? with
        | none => rw [ha] at h4; exact h4.elim
        | some a =>
        rw [ha] at h4
        have h5 := hw (n + i) a (by rw [List.getElem?_append_right (by omega), hlen, show n + i - n = i by omega]; exact ha)
        rw [e3 b, h2]
        exact blk_mv eB e3 (inr E E' e1 e2) (h4.ok (by rw [e1, List.length_append, hlen]; exact Nat.le_refl _) h5)
  · have own : ∀ (b : Nat) (x : ABlk), (H0 ++ l2)[b]? = some x → x.owned = true → ∃ x', (H0 ++ l1)[sig n l1.length sel b]? = some x' ∧ x'.owned = true := fun b x hx ho => by
      by_cases hb : b < n
      · rw [small b hb, List.getElem?_append_left (by omega)]
        rw [List.getElem?_append_left (by omega)] at hx
        exact ⟨x, hx, ho⟩
      · obtain ⟨i, h1, h2, h3⟩ := new b x hb hx
        rcases hH _ i x h1 h3 with rfl | h4 | h4
        · cases ho
        rotate_left
        · rw [h2, List.getElem?_append_right (by omega), hlen, show n + i - n = i by omega]
          exact h4.own (by cases x <;> exact ho)
        · rw [h2, List.getElem?_append_right (by omega), hlen, show n + i - n = i by omega]
          exact ⟨_, h4, by cases x <;> exact ho⟩
    refine ⟨?_, own b x hx ox, own c y hy oy⟩
    by_cases hb : b < n <;> by_cases hc : c < n
    · rw [small b hb, small c hc]; exact hbc
    · obtain ⟨j, -, h2, -⟩ := new c y hc hy
      rw [small b hb, h2]; omega
    · obtain ⟨i, -, h2, -⟩ := new b x hb hx
      rw [small c hc, h2]; omega
    · obtain ⟨i, h1, h2, -⟩ := new b x hb hx
      obtain ⟨j, h3, h4, -⟩ := new c y hc hy
      rw [h2, h4]
      intro e
      have hij : i = j := by omega
      subst hij
      have hb1 := getElem?_lt h1
      have := (List.getElem?_inj hb1 hnd).1 (h1.trans h3.symm)
      omega

theorem Abs.of {n : Nat} {H0 l1 l2 : AHeap} {F1 F2 : Fr} (G : AHeap) (hG : G.all phant = true) (hlen : H0.length = n) (hsc : HBel n H0) (sel : List Nat) (hnd : sel.Nodup)
    (hF : ∀ p ∈ F2, W (n + (l1 ++ G).length) (look F1 p.1) (p.2.mv (sig n (l1 ++ G).length sel))) (hl : l2.length = sel.length)
    (hH : ∀ (i b : Nat) (x : ABlk), sel[i]? = some b → l2[i]? = some x → x = .dead ∨ (l1 ++ G)[b]? = some (x.mv (sig n (l1 ++ G).length sel)) ∨ BW (n + (l1 ++ G).length) ((l1 ++ G)[b]?) (x.mv (sig n (l1 ++ G).length sel))) :
    Abs n (sig n (l1 ++ G).length sel) F1 (H0 ++ l1) F2 (H0 ++ l2) := ⟨G, hG, by rw [List.append_assoc]; exact Abs0.of hlen hsc sel hnd hF hl hH⟩
section
variable {P : Program} {N : Nat} {H : AHeap}
def argF : Nat → List AV → Fr
  | _, [] => []
  | i, x :: r => (i, x) :: argF (i + 1) r
theorem look_argF : ∀ (xs : List AV) (i t : Nat), look (argF i xs) t = if i ≤ t then (xs[t - i]?).getD .any else .any
  | [], i, t => by simp [argF, look]
  | x :: r, i, t => by
    unfold argF look
    by_cases e : i = t
    · subst e; simp
    · have : (i == t) = false := by simp [e]
      rw [this, cond_false, look_argF r (i + 1) t]
      by_cases h : i + 1 ≤ t
      · rw [if_pos h, if_pos (by omega), show t - i = t - (i + 1) + 1 by omega, List.getElem?_cons_succ]
      · rw [if_neg h, if_neg (by omega)]
/-- What a function hands back. -/
def aRes (P : Program) : List ResultVar → Fr → AHeap → Option (List AV)
  | [], _, _ => some []
  | .tmp t :: rs, F, H => (aRes P rs F H).map fun l => look F t :: l
  | .cell a t :: rs, F, H => (aLoad P t (look F a) H).bind fun x => (aRes P rs F H).map fun l => x.1 :: l
def one1 : List AV → AV
  | [x] => x
  | l => .tup l
def aResult (P : Program) (fn : Func) (F : Fr) (H : AHeap) : Option AV := (aRes P fn.results.toList F H).map one1
theorem aLoad_keeps {t : TypeId} {x : AV} {r : AV × AHeap} (hr : aLoad P t x H = some r) : r.2 = H := by
  unfold aLoad at hr
  split at hr
  · obtain ⟨g, -, hr⟩ := bind_some' hr
    cases g
    · simp only [cond_false, Option.map_eq_some_iff] at hr; obtain ⟨a, -, rfl⟩ := hr; rfl
    · simp only [cond_true] at hr
      obtain ⟨a, -, hr⟩ := bind_some' hr
      simp only [Option.map_eq_some_iff] at hr; obtain ⟨a, -, rfl⟩ := hr; rfl
  · cases hr
theorem run_loadAt_same {E : Env} {w : World} (h : Emb E H w) {t : TypeId} {x : AV} {v : Value} (hv : Rel E x v) {r : AV × AHeap} (hr : aLoad P t x H = some r) : ∃ u, (do loadVar t (← asAddr v)).run P w = .ok u w ∧ Rel E r.1 u := by
  unfold aLoad at hr
  split at hr
  · rename_i b o
    cases hv with
    | ptr _ _ hb =>
    obtain ⟨g, hg, hr⟩ := bind_some' hr
    cases g
    · simp only [cond_false, Option.map_eq_some_iff] at hr
      obtain ⟨y, hy, rfl⟩ := hr
      obtain ⟨-, u, hu, hru⟩ := ard_spec h hy
      exact ⟨u, by simp [asAddr, loadVar, run_isAgg hg, hu], hru⟩
    · simp only [cond_true] at hr
      obtain ⟨n, hn, hr⟩ := bind_some' hr
      simp only [Option.map_eq_some_iff] at hr
      obtain ⟨l, hl, rfl⟩ := hr
      obtain ⟨h1, -, vs, h2, h3⟩ := ards_spec h hl
      have hrun := run_loadCells' (P := P) (w := w) (E.loc b).blk ((E.loc b).off + o) vs h3
      rw [← h2.1, h1] at hrun
      exact ⟨_, by simp [asAddr, loadVar, run_isAgg hg, run_sizeOf' hn, hrun], h2.agg⟩
  · cases hr
theorem run_aRes {E : Env} {w : World} (h : Emb E H w) {F : Fr} {a : Act} (hF : FrRel E F a) (f : ResultVar → Sem Value) (f1 : ∀ t, f (.tmp t) = Pure.pure (a.tmps.getD t undef)) (f2 : ∀ b t, f (.cell b t) = do loadVar t (← asAddr (a.tmps.getD b undef))) : ∀ (rs : List ResultVar) (l : List AV), aRes P rs F H = some l →
    ∃ vs : List Value, (rs.mapM f).run P w = .ok vs w ∧ RelL E l vs
  | [], l, hl => by
    simp [aRes] at hl; subst hl
    exact ⟨[], by simp, RelL.nil E⟩
  | .tmp t :: rs, l, hl => by
    simp only [aRes, Option.map_eq_some_iff] at hl
    obtain ⟨l', hl', rfl⟩ := hl
    obtain ⟨vs, h1, h2⟩ := run_aRes h hF f f1 f2 rs l' hl'
    exact ⟨_ :: vs, by simp only [List.mapM_cons, f1, Sem.run_bind, Sem.run_pure, Result.andThen_ok, h1], .cons (hF t) h2⟩
  | .cell b t :: rs, l, hl => by
    simp only [aRes] at hl
    obtain ⟨q, hq, hl⟩ := bind_some' hl
    simp only [Option.map_eq_some_iff] at hl
    obtain ⟨l', hl', rfl⟩ := hl
    obtain ⟨vs, h1, h2⟩ := run_aRes h hF f f1 f2 rs l' hl'
    obtain ⟨u, hu, hru⟩ := run_loadAt_same h (hF b) hq
    exact ⟨u :: vs, by rw [List.mapM_cons, f2, Sem.run_bind, hu]; simp only [Sem.run_bind, Result.andThen_ok, Sem.run_pure, h1], .cons hru h2⟩
/-- At a function's end. -/
def AEnd (P : Program) (fn : Func) (n : Nat) (R : AV → AHeap → Prop) : Exit → Fr → AHeap → Prop
  | .normal, F, H | .ret, F, H => ∃ x1, aResult P fn F H = some x1 ∧ ∃ σ x2 H2, R x2 H2 ∧ Abs n σ [(0, x1)] H [(0, x2)] H2
  | _, _, _ => False
theorem run_results {E : Env} {w : World} (h : Emb E H w) {F : Fr} {a : Act} (hF : FrRel E F a) {fn : Func} {x : AV} (hx : aResult P fn F H = some x) : ∃ v, (results fn a.tmps).run P w = .ok v w ∧ Rel E x v := by
  unfold aResult at hx
  simp only [Option.map_eq_some_iff] at hx
  obtain ⟨l, hl, rfl⟩ := hx
  have fin : ∀ vs : List Value, RelL E l vs → Rel E (one1 l) (if h : vs.toArray.size = 1 then vs.toArray[0] else .tuple vs.toArray) := fun vs h2 => by
    match l, vs, h2 with
    | [], [], h2 => exact h2.tup
    | [x], [v], h2 => exact h2.uncons.1
    | x :: y :: r, v :: u :: s, h2 => exact h2.tup
  have gen : ∀ f : ResultVar → Sem Value, (∀ t, f (.tmp t) = Pure.pure (a.tmps.getD t undef)) → (∀ b t, f (.cell b t) = do loadVar t (← asAddr (a.tmps.getD b undef))) →
      ∃ v, (do let vs ← fn.results.mapM f; Pure.pure (if h : vs.size = 1 then vs[0] else .tuple vs) : Sem Value).run P w = .ok v w ∧ Rel E (one1 l) v := fun f f1 f2 => by
    obtain ⟨vs, h1, h2⟩ := run_aRes h hF f f1 f2 _ l hl
    refine ⟨_, ?_, fin vs h2⟩
    rw [Array.mapM_eq_mapM_toList]
    simp only [Sem.run_bind, Sem.run_map]
    rw [h1]
    simp
  unfold results
  refine gen _ ?_ ?_
  · intro t; rfl
  · intro b t; rfl
theorem ACalls_of {f : FuncId} {fn : Func} {c : Code} {args : List AV} {R : AV → AHeap → Prop} (hf : P.funcs[f]? = some fn) (hb : fn.body = some c) (hN : fn.ntmps = N) (ha : args.length ≤ N)
    (h : HBel H.length H → AW P N H.length c (AEnd P fn H.length R) (argF 0 args) H) : ACalls P f args H R := by
  intro E w vs hE hv
  refine calls_of_wp hf hb (wp_mono (h hE.bel E w _ (by rw [hE.n]; exact Nat.le_refl _) (by have := hv.1; simp; omega) rfl (fun t => ?_) hE) ?_)
  · rw [look_argF]
    simp only [Nat.zero_le, if_true, Nat.sub_zero]
    cases hx : args[t]? with
    | none => exact .any _
    | some x =>
      obtain ⟨v, hv1, hv2⟩ := hv.get hx
      have hlt := getElem?_lt hv1
      simp only [Option.getD_some]
      rw [Array.getD_eq_getD_getElem?, Array.getElem?_append_left (by simpa using hlt)]
      simp [hv1, hv2]
  · rintro e a w' ⟨E', F, H1, q, l, k2, k3, k4, k5⟩
    have fin : (∃ x1, aResult P fn F H1 = some x1 ∧ ∃ σ x2 H2, R x2 H2 ∧ Abs H.length σ [(0, x1)] H1 [(0, x2)] H2) → ∃ v, (results fn a.tmps).run P w' = .ok v w' ∧ ∃ E' v' H' x, Ending.returned v = .returned v' ∧ R x H' ∧ E.le E' ∧ Rel E' x v' ∧ Emb E' H' w' := by
      rintro ⟨x1, hx1, σ, x2, H2, hR, hab⟩
      obtain ⟨v, hv1, hv2⟩ := run_results k5 k4 hx1
      obtain ⟨E2, l2, f2, e2⟩ := hab.emb (a := ⟨#[v], []⟩) l.n (fun t => by
        unfold look
        cases t with
        | zero => simpa using hv2
        | succ t => simp [look]; exact .any _) k5
      refine ⟨v, hv1, E2, v, H2, x2, rfl, hR, ?_, ?_, e2⟩
      · have := l.trans l2
        exact ⟨this.B, this.w0, by rw [hE.n]; exact this.n, fun b hb => this.loc b (by rw [← hE.n]; exact hb)⟩
      · have := f2 0
        simpa [look] using this
    cases e with
    | normal =>
      obtain ⟨v, h1, h2⟩ := fin q
      exact ⟨k3, v, h1, h2⟩
    | ret =>
      obtain ⟨v, h1, h2⟩ := fin q
      exact ⟨k3, v, h1, h2⟩
    | exit id => exact q.elim
    | goto id => exact q.elim
    | panic ch => exact q.elim
    | outgrown => exact q.elim
end
end Go.Proofs.Ytjfnbcifafmefaa
